/- Own work. -/
import Derived.Test.YtekgjjgbdcgldaaGreatEvODN
set_option linter.all false
def Qja:=@List.drop_zero
def Qjb:=@List.length_append
def Qjc:=@Nat.lt_irrefl
def Qjd:=@Nat.zero_le
def Qje:=@List.length_drop
def Qjf:=@List.mem_cons_of_mem
def Qjg:=@Bool.and_eq_true
def Qjh:=@List.getElem_mem
def Qji:=@List.not_all_eq_any_not
def Qjj:=@Nat.zero_add
def Qjk:=@Nat.beq_refl
def Qjl:=@Bool.and_true
def Qjm:=@List.drop_eq_getElem_cons
def Qjn:=@Eq.trans
def Qjo:=@Nat.gcd_pos_of_pos_right
def Qjp:=@List.drop_eq_nil_of_le
def Qjq:=@List.length_take
def Qjr:=@List.mem_of_mem_drop
def Qjs:=@List.mem_cons_self
def Qjt:=@List.getD_eq_getElem?_getD
def Qju:=@Nat.gcd_zero_left
def Qjv:=@List.append_assoc
def Qjw:=@Nat.gcd_le_right
def Qjx:=@Bool.not_eq_true
def Qjy:=@List.all_eq_true
def Qjz:=@List.mem_append
def Qjaa:=@Bool.not_false
def Qjab:=@List.mem_cons
namespace Go.Ev.Ce
open Go Go.Ev Go.Ev.L Go.Proofs
set_option maxRecDepth 100000
structure bb6 where
 (K9 L0 L1 mb8 c8 b9 c9:Int)
noncomputable def gd1:List (Nat×Sum):=[(83,Ca5)]
theorem Wc2:i7 prog G gd1:=⟨Da2,trivial⟩
structure bb7 where
 bs0:Bool
noncomputable def ua2{α:Type}(kk:bb7->α)(x:bb6):α:=let t1:=(j7 (⟨x.c8,x.b9,x.c9⟩:V3) (⟨x.K9,x.L0,x.L1⟩:V3));(kk ⟨t1 != 0⟩)
noncomputable def Bb3(x:bb6):bb7:=ua2 (λr=>r) x
noncomputable def pb9(x:bb6)(r:bb7):DT (b7×List b8):=.ret (b r.bs0,[⟨0,3,[[i x.c8,i x.b9,i x.c9]],true,false,0⟩])
theorem sd9{α β:Type}(F:α->β)(kk:bb7->α)(x:bb6):F (ua2 kk x)=ua2 (λr=>F (kk r)) x:=by unfold ua2;(repeat' apply j6 (f:=F))<;>rfl
noncomputable def oc7:Sum:=Ka5 ⟨[.agg (kLq 4),sPq 0],[⟨0,3,true,some [kLq 3]⟩],λa H=>(⟨cIq a 0 0,cIq a 0 1,cIq a 0 2,cIq a 0 3,hIq H 0 0 0,hIq H 0 0 1,hIq H 0 0 2⟩,())⟩ (λx=>pb9 x (Bb3 x))
theorem gd2:i5 prog G 143 oc7:=B1 (enc:=λx=>⟨[.agg [i x.K9,i x.L0,i x.L1,i x.mb8],.ptr 0 0 0 0],[⟨0,3,[[i x.c8,i x.b9,i x.c9]],true,false,0⟩]⟩) (λa H=>by kernel_rfl) (bd Fg2 Wc2) λx=>o5 (Qjn (b:=ua2 (λr=>(pb9 x r).run) x) (by kernel_rfl) (sd9 (λr=>(pb9 x r).run) (λr=>r) x).symm)
structure ca6 where
 d9:List Pln
 (c8 b9 c9:Int)
noncomputable def Qa7:List (Nat×Sum):=[(143,oc7)]
theorem Gb1:i7 prog G Qa7:=⟨gd2,trivial⟩
structure M3 where
 d9:List Pln
 (is7 c8 b9 c9:Int)
structure p9 where
 is8:Int
noncomputable def Ha4(p:M3)(s:p9):St:=⟨eL tP p.d9::.fn 143 [.ptr 0 0 0 0]::ra 5 (i p.is7::i s.is8::ra 10 []),[⟨0,3,[[i p.c8,i p.b9,i p.c9]],true,false,0⟩]⟩
noncomputable def H6{α:Type}(k:p9->α)(e:Nat->α)(z:α)(p:M3)(s:p9):α:=let t1:=(Bb3 ⟨(gL tP p.d9 s.is8.toNat).n.x,(gL tP p.d9 s.is8.toNat).n.y,(gL tP p.d9 s.is8.toNat).n.z,(gL tP p.d9 s.is8.toNat).b,p.c8,p.b9,p.c9⟩);(sl (decide (s.is8<p.is7)) (sl (inB s.is8 (List.length p.d9)) (sl t1.bs0 (e 1) (k ⟨W (s.is8+1)⟩)) z) (e 2))
noncomputable def K4(p:M3)(s:p9):Stp p9:=H6 .next .exit .fail p s
noncomputable def oa4:Lo M3 p9:=⟨En Qa7,1,Ve8,[1,0,1,4,4],[0,1,7,8],.p,[⟨sLq tP::.fn 143 [.o (.ptr 0 0 0 0)]::ru2 5 (sIq::sIq::ru2 10 []),[⟨0,3,true,some [kLq 3]⟩],λa H=>(⟨aLq tP a 0,aIq a 7,hIq H 0 0 0,hIq H 0 0 1,hIq H 0 0 2⟩,⟨aIq a 8⟩)⟩],K4,[(none,λp s=>⟨[i s.is8],[⟨0,3,[[i p.c8,i p.b9,i p.c9]],true,false,0⟩]⟩),(some 0,λp s=>upq (Ha4 p s) [(9,b (decide (s.is8<p.is7)))])],Ha4⟩
theorem Bb4:oa4.Ok:=Lo.ok [] (by kernel_rfl) .nil rfl (.cons (λa H=>by kernel_rfl) .nil) λp s=>(.of @H6 (λF _ _ _ _ _=>by unfold H6;(repeat' apply j6 (f:=F))<;>rfl) (by kernel_rfl))
structure ca7 where
 alt:Nat
 is0:Int
noncomputable def I7{α:Type}(kk:ca7->α)(x:ca6):α:=let t1:=(lp (K4 (⟨rt tP x.d9,(↑(List.length x.d9):Int),x.c8,x.b9,x.c9⟩:M3)) (⟨0⟩:p9));(sl ((cnE tP x.d9)&&true) (sl (Nat.beq t1.1 1) (kk ⟨1,t1.2.is8⟩) (sl (Nat.beq t1.1 2) (kk ⟨1,-1⟩) (kk ⟨0,0⟩))) (kk ⟨0,0⟩))
noncomputable def ca8(x:ca6):ca7:=I7 (λr=>r) x
noncomputable def ra6(x:ca6)(r:ca7):DT (b7×List b8):=(.ite (Nat.beq r.alt 1) (.ret (i r.is0,[⟨0,3,[[i x.c8,i x.b9,i x.c9]],true,false,0⟩])) .fail)
theorem Qb9{α β:Type}(F:α->β)(kk:ca7->α)(x:ca6):F (I7 kk x)=I7 (λr=>F (kk r)) x:=by unfold I7;(repeat' apply j6 (f:=F))<;>rfl
noncomputable def Va4:Sum:=Ka5 ⟨[sLq tP,.fn 143 [.o (.ptr 0 0 0 0)]],[⟨0,3,true,some [kLq 3]⟩],λa H=>(⟨aLq tP a 0,hIq H 0 0 0,hIq H 0 0 1,hIq H 0 0 2⟩,())⟩ (λx=>ra6 x (ca8 x))
theorem Ob0:i5 prog G 139 Va4:=B1 (enc:=λx=>⟨[eL tP x.d9,.fn 143 [.ptr 0 0 0 0]],[⟨0,3,[[i x.c8,i x.b9,i x.c9]],true,false,0⟩]⟩) (λa H=>by kernel_rfl) (bd eg5 Gb1) λx=>za7 (.s .p (.s (.s .p (.b (.u oa4.ls))) .p)) [oa4.pr] (by kernel_rfl) (.cons Bb4 .nil) (Qjn (b:=I7 (λr=>(ra6 x r).run) x) (by kernel_rfl) (Qb9 (λr=>(ra6 x r).run) (λr=>r) x).symm)
structure U5 where
 d9:List Pln
 (c8 b9 c9:Int)
noncomputable def xb3:List (Nat×Sum):=[(139,Va4)]
theorem qb0:i7 prog G xb3:=⟨Ob0,trivial⟩
structure U6 where
 alt:Nat
 bs0:Bool
noncomputable def D2{α:Type}(kk:U6->α)(x:U5):α:=let t1:=(ca8 ⟨rt tP x.d9,x.c8,x.b9,x.c9⟩);(sl ((cnE tP x.d9)&&true) (sl (Nat.beq t1.alt 1) (kk ⟨1,decide (t1.is0>=0)⟩) (kk ⟨0,false⟩)) (kk ⟨0,false⟩))
noncomputable def U7(x:U5):U6:=D2 (λr=>r) x
noncomputable def ha7(x:U5)(r:U6):DT (b7×List b8):=(.ite (Nat.beq r.alt 1) (.ret (b r.bs0,[⟨0,3,[[i x.c8,i x.b9,i x.c9]],true,false,0⟩])) .fail)
theorem Bb5{α β:Type}(F:α->β)(kk:U6->α)(x:U5):F (D2 kk x)=D2 (λr=>F (kk r)) x:=by unfold D2;(repeat' apply j6 (f:=F))<;>rfl
noncomputable def Ha5:Sum:=Ka5 ⟨[sLq tP,.fn 143 [.o (.ptr 0 0 0 0)]],[⟨0,3,true,some [kLq 3]⟩],λa H=>(⟨aLq tP a 0,hIq H 0 0 0,hIq H 0 0 1,hIq H 0 0 2⟩,())⟩ (λx=>ha7 x (U7 x))
theorem xb4:i5 prog G 86 Ha5:=B1 (enc:=λx=>⟨[eL tP x.d9,.fn 143 [.ptr 0 0 0 0]],[⟨0,3,[[i x.c8,i x.b9,i x.c9]],true,false,0⟩]⟩) (λa H=>by kernel_rfl) (bd b86 qb0) λx=>o5 (Qjn (b:=D2 (λr=>(ha7 x r).run) x) (by kernel_rfl) (Bb5 (λr=>(ha7 x r).run) (λr=>r) x).symm)
noncomputable def Ob1:List (Nat×Sum):=[(142,rb3),(86,Ha5)]
theorem td0:i7 prog G Ob1:=⟨Kb4,xb4,trivial⟩
structure Ha6 where
 (d9 zc2:List Pln)
 (is9 v7:Int)
 xg0:Nat
 jf9:Nat->List b7
 (La4 c8 b9 c9 g8:Int)
structure aa8 where
 vd2:Int
noncomputable def ec3(p:Ha6)(s:aa8):St:=⟨eL tP p.d9::ra 3 (.ptr 0 0 0 0::ra 3 (eL tP p.zc2::i p.is9::i p.v7::ra 6 (.tree 4 p.xg0 p.jf9::i p.La4::i s.vd2::ra 18 []))),[⟨0,4,[[i p.c8,i p.b9,i p.c9,i p.g8]],true,false,0⟩]⟩
noncomputable def wa6{α:Type}(k:aa8->α)(e:Nat->α)(z:α)(p:Ha6)(s:aa8):α:=let t1:=(D8 (⟨p.c8,p.b9,p.c9⟩:V3) (⟨toI (hdA (p.jf9 s.vd2.toNat)),toI (hdA (tlA (p.jf9 s.vd2.toNat))),toI (hdA (tlA (tlA (p.jf9 s.vd2.toNat))))⟩:V3));let t2:=(U7 ⟨rt tP p.d9,t1.x,t1.y,t1.z⟩);(sl (decide (s.vd2<p.La4)) (sl (inB s.vd2 p.xg0) (sl ((Nat.ble 4 (len (p.jf9 s.vd2.toNat)))&&(oa7 [CK.int .i64,CK.int .i64,CK.int .i64,CK.int .i64] (p.jf9 s.vd2.toNat))) (sl (!((t1.x==0)&&((t1.y==0)&&((t1.z==0)&&true)))) (sl ((cnE tP p.d9)&&true) (sl (Nat.beq t2.alt 1) (sl t2.bs0 (e 1) (k ⟨W (s.vd2+1)⟩)) z) z) (k ⟨W (s.vd2+1)⟩)) z) z) (e 2))
noncomputable def pa6(p:Ha6)(s:aa8):Stp aa8:=wa6 .next .exit .fail p s
noncomputable def Bb6:Lo Ha6 aa8:=⟨En Ob1,0,eg4,[1,0,1,4,4,1,1,0,4,1,1,4,4],[0,4,8,9,10,17,18,19],.p,[⟨sLq tP::ru2 3 (sPq 0::ru2 3 (sLq tP::sIq::sIq::ru2 6 (sTq 4::sIq::sIq::ru2 18 []))),[⟨0,4,true,some [kLq 4]⟩],λa H=>(⟨aLq tP a 0,aLq tP a 8,aIq a 9,aIq a 10,aNq a 17,aGq a 17,aIq a 18,hIq H 0 0 0,hIq H 0 0 1,hIq H 0 0 2,hIq H 0 0 3⟩,⟨aIq a 19⟩)⟩],pa6,[(none,λp s=>⟨[b true],[]⟩),(some 2,λp s=>upq (ec3 p s) [(20,b (decide (s.vd2<p.La4)))])],ec3⟩
theorem gd3:Bb6.Ok:=Lo.ok [] (by kernel_rfl) .nil rfl (.cons (λa H=>by kernel_rfl) .nil) λp s=>(.of @wa6 (λF _ _ _ _ _=>by unfold wa6;(repeat' apply j6 (f:=F))<;>rfl) (by kernel_rfl))
structure Ha7 where
 is9:Int
structure aa9 where
 (d9 zc2:List Pln)
 v7:Int
noncomputable def ec4(p:Ha7)(s:aa9):St:=⟨eL tP s.d9::ra 7 (eL tP s.zc2::i p.is9::i s.v7::ra 27 []),[]⟩
noncomputable def wa7{α:Type}(k:aa9->α)(e:Nat->α)(z:α)(p:Ha7)(s:aa9):α:=let t1:=(lp (pa6 (⟨rt tP s.d9,rt tP s.zc2,p.is9,s.v7,s.v7.toNat-0,(λk=>(λk=>(tP).row (gL tP s.d9 k)) (0+k)),(↑(s.v7.toNat-0):Int),(gL tP s.zc2 s.v7.toNat).n.x,(gL tP s.zc2 s.v7.toNat).n.y,(gL tP s.zc2 s.v7.toNat).n.z,(gL tP s.zc2 s.v7.toNat).b⟩:Ha6)) (⟨0⟩:aa8));(sl (decide (s.v7<p.is9)) (sl (inB s.v7 (List.length s.zc2)) (sl (inB s.v7 ((List.length s.d9)+1)) (sl ((cnE tP s.d9)&&((cnE tP s.zc2)&&true)) (sl (Nat.beq t1.1 1) (e 1) (sl (Nat.beq t1.1 2) (k ⟨rt tP s.d9,rt tP s.zc2,W (s.v7+1)⟩) z)) z) z) z) (e 2))
noncomputable def pa7(p:Ha7)(s:aa9):Stp aa9:=wa7 .next .exit .fail p s
noncomputable def Bb7:Lo Ha7 aa9:=⟨En Ob1,0,eg4,[1,0,1,4,4],[0,8,9,10],.s .p (.s .p (.s (.b (.s .p (.s .p (.b (.u Bb6.ls))))) .p)),[⟨sLq tP::ru2 7 (sLq tP::sIq::sIq::ru2 27 []),[],λa H=>(⟨aIq a 9⟩,⟨aLq tP a 0,aLq tP a 8,aIq a 10⟩)⟩],pa7,[(none,λp s=>⟨[b true],[]⟩),(some 0,λp s=>upq (ec4 p s) [(11,b (decide (s.v7<p.is9)))])],ec4⟩
theorem gd4:Bb7.Ok:=Lo.ok [Bb6.pr] (by kernel_rfl) (.cons gd3 .nil) rfl (.cons (λa H=>by kernel_rfl) .nil) λp s=>(.of @wa7 (λF _ _ _ _ _=>by unfold wa7;(repeat' apply j6 (f:=F))<;>rfl) (by kernel_rfl))
noncomputable def Ya9(x:List Pln):Option (b7×List b8):=let t1:=(lp (pa7 (⟨(↑(List.length x):Int)⟩:Ha7)) (⟨rt tP x,rt tP x,0⟩:aa9));(sl ((cnE tP x)&&((cnE tP x)&&true)) (sl (Nat.beq t1.1 1) (some (b true,[])) (sl (Nat.beq t1.1 2) (some (b false,[])) none)) none)
noncomputable def Ja4(x:List Pln):Bool:=E9 (one r1B) (Ya9 x)
noncomputable def Ja5(x:List Pln):Bool:=okO (one r1B) (Ya9 x)
noncomputable def Ic1:Sum:=O9 (ea7 tP) (λx=>.guard (Ja5 x) (.ret ((one r1B).enc (Ja4 x),[])))
theorem Id5:i5 prog G 90 Ic1:=ua7 (bd b90 td0) (one r1B) (o:=Ya9) λx=>za7 (.s .p (.s (.s .p (.b (.u Bb7.ls))) .p)) [Bb7.pr] (by kernel_rfl) (.cons gd4 .nil) (by kernel_rfl)
structure Sa8 where
 (K9 L0 L1:Int)
 e8:List Pln
noncomputable def Tb9:List (Nat×Sum):=[(88,Fb1),(90,Ic1)]
theorem Nc4:i7 prog G Tb9:=⟨Yb2,Id5,trivial⟩
structure O0 where
 ab0:List Pln
 is8:Int
 e8:List Pln
 (y5 y6 y7:Int)
structure o6 where
 ph:Nat
 is9:Int
 ns4:Nat
 eh2:List (List b7)
noncomputable def xb5(p:O0)(s:o6):St:=⟨.unk::.unk::.ptr 1 0 0 0::.unk::.v (.slice none 0 0)::.unk::.unk::eL tP p.ab0::i p.is8::i s.is9::ra 15 [],[⟨0,1,[[eL tP p.e8]],true,false,0⟩,⟨0,3,[[i p.y5,i p.y6,i p.y7]],true,false,0⟩]⟩
noncomputable def xb6(p:O0)(s:o6):St:=⟨.unk::.unk::.ptr 1 0 0 0::.unk::.sl 2 0 s.ns4 0::.unk::.unk::eL tP p.ab0::i p.is8::i s.is9::ra 15 [],[⟨0,1,[[eL tP p.e8]],true,false,0⟩,⟨0,3,[[i p.y5,i p.y6,i p.y7]],true,false,0⟩,⟨73,4,s.eh2,true,false,0⟩]⟩
noncomputable def Dc8(p:O0)(s:o6):St:=(sel (Nat.beq s.ph 1) (xb6 p s) (xb5 p s))
noncomputable def O1{α:Type}(k:o6->α)(e:Nat->α)(z:α)(p:O0)(s:o6):α:=let t1:=(wa0 (gL tP p.ab0 s.is9.toNat) (⟨p.y5,p.y6,p.y7⟩:V3));(sl (decide (s.is9<p.is8)) (sl (inB s.is9 (List.length p.ab0)) (sl (wa1 (gL tP p.ab0 s.is9.toNat) (⟨p.y5,p.y6,p.y7⟩:V3)) (sl (t1==0) (k ⟨1,W (s.is9+1),1,[[i (gL tP p.ab0 s.is9.toNat).n.x,i (gL tP p.ab0 s.is9.toNat).n.y,i (gL tP p.ab0 s.is9.toNat).n.z,i (gL tP p.ab0 s.is9.toNat).b]]⟩) (k ⟨0,W (s.is9+1),0,[]⟩)) z) z) (e 1))
noncomputable def O2{α:Type}(k:o6->α)(e:Nat->α)(z:α)(p:O0)(s:o6):α:=let t1:=(wa0 (gL tP p.ab0 s.is9.toNat) (⟨p.y5,p.y6,p.y7⟩:V3));(sl (decide (s.is9<p.is8)) (sl (inB s.is9 (List.length p.ab0)) (sl (wa1 (gL tP p.ab0 s.is9.toNat) (⟨p.y5,p.y6,p.y7⟩:V3)) (sl (t1==0) (sl (Nat.beq s.ns4 (len s.eh2)&&Nat.ble ((s.ns4+1)*32) room) (k ⟨1,W (s.is9+1),s.ns4+1,app s.eh2 [[i (gL tP p.ab0 s.is9.toNat).n.x,i (gL tP p.ab0 s.is9.toNat).n.y,i (gL tP p.ab0 s.is9.toNat).n.z,i (gL tP p.ab0 s.is9.toNat).b]]⟩) z) (k ⟨1,W (s.is9+1),s.ns4,s.eh2⟩)) z) z) (e 2))
noncomputable def Aa2(p:O0)(s:o6):Stp o6:=(sel (Nat.beq s.ph 1) (O2 .next .exit .fail p s) (O1 .next .exit .fail p s))
noncomputable def db5:Lo O0 o6:=⟨En Tb9,1,og5,[1,1,0,1,4,4],[2,4,7,8,9],.p,[⟨sUq::sUq::sPq 1::sUq::.s (.o .nil)::sUq::sUq::sLq tP::sIq::sIq::ru2 15 [],[⟨0,1,true,some [[.c 4 (nL tP)]]⟩,⟨0,3,true,some [kLq 3]⟩],λa H=>(⟨aLq tP a 7,aIq a 8,hLq tP H 0 0 0,hIq H 1 0 0,hIq H 1 0 1,hIq H 1 0 2⟩,⟨0,aIq a 9,0,[]⟩)⟩,⟨sUq::sUq::sPq 1::sUq::.s (.o (.sl 2 0 (some 0) none))::sUq::sUq::sLq tP::sIq::sIq::ru2 15 [],[⟨0,1,true,some [[.c 4 (nL tP)]]⟩,⟨0,3,true,some [kLq 3]⟩,⟨73,4,true,none⟩],λa H=>(⟨aLq tP a 7,aIq a 8,hLq tP H 0 0 0,hIq H 1 0 0,hIq H 1 0 1,hIq H 1 0 2⟩,⟨1,aIq a 9,slN (slT a 4),elT H 2⟩)⟩],Aa2,[(some 0,λp s=>upq (xb5 p s) [(10,b (decide (s.is9<p.is8)))]),(some 0,λp s=>upq (xb6 p s) [(10,b (decide (s.is9<p.is8)))])],Dc8⟩
theorem Dc9:db5.Ok:=Lo.ok [] (by kernel_rfl) .nil rfl (.cons (λa H=>by kernel_rfl) (.cons (λa H=>by kernel_rfl) .nil)) λp s=>(.sel (Nat.beq s.ph 1) (.of @O2 (λF _ _ _ _ _=>by unfold O2;(repeat' apply j6 (f:=F))<;>rfl) (by kernel_rfl)) (.of @O1 (λF _ _ _ _ _=>by unfold O1;(repeat' apply j6 (f:=F))<;>rfl) (by kernel_rfl)))
structure Sa9 where
 alt:Nat
 bs0:Bool
 e8:List Pln
noncomputable def pa8{α:Type}(kk:Sa9->α)(x:Sa8):α:=let t1:=(lp (Aa2 (⟨rt tP x.e8,(↑(List.length x.e8):Int),rt tP x.e8,x.K9,x.L0,x.L1⟩:O0)) (⟨0,0,0,[]⟩:o6));let t2:=(Ja4 []);let t3:=(Ja4 (slR tP t1.2.eh2 0 t1.2.ns4));(sl ((cnE tP x.e8)&&((cnE tP x.e8)&&true)) (sl (Nat.beq t1.1 1) (sl (Ja5 []) (kk ⟨1,!t2,rt tP x.e8⟩) (kk ⟨0,false,[]⟩)) (sl (Nat.beq t1.1 2) (sl (okS tP t1.2.eh2 0 t1.2.ns4) (sl (Ja5 (slR tP t1.2.eh2 0 t1.2.ns4)) (kk ⟨1,!t3,rt tP x.e8⟩) (kk ⟨0,false,[]⟩)) (kk ⟨0,false,[]⟩)) (kk ⟨0,false,[]⟩))) (kk ⟨0,false,[]⟩))
noncomputable def ea5(x:Sa8):Sa9:=pa8 (λr=>r) x
noncomputable def lb0(x:Sa8)(r:Sa9):DT (b7×List b8):=(.ite (Nat.beq r.alt 1) (.ret (b r.bs0,[⟨0,1,[[eL tP r.e8]],true,false,0⟩])) .fail)
theorem gd5{α β:Type}(F:α->β)(kk:Sa9->α)(x:Sa8):F (pa8 kk x)=pa8 (λr=>F (kk r)) x:=by unfold pa8;(repeat' apply j6 (f:=F))<;>rfl
noncomputable def qb1:Sum:=Ka5 ⟨[.agg (kLq 3),sPq 0],[⟨0,1,true,some [[.c 4 (nL tP)]]⟩],λa H=>(⟨cIq a 0 0,cIq a 0 1,cIq a 0 2,hLq tP H 0 0 0⟩,())⟩ (λx=>lb0 x (ea5 x))
theorem Ub0:i5 prog G 89 qb1:=B1 (enc:=λx=>⟨[.agg [i x.K9,i x.L0,i x.L1],.ptr 0 0 0 0],[⟨0,1,[[eL tP x.e8]],true,false,0⟩]⟩) (λa H=>by kernel_rfl) (bd b89 Nc4) λx=>za7 (.s .p (.s .p (.s (.s .p (.b (.u db5.ls))) .p))) [db5.pr] (by kernel_rfl) (.cons Dc9 .nil) (Qjn (b:=pa8 (λr=>(lb0 x r).run) x) (by kernel_rfl) (gd5 (λr=>(lb0 x r).run) (λr=>r) x).symm)
structure ja5 where
 ns0:Nat
 eh0:List (List b7)
 r4:List Pln
noncomputable def Za0:List (Nat×Sum):=[(89,qb1)]
theorem Rb0:i7 prog G Za0:=⟨Ub0,trivial⟩
structure Q3 where
 ns0:Nat
 is7:Int
 eh0:List (List b7)
structure s8 where
 is8:Int
 r4:List Pln
noncomputable def Qa8(p:Q3)(s:s8):St:=⟨.sl 0 0 p.ns0 0::.fn 89 [.ptr 1 0 0 0]::ra 5 (i p.is7::i s.is8::ra 10 []),[⟨27,3,p.eh0,true,false,0⟩,⟨0,1,[[eL tP s.r4]],true,false,0⟩]⟩
noncomputable def M4{α:Type}(k:s8->α)(e:Nat->α)(z:α)(p:Q3)(s:s8):α:=let t1:=(ea5 ⟨(rdR tV p.eh0 (0+s.is8.toNat)).x,(rdR tV p.eh0 (0+s.is8.toNat)).y,(rdR tV p.eh0 (0+s.is8.toNat)).z,rt tP s.r4⟩);(sl (decide (s.is8<p.is7)) (sl (inB s.is8 p.ns0) (sl (ldR tV p.eh0 (0+s.is8.toNat)) (sl ((cnE tP s.r4)&&true) (sl (Nat.beq t1.alt 1) (sl t1.bs0 (e 1) (k ⟨W (s.is8+1),t1.e8⟩)) z) z) z) z) (e 2))
noncomputable def O3(p:Q3)(s:s8):Stp s8:=M4 .next .exit .fail p s
noncomputable def ta2:Lo Q3 s8:=⟨En Za0,2,ye6,[1,0,1,4,4],[0,1,7,8],.p,[⟨.s (.o (.sl 0 0 (some 0) none))::.fn 89 [.o (.ptr 1 0 0 0)]::ru2 5 (sIq::sIq::ru2 10 []),[⟨27,3,true,none⟩,⟨0,1,true,some [[.c 4 (nL tP)]]⟩],λa H=>(⟨slN (slT a 0),aIq a 7,elT H 0⟩,⟨aIq a 8,hLq tP H 1 0 0⟩)⟩],O3,[(none,λp s=>let t1:=(ea5 ⟨(rdR tV p.eh0 (0+s.is8.toNat)).x,(rdR tV p.eh0 (0+s.is8.toNat)).y,(rdR tV p.eh0 (0+s.is8.toNat)).z,rt tP s.r4⟩);⟨[i s.is8],[⟨27,3,p.eh0,true,false,0⟩,⟨0,1,[[eL tP t1.e8]],true,false,0⟩]⟩),(some 0,λp s=>upq (Qa8 p s) [(9,b (decide (s.is8<p.is7)))])],Qa8⟩
theorem Ob2:ta2.Ok:=Lo.ok [] (by kernel_rfl) .nil rfl (.cons (λa H=>by kernel_rfl) .nil) λp s=>(.of @M4 (λF _ _ _ _ _=>by unfold M4;(repeat' apply j6 (f:=F))<;>rfl) (by kernel_rfl))
structure ja6 where
 alt:Nat
 is0:Int
 r4:List Pln
noncomputable def N1{α:Type}(kk:ja6->α)(x:ja5):α:=let t1:=(lp (O3 (⟨x.ns0,(↑x.ns0:Int),x.eh0⟩:Q3)) (⟨0,rt tP x.r4⟩:s8));let t2:=(ea5 ⟨(rdR tV x.eh0 (0+t1.2.is8.toNat)).x,(rdR tV x.eh0 (0+t1.2.is8.toNat)).y,(rdR tV x.eh0 (0+t1.2.is8.toNat)).z,rt tP t1.2.r4⟩);(sl ((cnE tP x.r4)&&true) (sl (Nat.beq t1.1 1) (kk ⟨1,t1.2.is8,t2.e8⟩) (sl (Nat.beq t1.1 2) (kk ⟨1,-1,t1.2.r4⟩) (kk ⟨0,0,[]⟩))) (kk ⟨0,0,[]⟩))
noncomputable def ja7(x:ja5):ja6:=N1 (λr=>r) x
noncomputable def za2(x:ja5)(r:ja6):DT (b7×List b8):=(.ite (Nat.beq r.alt 1) (.ret (i r.is0,[⟨27,3,x.eh0,true,false,0⟩,⟨0,1,[[eL tP r.r4]],true,false,0⟩])) .fail)
theorem ec5{α β:Type}(F:α->β)(kk:ja6->α)(x:ja5):F (N1 kk x)=N1 (λr=>F (kk r)) x:=by unfold N1;(repeat' apply j6 (f:=F))<;>rfl
noncomputable def fb3:Sum:=Ka5 ⟨[.s (.o (.sl 0 0 (some 0) none)),.fn 89 [.o (.ptr 1 0 0 0)]],[⟨27,3,true,none⟩,⟨0,1,true,some [[.c 4 (nL tP)]]⟩],λa H=>(⟨slN (slT a 0),elT H 0,hLq tP H 1 0 0⟩,())⟩ (λx=>za2 x (ja7 x))
theorem Zb0:i5 prog G 144 fb3:=B1 (enc:=λx=>⟨[.sl 0 0 x.ns0 0,.fn 89 [.ptr 1 0 0 0]],[⟨27,3,x.eh0,true,false,0⟩,⟨0,1,[[eL tP x.r4]],true,false,0⟩]⟩) (λa H=>by kernel_rfl) (bd Lf7 Rb0) λx=>za7 (.s .p (.s (.s .p (.b (.u ta2.ls))) .p)) [ta2.pr] (by kernel_rfl) (.cons Ob2 .nil) (Qjn (b:=N1 (λr=>(za2 x r).run) x) (by kernel_rfl) (ec5 (λr=>(za2 x r).run) (λr=>r) x).symm)
structure ja8 where
 ns0:Nat
 eh0:List (List b7)
 r4:List Pln
noncomputable def Za1:List (Nat×Sum):=[(144,fb3),(89,qb1)]
theorem Rb1:i7 prog G Za1:=⟨Zb0,Ub0,trivial⟩
structure Q4 where
 ns0:Nat
structure z6 where
 (is5 is6:Int)
 eh0:List (List b7)
 r4:List Pln
noncomputable def Qa9(p:Q4)(s:z6):St:=⟨.sl 0 0 p.ns0 0::.fn 89 [.ptr 1 0 0 0]::ra 3 (i s.is5::i s.is6::ra 35 []),[⟨27,3,s.eh0,true,false,0⟩,⟨0,1,[[eL tP s.r4]],true,false,0⟩]⟩
noncomputable def M5{α:Type}(k:z6->α)(e:Nat->α)(z:α)(p:Q4)(s:z6):α:=let t1:=(ea5 ⟨(rdR tV s.eh0 (0+s.is6.toNat)).x,(rdR tV s.eh0 (0+s.is6.toNat)).y,(rdR tV s.eh0 (0+s.is6.toNat)).z,rt tP s.r4⟩);(sl (decide (s.is6<(↑p.ns0:Int))) (sl (inB s.is6 p.ns0) (sl (ldR tV s.eh0 (0+s.is6.toNat)) (sl ((cnE tP s.r4)&&true) (sl (Nat.beq t1.alt 1) (sl (!t1.bs0) (sl (inB s.is5 p.ns0) (sl ((Nat.blt (0+s.is5.toNat) (len s.eh0))&&(Nat.ble (0+3) (len (o0 s.eh0 (0+s.is5.toNat))))) (k ⟨W (s.is5+1),W (s.is6+1),setAt s.eh0 (0+s.is5.toNat) (da4 (o0 s.eh0 (0+s.is5.toNat)) 0 [i (rdR tV s.eh0 (0+s.is6.toNat)).x,i (rdR tV s.eh0 (0+s.is6.toNat)).y,i (rdR tV s.eh0 (0+s.is6.toNat)).z]),t1.e8⟩) z) z) (k ⟨s.is5,W (s.is6+1),s.eh0,t1.e8⟩)) z) z) z) z) (e 1))
noncomputable def F9(p:Q4)(s:z6):Stp z6:=M5 .next .exit .fail p s
noncomputable def ta3:Lo Q4 z6:=⟨En Za1,2,og6,[1,1,1,0,1,4,4],[0,1,5,6],.p,[⟨.s (.o (.sl 0 0 (some 0) none))::.fn 89 [.o (.ptr 1 0 0 0)]::ru2 3 (sIq::sIq::ru2 35 []),[⟨27,3,true,none⟩,⟨0,1,true,some [[.c 4 (nL tP)]]⟩],λa H=>(⟨slN (slT a 0)⟩,⟨aIq a 5,aIq a 6,elT H 0,hLq tP H 1 0 0⟩)⟩],F9,[(some 0,λp s=>upq (Qa9 p s) [(16,i s.is6),(17,.sl 0 0 p.ns0 0),(18,i (↑p.ns0:Int)),(19,b (decide (s.is6<(↑p.ns0:Int))))])],Qa9⟩
theorem Ob3:ta3.Ok:=Lo.ok [] (by kernel_rfl) .nil rfl (.cons (λa H=>by kernel_rfl) .nil) λp s=>(.of @M5 (λF _ _ _ _ _=>by unfold M5;(repeat' apply j6 (f:=F))<;>rfl) (by kernel_rfl))
structure ja9 where
 (alt ns0:Nat)
 eh0:List (List b7)
 r4:List Pln
noncomputable def N2{α:Type}(kk:ja9->α)(x:ja8):α:=let t1:=(ja7 ⟨x.ns0,x.eh0,rt tP x.r4⟩);let t2:=(lp (F9 (⟨x.ns0⟩:Q4)) (⟨t1.is0,W (t1.is0+1),x.eh0,rt tP t1.r4⟩:z6));(sl ((cnE tP x.r4)&&true) (sl (Nat.beq t1.alt 1) (sl (t1.is0==(-1)) (kk ⟨1,x.ns0,x.eh0,t1.r4⟩) (sl ((cnE tP t1.r4)&&true) (sl (Nat.beq t2.1 1) (sl (inB t2.2.is5 (x.ns0+1)) (sl (inB t2.2.is5 (x.ns0+1)) (kk ⟨1,t2.2.is5.toNat-0,app (M7 t2.2.eh0 (0+t2.2.is5.toNat)) (app (List.replicate (x.ns0-t2.2.is5.toNat) [i 0,i 0,i 0]) (j8 t2.2.eh0 ((0+t2.2.is5.toNat)+(x.ns0-t2.2.is5.toNat)))),t2.2.r4⟩) (kk ⟨0,0,[],[]⟩)) (kk ⟨0,0,[],[]⟩)) (kk ⟨0,0,[],[]⟩)) (kk ⟨0,0,[],[]⟩))) (kk ⟨0,0,[],[]⟩)) (kk ⟨0,0,[],[]⟩))
noncomputable def ka0(x:ja8):ja9:=N2 (λr=>r) x
noncomputable def za3(x:ja8)(r:ja9):DT (b7×List b8):=(.ite (Nat.beq r.alt 1) (.ret (.sl 0 0 r.ns0 0,[⟨27,3,r.eh0,true,false,0⟩,⟨0,1,[[eL tP r.r4]],true,false,0⟩])) .fail)
theorem ec6{α β:Type}(F:α->β)(kk:ja9->α)(x:ja8):F (N2 kk x)=N2 (λr=>F (kk r)) x:=by unfold N2;(repeat' apply j6 (f:=F))<;>rfl
noncomputable def fb4:Sum:=Ka5 ⟨[.s (.o (.sl 0 0 (some 0) none)),.fn 89 [.o (.ptr 1 0 0 0)]],[⟨27,3,true,none⟩,⟨0,1,true,some [[.c 4 (nL tP)]]⟩],λa H=>(⟨slN (slT a 0),elT H 0,hLq tP H 1 0 0⟩,())⟩ (λx=>za3 x (ka0 x))
theorem Zb1:i5 prog G 91 fb4:=B1 (enc:=λx=>⟨[.sl 0 0 x.ns0 0,.fn 89 [.ptr 1 0 0 0]],[⟨27,3,x.eh0,true,false,0⟩,⟨0,1,[[eL tP x.r4]],true,false,0⟩]⟩) (λa H=>by kernel_rfl) (bd b91 Rb1) λx=>za7 (.s .p (.s .p (.s .p (.s (.s .p (.b (.u ta3.ls))) .p)))) [ta3.pr] (by kernel_rfl) (.cons Ob3 .nil) (Qjn (b:=N2 (λr=>(za3 x r).run) x) (by kernel_rfl) (ec6 (λr=>(za3 x r).run) (λr=>r) x).symm)
noncomputable def Wc3:List (Nat×Sum):=[(145,db4),(146,Ka9),(148,Qa6)]
theorem Nc5:i7 prog G Wc3:=⟨Cb9,kb9,mb7,trivial⟩
structure Ta0 where
 (alt ns0:Nat)
 eh0:List (List b7)
noncomputable def pa9{α:Type}(kk:Ta0->α)(x:V3×List V3):α:=let t1:=(ra5 (hC tV (λk=>(tV).row (gL tV (x.1::x.2) k)),tC tV (List.length x.2) (λk=>(tV).row (gL tV (x.1::x.2) k))));let t2:=(W4 ⟨t1.ns0,app (bL tV (oc5 (slR tV t1.eh0 0 t1.ns0))) (j8 t1.eh0 t1.ns0)⟩);(sl (okL tV (List.length x.2+1) (λk=>(tV).row (gL tV (x.1::x.2) k))) (sl (Nat.beq t1.alt 1) (sl (Bool.and (Nat.ble t1.ns0 room) (Bool.and (Nat.ble t1.ns0 (len t1.eh0)) (okS tV t1.eh0 0 t1.ns0))) (sl (Nat.beq t2.alt 1) (kk ⟨1,t2.ns0,t2.eh0⟩) (kk ⟨0,0,[]⟩)) (kk ⟨0,0,[]⟩)) (kk ⟨0,0,[]⟩)) (kk ⟨0,0,[]⟩))
noncomputable def Ta1(x:V3×List V3):Ta0:=pa9 (λr=>r) x
noncomputable def lb1(r:Ta0):DT (b7×List b8):=(.ite (Nat.beq r.alt 1) (.ret (.sl 0 0 r.ns0 0,[⟨27,3,r.eh0,true,false,0⟩])) .fail)
theorem gd6{α β:Type}(F:α->β)(kk:Ta0->α)(x:V3×List V3):F (pa9 kk x)=pa9 (λr=>F (kk r)) x:=by unfold pa9;(repeat' apply j6 (f:=F))<;>rfl
noncomputable def Ca1:Sum:=O9 (ve8 tV) (λx=>lb1 (Ta1 x))
theorem Ma1:i5 prog G 92 Ca1:=Db9 (bd b92 Nc5) λx=>o5 (Qjn (b:=pa9 (λr=>(lb1 r).run) x) (by kernel_rfl) (gd6 (λr=>(lb1 r).run) (λr=>r) x).symm)
noncomputable def td1:List (Nat×Sum):=[(64,Wc1),(92,Ca1),(91,fb4)]
theorem gd7:i7 prog G td1:=⟨Ud9,Ma1,Zb1,trivial⟩
noncomputable def Ra0(x:V3×List V3):Option (b7×List b8):=let t1:=(lc3 (hC tV (λk=>(tV).row (gL tV (x.1::x.2) k)),tC tV (List.length x.2) (λk=>(tV).row (gL tV (x.1::x.2) k))));let t2:=(Ta1 (hC tV (λk=>(tV).row (gL tV (x.1::x.2) k)),tC tV (List.length x.2) (λk=>(tV).row (gL tV (x.1::x.2) k))));let t3:=(ka0 ⟨t2.ns0,t2.eh0,rt tP t1.1⟩);(sl (okL tV (List.length x.2+1) (λk=>(tV).row (gL tV (x.1::x.2) k))) (sl (lc4 (hC tV (λk=>(tV).row (gL tV (x.1::x.2) k)),tC tV (List.length x.2) (λk=>(tV).row (gL tV (x.1::x.2) k)))) (sl (t1.2 != 0) (some (.tup [.v (.slice none 0 0),i t1.2],[])) (sl (okL tV (List.length x.2+1) (λk=>(tV).row (gL tV (x.1::x.2) k))) (sl (Nat.beq t2.alt 1) (sl ((cnE tP t1.1)&&true) (sl (Nat.beq t3.alt 1) (some (.tup [.sl 0 0 t3.ns0 0,i 0],[⟨27,3,t3.eh0,true,false,0⟩])) none) none) none) none)) none) none)
noncomputable def xc0(x:V3×List V3):List V3×Int:=E9 (two (r1L tV) r1I) (Ra0 x)
noncomputable def xc1(x:V3×List V3):Bool:=okO (two (r1L tV) r1I) (Ra0 x)
noncomputable def Id6:Sum:=O9 (ve8 tV) (λx=>.guard (xc1 x) (.ret ((two (r1L tV) r1I).enc (xc0 x),[])))
theorem td2:i5 prog G 35 Id6:=ua7 (bd b35 gd7) (two (r1L tV) r1I) (o:=Ra0) λx=>o5 (by kernel_rfl)
end Go.Ev.Ce
namespace Go.Ev.L
open Go Go.Ev
noncomputable def fg4:Cod Unit where
 enc _:=.v (.slice none 0 0)
 dec x:=match x with
  |.v (.slice none 0 0)=>some ()
  |_=>none
 grd _:=true
 ok x a hx _:=by
  split at hx
  ·exact .refl _
  ·cases hx
noncomputable def cE0:Cod (Addr×Nat) where
 enc z:=.v (.slice (some z.1) 0 z.2)
 dec x:=match x with
  |.v (.slice (some a) 0 c)=>some (a,c)
  |_=>none
 grd _:=true
 ok x a hx _:=by
  split at hx
  ·cases hx;exact .refl _
  ·cases hx
section
variable{α:Type}{t:Ty α}{P:Program}{G:Nat->List Value}{f:FuncId}
theorem le8{β:Type}{c:Cod β}{k k':β->DT (b7×List b8)}(h:i5 P G f (O9 c k))(hk:∀a r,(k' a).run=some r->(k a).run=some r):i5 P G f (O9 c k'):=h.le λargs blks r hr=>by
 unfold O9 at hr ⊢
 split at hr
 ·obtain⟨a,h1,hr⟩:=P7 hr;obtain⟨g,hr⟩:=DT.run_guard_some hr;simp only[h1,onO,g];exact hk a r hr
 ·cases hr
theorem fg5{k:List α->DT (b7×List b8)}(hA:i5 P G f (O9 (ve8 t) λz=>k (z.1::z.2)))(hN:i5 P G f (O9 fg4 λ_=>k []))(hE:i5 P G f (O9 cE0 λ_=>k [])):i5 P G f (O9 (ea7 t) k):=by
 intro args blks r out he W ρ F w args' hH hlen hargs hG;unfold O9 at he
 split at he
 ·rename_i x;obtain⟨a,h1,he⟩:=P7 he;obtain⟨g1,hk⟩:=DT.run_guard_some he;have nilCase:∀v',args'[0]?=some v'->v'=.slice none 0 0->a=[]->Ib5 P f/\Calls P f args'.toArray w λe w'=>∃r',e=.returned r'/\T1 W ρ [] F w r out r' w':=λv' hv e ha=>by
   subst ha;refine hN [.v (.slice none 0 0)] [] r out ?_ W ρ F w args' hH hlen (λi x' y' hx hy=>?_) hG
   ·exact hk
   ·match i with
    |0=>cases hx;rw[hv] at hy;cases hy;rw[e];exact .val (.cell (.v _))
    |i+1=>cases hx
  have emptyCase:∀v' ad c,args'[0]?=some v'->v'=.slice (some ad) 0 c->a=[]->Ib5 P f/\Calls P f args'.toArray w λe w'=>∃r',e=.returned r'/\T1 W ρ [] F w r out r' w':=λv' ad c hv e ha=>by
   subst ha;refine hE [.v (.slice (some ad) 0 c)] [] r out ?_ W ρ F w args' hH hlen (λi x' y' hx hy=>?_) hG
   ·exact hk
   ·match i with
    |0=>cases hx;rw[hv] at hy;cases hy;rw[e];exact .val (.cell (.v _))
    |i+1=>cases hx
  obtain⟨v',hv⟩:∃v',args'[0]?=some v':=by
   cases args' with
   |nil=>simp at hlen
   |cons v' r'=>exact⟨v',rfl⟩
  cases x with
  |tree e n get =>
   have hb:Nat.beq e t.es=true/\a=lsL t n get:=by
    have h1:(Bool.rec none (some (lsL t n get)) (Nat.beq e t.es):Option (List α))=some a:=h1;cases hb:Nat.beq e t.es with
    |false=>rw[hb] at h1;cases h1
    |true =>
     rw[hb] at h1;have h1:some (lsL t n get)=some a:=h1;injection h1 with h1;exact⟨rfl,h1.symm⟩
   cases n with
   |zero =>
    have ha:a=[]:=hb.2;have hm:=Ea7 (hargs 0 _ v' rfl hv);cases hm with
    |tree _ _ _ ad cap cs hs hcap hes hF hw hr=>exact emptyCase _ ad cap hv rfl ha
    |nil=>exact nilCase _ hv rfl ha
   |succ m =>
    have ha:a=hC t get::tC t m get:=hb.2.trans (ve7 t m get);subst ha;refine hA [.tree e (m+1) get] [] r out ?_ W ρ F w args' hH hlen hargs hG;have hc:(ve8 t).dec (.tree e (m+1) get)=some (hC t get,tC t m get):=by
     show (Bool.rec none (some (hC t get,tC t m get)) (Nat.beq e t.es):Option (α×List α))=_;rw[hb.1]
    have hg:(ve8 t).grd (.tree e (m+1) get)=true:=g1;simp only[O9,hc,onO,hg];exact hk
  |v q =>
   have hq:=ia0 (hargs 0 _ v' rfl hv);unfold ea7 at h1
   simp only at h1
   split at h1
   ·rename_i heq;cases heq
   ·rename_i heq;injection heq with heq;injection h1 with h1;exact nilCase v' hv (hq.trans heq) h1.symm
   ·rename_i ad c heq;injection heq with heq;injection h1 with h1;exact emptyCase v' _ _ hv (hq.trans heq) h1.symm
   ·cases h1
  |_=>cases h1
 ·cases he
end
end Go.Ev.L
namespace Go.Ev.Ce
open Go Go.Ev Go.Ev.L Go.Proofs
set_option maxRecDepth 100000
noncomputable def Id7:List (Nat×Sum):=[(118,lc0),(92,Ca1),(119,Pa8)]
theorem td3:i7 prog G Id7:=⟨Hc9,Ma1,bb0,trivial⟩
noncomputable def Za2(x:Unit):Option (b7×List b8):=let t1:=(kb3 []);(sl (kb4 []) (sl (t1 != 0) (some (.tup [.v (.slice none 0 0),i t1],[])) none) none)
noncomputable def sb7(x:Unit):List Pln×Int:=E9 (two (r1L tP) r1I) (Za2 x)
noncomputable def sb8(x:Unit):Bool:=okO (two (r1L tP) r1I) (Za2 x)
noncomputable def Ic2:Sum:=O9 fg4 (λx=>.guard (sb8 x) (.ret ((two (r1L tP) r1I).enc (sb7 x),[])))
theorem Id8:i5 prog G 64 Ic2:=ua7 (bd b64 td3) (two (r1L tP) r1I) (o:=Za2) λx=>Cd6 .p [] (by kernel_rfl) .nil (by kernel_rfl)
noncomputable def gd8:List (Nat×Sum):=[(64,Ic2),(92,Ca1)]
theorem Wc4:i7 prog G gd8:=⟨Id8,Ma1,trivial⟩
noncomputable def Ha8(x:Unit):Option (b7×List b8):=let t1:=(sb7 ());(sl (sb8 ()) (sl (t1.2 != 0) (some (.tup [.v (.slice none 0 0),i t1.2],[])) none) none)
noncomputable def bb8(x:Unit):List V3×Int:=E9 (two (r1L tV) r1I) (Ha8 x)
noncomputable def bb9(x:Unit):Bool:=okO (two (r1L tV) r1I) (Ha8 x)
noncomputable def oc8:Sum:=O9 fg4 (λx=>.guard (bb9 x) (.ret ((two (r1L tV) r1I).enc (bb8 x),[])))
theorem ec7:i5 prog G 35 oc8:=ua7 (bd b35 Wc4) (two (r1L tV) r1I) (o:=Ha8) λx=>o5 (by kernel_rfl)
noncomputable def Id9:List (Nat×Sum):=[(119,Pa8)]
theorem td4:i7 prog G Id9:=⟨bb0,trivial⟩
noncomputable def Zb2(x:Addr×Nat):Option (b7×List b8):=none
noncomputable def Ic3(x:Addr×Nat):List Pln×Int:=E9 (two (r1L tP) r1I) (Zb2 x)
noncomputable def Ic4(x:Addr×Nat):Bool:=okO (two (r1L tP) r1I) (Zb2 x)
noncomputable def Ic5:Sum:=O9 cE0 (λx=>.guard (Ic4 x) (.ret ((two (r1L tP) r1I).enc (Ic3 x),[])))
theorem Jd0:i5 prog G 64 Ic5:=ua7 (bd b64 td4) (two (r1L tP) r1I) (o:=Zb2) λx=>Cd6 .p [] (by kernel_rfl) .nil (by kernel_rfl)
noncomputable def gd9:List (Nat×Sum):=[(64,Ic5),(92,Ca1)]
theorem Wc5:i7 prog G gd9:=⟨Jd0,Ma1,trivial⟩
noncomputable def Bb8(x:Addr×Nat):Option (b7×List b8):=let t1:=(Ic3 x);(sl (Ic4 x) (sl (t1.2 != 0) (some (.tup [.v (.slice none 0 0),i t1.2],[])) none) none)
noncomputable def td5(x:Addr×Nat):List V3×Int:=E9 (two (r1L tV) r1I) (Bb8 x)
noncomputable def td6(x:Addr×Nat):Bool:=okO (two (r1L tV) r1I) (Bb8 x)
noncomputable def td7:Sum:=O9 cE0 (λx=>.guard (td6 x) (.ret ((two (r1L tV) r1I).enc (td5 x),[])))
theorem hd4:i5 prog G 35 td7:=ua7 (bd b35 Wc5) (two (r1L tV) r1I) (o:=Bb8) λx=>o5 (by kernel_rfl)
noncomputable def Ob4:List (Nat×Sum):=[]
theorem Ec0:i7 prog G Ob4:=trivial
structure ma4 where
 (c8 Cc6 Cc7:Int)
structure E5 where
 xa5:Int
noncomputable def xb7(p:ma4)(s:E5):St:=⟨ra 14 (.sl 0 0 3 0::i 3::i s.xa5::ra 10 []),[⟨3,1,[[i p.c8],[i p.Cc6],[i p.Cc7]],true,false,0⟩]⟩
noncomputable def da2{α:Type}(k:E5->α)(e:Nat->α)(z:α)(p:ma4)(s:E5):α:=(sl (decide (s.xa5<3)) (sl (inB s.xa5 3) (sl (((Nat.blt (0+s.xa5.toNat) (len [[i p.c8],[i p.Cc6],[i p.Cc7]]))&&(Nat.ble (0+1) (len (o0 [[i p.c8],[i p.Cc6],[i p.Cc7]] (0+s.xa5.toNat)))))&&(oa7 [CK.int .i64] (j8 (o0 [[i p.c8],[i p.Cc6],[i p.Cc7]] (0+s.xa5.toNat)) 0))) (sl (decide ((toI (hdA (j8 (o0 [[i p.c8],[i p.Cc6],[i p.Cc7]] (0+s.xa5.toNat)) 0)))<0)) (e 1) (sl (decide ((toI (hdA (j8 (o0 [[i p.c8],[i p.Cc6],[i p.Cc7]] (0+s.xa5.toNat)) 0)))>12)) (e 1) (k ⟨W (s.xa5+1)⟩))) z) z) (e 2))
noncomputable def O4(p:ma4)(s:E5):Stp E5:=da2 .next .exit .fail p s
noncomputable def Wa1:Lo ma4 E5:=⟨En Ob4,0,Xf2,[1,0,1,4,4],[14,15,16],.p,[⟨ru2 14 (.s (.o (.sl 0 0 (some 0) (some 3)))::.s (.o (.lit .i64 3))::sIq::ru2 10 []),[⟨3,1,true,some [[.o (.int .i64)],[.o (.int .i64)],[.o (.int .i64)]]⟩],λa H=>(⟨hIq H 0 0 0,hIq H 0 1 0,hIq H 0 2 0⟩,⟨aIq a 16⟩)⟩],O4,[(none,λp s=>⟨[b false],[]⟩),(some 0,λp s=>upq (xb7 p s) [(17,b (decide (s.xa5<3)))])],xb7⟩
theorem xc2:Wa1.Ok:=Lo.ok [] (by kernel_rfl) .nil rfl (.cons (λa H=>by kernel_rfl) .nil) λp s=>(.of @da2 (λF _ _ _ _ _=>by unfold da2;(repeat' apply j6 (f:=F))<;>rfl) (by kernel_rfl))
noncomputable def wa8(x:V3):Option (b7×List b8):=let t1:=(lp (O4 (⟨x.x,x.y,x.z⟩:ma4)) (⟨0⟩:E5));(sl (Nat.beq t1.1 1) (some (b false,[])) (sl (Nat.beq t1.1 2) (some (b true,[])) none))
noncomputable def wa9(x:V3):Bool:=E9 (one r1B) (wa8 x)
noncomputable def xa0(x:V3):Bool:=okO (one r1B) (wa8 x)
noncomputable def lb2:Sum:=O9 (I8 tV) (λx=>.guard (xa0 x) (.ret ((one r1B).enc (wa9 x),[])))
theorem Ob5:i5 prog G 129 lb2:=ua7 (bd Eg4 Ec0) (one r1B) (o:=wa8) λx=>za7 (.s .p (.s (.s .p (.b (.u Wa1.ls))) .p)) [Wa1.pr] (by kernel_rfl) (.cons xc2 .nil) (by kernel_rfl)
noncomputable def Jd1:List (Nat×Sum):=[(183,ob2)]
theorem td8:i7 prog G Jd1:=⟨Tb4,trivial⟩
noncomputable def Za3(x:V3)(y:V3):Int:=let t1:=(da6 x.x);let t2:=(da6 x.y);let t3:=(da6 x.z);(W ((W ((W (t1*y.x))+(W (t2*y.y))))+(W (t3*y.z))))
noncomputable def Ic6:Sum:=ma5 (I8 tV) (I8 tV) (λx y=>.ret ((one r1I).enc (Za3 x y),[]))
theorem Jd2:i5 prog G 131 Ic6:=Aa1 (bd Eg6 td8) λx y=>o5 (by kernel_rfl)
noncomputable def Vd0:List (Nat×Sum):=[(140,rb5),(138,ib2)]
theorem Jd3:i7 prog G Vd0:=⟨Lb0,zb3,trivial⟩
noncomputable def lb3(x:Pln)(y:Int):Option (b7×List b8):=let t1:=(Ja1 x);let t2:=(S1 4194304 [y]);let t3:=(S1 2097152 [W (x.b+y)]);(sl (Ja2 x) (sl (!t1) (some (.tup [.agg [i 0,i 0,i 0,i 0],b false],[])) (sl (S3 4194304 [y]) (sl (!t2) (some (.tup [.agg [i 0,i 0,i 0,i 0],b false],[])) (sl (S3 2097152 [W (x.b+y)]) (sl (!t3) (some (.tup [.agg [i 0,i 0,i 0,i 0],b false],[])) (some (.tup [.agg [i x.n.x,i x.n.y,i x.n.z,i (W (x.b+y))],b true],[]))) none)) none)) none)
noncomputable def Ea5(x:Pln)(y:Int):Pln×Bool:=E9 (two r1P r1B) (lb3 x y)
noncomputable def Ea6(x:Pln)(y:Int):Bool:=okO (two r1P r1B) (lb3 x y)
noncomputable def lc5:Sum:=ma5 (I8 tP) cI (λx y=>.guard (Ea6 x y) (.ret ((two r1P r1B).enc (Ea5 x y),[])))
theorem Ic7:i5 prog G 130 lc5:=nb8 (bd Eg5 Jd3) (two r1P r1B) (o:=lb3) λx y=>o5 (by kernel_rfl)
noncomputable def hd5:List (Nat×Sum):=[(131,Ic6)]
theorem Wc6:i7 prog G hd5:=⟨Jd2,trivial⟩
noncomputable def Ha9(x:V3)(y:Pln):Int:=let t1:=(Za3 y.n x);t1
noncomputable def Bb9:Sum:=ma5 (I8 tV) (I8 tP) (λx y=>.ret ((one r1I).enc (Ha9 x y),[]))
theorem ec8:i5 prog G 75 Bb9:=Aa1 (bd b75 Wc6) λx y=>o5 (by kernel_rfl)
noncomputable def td9:List (Nat×Sum):=[(75,Bb9)]
theorem hd6:i7 prog G td9:=⟨ec8,trivial⟩
noncomputable def lb4(x:V3)(y:Pln):Int:=let t1:=(Ha9 x y);(W (0-t1))
noncomputable def xc3:Sum:=ma5 (I8 tV) (I8 tP) (λx y=>.ret ((one r1I).enc (lb4 x y),[]))
theorem ud0:i5 prog G 77 xc3:=Aa1 (bd b77 hd6) λx y=>o5 (by kernel_rfl)
structure sb9 where
 (K9 L0 L1:Int)
 Db4:List Pln
 (Pb5 Pb6 Pb7:Int)
noncomputable def xc4:List (Nat×Sum):=[(129,lb2),(75,Bb9),(130,lc5)]
theorem ud1:i7 prog G xc4:=⟨Ob5,ec8,Ic7,trivial⟩
structure ba0 where
 (Pb5 Pb6 Pb7:Int)
 ra9:List Pln
 v8:Int
structure r6 where
 ph:Nat
 La4:Int
 ns8:Nat
 eh0:List (List b7)
noncomputable def Ub1(p:ba0)(s:r6):St:=⟨.unk::.unk::.fn 100075 [i p.Pb5,i p.Pb6,i p.Pb7]::ra 5 (.v (.slice none 0 0)::ra 7 (eL tP p.ra9::i p.v8::i s.La4::ra 19 [])),[]⟩
noncomputable def Ub2(p:ba0)(s:r6):St:=⟨.unk::.unk::.fn 100075 [i p.Pb5,i p.Pb6,i p.Pb7]::ra 5 (.sl 0 0 s.ns8 0::ra 7 (eL tP p.ra9::i p.v8::i s.La4::ra 19 [])),[⟨73,4,s.eh0,true,false,0⟩]⟩
noncomputable def hd7(p:ba0)(s:r6):St:=(sel (Nat.beq s.ph 1) (Ub2 p s) (Ub1 p s))
noncomputable def Z9{α:Type}(k:r6->α)(e:Nat->α)(z:α)(p:ba0)(s:r6):α:=let t1:=(Ha9 (⟨p.Pb5,p.Pb6,p.Pb7⟩:V3) (gL tP p.ra9 s.La4.toNat));let t2:=(Ea5 (gL tP p.ra9 s.La4.toNat) t1);(sl (decide (s.La4<p.v8)) (sl (inB s.La4 (List.length p.ra9)) (sl (Ea6 (gL tP p.ra9 s.La4.toNat) t1) (sl (!t2.2) (e 1) (k ⟨1,W (s.La4+1),1,[[i t2.1.n.x,i t2.1.n.y,i t2.1.n.z,i t2.1.b]]⟩)) z) z) (e 2))
noncomputable def aa0{α:Type}(k:r6->α)(e:Nat->α)(z:α)(p:ba0)(s:r6):α:=let t1:=(Ha9 (⟨p.Pb5,p.Pb6,p.Pb7⟩:V3) (gL tP p.ra9 s.La4.toNat));let t2:=(Ea5 (gL tP p.ra9 s.La4.toNat) t1);(sl (decide (s.La4<p.v8)) (sl (inB s.La4 (List.length p.ra9)) (sl (Ea6 (gL tP p.ra9 s.La4.toNat) t1) (sl (!t2.2) (e 1) (sl (Nat.beq s.ns8 (len s.eh0)&&Nat.ble ((s.ns8+1)*32) room) (k ⟨1,W (s.La4+1),s.ns8+1,app s.eh0 [[i t2.1.n.x,i t2.1.n.y,i t2.1.n.z,i t2.1.b]]⟩) z)) z) z) (e 3))
noncomputable def Ta2(p:ba0)(s:r6):Stp r6:=(sel (Nat.beq s.ph 1) (aa0 .next .exit .fail p s) (Z9 .next .exit .fail p s))
noncomputable def Cb0:Lo ba0 r6:=⟨En xc4,0,eg2,[1,1,1,0,1,4,4],[2,8,16,17,18],.p,[⟨sUq::sUq::.fn 100075 (kLq 3)::ru2 5 (.s (.o .nil)::ru2 7 (sLq tP::sIq::sIq::ru2 19 [])),[],λa H=>(⟨cIq a 2 0,cIq a 2 1,cIq a 2 2,aLq tP a 16,aIq a 17⟩,⟨0,aIq a 18,0,[]⟩)⟩,⟨sUq::sUq::.fn 100075 (kLq 3)::ru2 5 (.s (.o (.sl 0 0 (some 0) none))::ru2 7 (sLq tP::sIq::sIq::ru2 19 [])),[⟨73,4,true,none⟩],λa H=>(⟨cIq a 2 0,cIq a 2 1,cIq a 2 2,aLq tP a 16,aIq a 17⟩,⟨1,aIq a 18,slN (slT a 8),elT H 0⟩)⟩],Ta2,[(none,λp s=>⟨[.tup [.v (.slice none 0 0),b false]],[]⟩),(some 0,λp s=>upq (Ub1 p s) [(19,b (decide (s.La4<p.v8)))]),(some 0,λp s=>upq (Ub2 p s) [(19,b (decide (s.La4<p.v8)))])],hd7⟩
theorem hd8:Cb0.Ok:=Lo.ok [] (by kernel_rfl) .nil rfl (.cons (λa H=>by kernel_rfl) (.cons (λa H=>by kernel_rfl) .nil)) λp s=>(.sel (Nat.beq s.ph 1) (.of @aa0 (λF _ _ _ _ _=>by unfold aa0;(repeat' apply j6 (f:=F))<;>rfl) (by kernel_rfl)) (.of @Z9 (λF _ _ _ _ _=>by unfold Z9;(repeat' apply j6 (f:=F))<;>rfl) (by kernel_rfl)))
structure tb0 where
 alt:Nat
 bs1:Bool
 ns0:Nat
 eh0:List (List b7)
noncomputable def Ja6{α:Type}(kk:tb0->α)(x:sb9):α:=let t1:=(wa9 (⟨x.K9,x.L0,x.L1⟩:V3));let t2:=(lp (Ta2 (⟨x.Pb5,x.Pb6,x.Pb7,rt tP x.Db4,(↑(List.length x.Db4):Int)⟩:ba0)) (⟨0,0,0,[]⟩:r6));(sl (xa0 (⟨x.K9,x.L0,x.L1⟩:V3)) (sl (!t1) (kk ⟨1,false,0,[]⟩) (sl ((cnE tP x.Db4)&&true) (sl (Nat.beq t2.1 1) (kk ⟨1,false,0,[]⟩) (sl (Nat.beq t2.1 2) (kk ⟨1,true,0,[]⟩) (sl (Nat.beq t2.1 3) (kk ⟨2,false,t2.2.ns8,t2.2.eh0⟩) (kk ⟨0,false,0,[]⟩)))) (kk ⟨0,false,0,[]⟩))) (kk ⟨0,false,0,[]⟩))
noncomputable def Zb3(x:sb9):tb0:=Ja6 (λr=>r) x
noncomputable def Ob6(x:sb9)(r:tb0):DT (b7×List b8):=(.ite (Nat.beq r.alt 1) (.ret (.tup [.v (.slice none 0 0),b r.bs1],[])) (.ite (Nat.beq r.alt 2) (.ret (.tup [.sl 0 0 r.ns0 0,b true],[⟨73,4,r.eh0,true,false,0⟩])) .fail))
theorem Vd1{α β:Type}(F:α->β)(kk:tb0->α)(x:sb9):F (Ja6 kk x)=Ja6 (λr=>F (kk r)) x:=by unfold Ja6;(repeat' apply j6 (f:=F))<;>rfl
noncomputable def Ic8:Sum:=Ka5 ⟨[.agg (kLq 3),sLq tP,.fn 100075 (kLq 3)],[],λa H=>(⟨cIq a 0 0,cIq a 0 1,cIq a 0 2,aLq tP a 1,cIq a 2 0,cIq a 2 1,cIq a 2 2⟩,())⟩ (λx=>Ob6 x (Zb3 x))
theorem Jd4:i5 prog G 74 Ic8:=B1 (enc:=λx=>⟨[.agg [i x.K9,i x.L0,i x.L1],eL tP x.Db4,.fn 100075 [i x.Pb5,i x.Pb6,i x.Pb7]],[]⟩) (λa H=>by kernel_rfl) (bd b74 ud1) λx=>za7 (.s .p (.s .p (.s .p (.s (.s .p (.b (.u Cb0.ls))) .p)))) [Cb0.pr] (by kernel_rfl) (.cons hd8 .nil) (Qjn (b:=Ja6 (λr=>(Ob6 x r).run) x) (by kernel_rfl) (Vd1 (λr=>(Ob6 x r).run) (λr=>r) x).symm)
noncomputable def Be9:List (Nat×Sum):=[(74,Ic8)]
theorem le9:i7 prog G Be9:=⟨Jd4,trivial⟩
noncomputable def Ob7(x:List Pln)(y:V3):Option (b7×List b8):=let t1:=(Zb3 ⟨y.x,y.y,y.z,rt tP x,y.x,y.y,y.z⟩);(sl ((cnE tP x)&&true) (sl (Nat.beq t1.alt 1) (some (.tup [.v (.slice none 0 0),b t1.bs1],[])) (sl (Nat.beq t1.alt 2) (some (.tup [.sl 0 0 t1.ns0 0,b true],[⟨73,4,t1.eh0,true,false,0⟩])) none)) none)
noncomputable def db6(x:List Pln)(y:V3):List Pln×Bool:=E9 (two (r1L tP) r1B) (Ob7 x y)
noncomputable def db7(x:List Pln)(y:V3):Bool:=okO (two (r1L tP) r1B) (Ob7 x y)
noncomputable def Nc6:Sum:=ma5 (ea7 tP) (I8 tV) (λx y=>.guard (db7 x y) (.ret ((two (r1L tP) r1B).enc (db6 x y),[])))
theorem nd8:i5 prog G 19 Nc6:=nb8 (bd b19 le9) (two (r1L tP) r1B) (o:=Ob7) λx y=>o5 (by kernel_rfl)
structure tb1 where
 (K9 L0 L1:Int)
 Db4:List Pln
 (Pb5 Pb6 Pb7:Int)
noncomputable def xc5:List (Nat×Sum):=[(129,lb2),(77,xc3),(130,lc5)]
theorem ud2:i7 prog G xc5:=⟨Ob5,ud0,Ic7,trivial⟩
structure ba1 where
 (Pb5 Pb6 Pb7:Int)
 ra9:List Pln
 v8:Int
structure r7 where
 ph:Nat
 La4:Int
 ns8:Nat
 eh0:List (List b7)
noncomputable def Ub3(p:ba1)(s:r7):St:=⟨.unk::.unk::.fn 100077 [i p.Pb5,i p.Pb6,i p.Pb7]::ra 5 (.v (.slice none 0 0)::ra 7 (eL tP p.ra9::i p.v8::i s.La4::ra 19 [])),[]⟩
noncomputable def Ub4(p:ba1)(s:r7):St:=⟨.unk::.unk::.fn 100077 [i p.Pb5,i p.Pb6,i p.Pb7]::ra 5 (.sl 0 0 s.ns8 0::ra 7 (eL tP p.ra9::i p.v8::i s.La4::ra 19 [])),[⟨73,4,s.eh0,true,false,0⟩]⟩
noncomputable def hd9(p:ba1)(s:r7):St:=(sel (Nat.beq s.ph 1) (Ub4 p s) (Ub3 p s))
noncomputable def aa1{α:Type}(k:r7->α)(e:Nat->α)(z:α)(p:ba1)(s:r7):α:=let t1:=(lb4 (⟨p.Pb5,p.Pb6,p.Pb7⟩:V3) (gL tP p.ra9 s.La4.toNat));let t2:=(Ea5 (gL tP p.ra9 s.La4.toNat) t1);(sl (decide (s.La4<p.v8)) (sl (inB s.La4 (List.length p.ra9)) (sl (Ea6 (gL tP p.ra9 s.La4.toNat) t1) (sl (!t2.2) (e 1) (k ⟨1,W (s.La4+1),1,[[i t2.1.n.x,i t2.1.n.y,i t2.1.n.z,i t2.1.b]]⟩)) z) z) (e 2))
noncomputable def aa2{α:Type}(k:r7->α)(e:Nat->α)(z:α)(p:ba1)(s:r7):α:=let t1:=(lb4 (⟨p.Pb5,p.Pb6,p.Pb7⟩:V3) (gL tP p.ra9 s.La4.toNat));let t2:=(Ea5 (gL tP p.ra9 s.La4.toNat) t1);(sl (decide (s.La4<p.v8)) (sl (inB s.La4 (List.length p.ra9)) (sl (Ea6 (gL tP p.ra9 s.La4.toNat) t1) (sl (!t2.2) (e 1) (sl (Nat.beq s.ns8 (len s.eh0)&&Nat.ble ((s.ns8+1)*32) room) (k ⟨1,W (s.La4+1),s.ns8+1,app s.eh0 [[i t2.1.n.x,i t2.1.n.y,i t2.1.n.z,i t2.1.b]]⟩) z)) z) z) (e 3))
noncomputable def Ta3(p:ba1)(s:r7):Stp r7:=(sel (Nat.beq s.ph 1) (aa2 .next .exit .fail p s) (aa1 .next .exit .fail p s))
noncomputable def Cb1:Lo ba1 r7:=⟨En xc5,0,eg2,[1,1,1,0,1,4,4],[2,8,16,17,18],.p,[⟨sUq::sUq::.fn 100077 (kLq 3)::ru2 5 (.s (.o .nil)::ru2 7 (sLq tP::sIq::sIq::ru2 19 [])),[],λa H=>(⟨cIq a 2 0,cIq a 2 1,cIq a 2 2,aLq tP a 16,aIq a 17⟩,⟨0,aIq a 18,0,[]⟩)⟩,⟨sUq::sUq::.fn 100077 (kLq 3)::ru2 5 (.s (.o (.sl 0 0 (some 0) none))::ru2 7 (sLq tP::sIq::sIq::ru2 19 [])),[⟨73,4,true,none⟩],λa H=>(⟨cIq a 2 0,cIq a 2 1,cIq a 2 2,aLq tP a 16,aIq a 17⟩,⟨1,aIq a 18,slN (slT a 8),elT H 0⟩)⟩],Ta3,[(none,λp s=>⟨[.tup [.v (.slice none 0 0),b false]],[]⟩),(some 0,λp s=>upq (Ub3 p s) [(19,b (decide (s.La4<p.v8)))]),(some 0,λp s=>upq (Ub4 p s) [(19,b (decide (s.La4<p.v8)))])],hd9⟩
theorem id1:Cb1.Ok:=Lo.ok [] (by kernel_rfl) .nil rfl (.cons (λa H=>by kernel_rfl) (.cons (λa H=>by kernel_rfl) .nil)) λp s=>(.sel (Nat.beq s.ph 1) (.of @aa2 (λF _ _ _ _ _=>by unfold aa2;(repeat' apply j6 (f:=F))<;>rfl) (by kernel_rfl)) (.of @aa1 (λF _ _ _ _ _=>by unfold aa1;(repeat' apply j6 (f:=F))<;>rfl) (by kernel_rfl)))
structure tb2 where
 alt:Nat
 bs1:Bool
 ns0:Nat
 eh0:List (List b7)
noncomputable def Ja7{α:Type}(kk:tb2->α)(x:tb1):α:=let t1:=(wa9 (⟨x.K9,x.L0,x.L1⟩:V3));let t2:=(lp (Ta3 (⟨x.Pb5,x.Pb6,x.Pb7,rt tP x.Db4,(↑(List.length x.Db4):Int)⟩:ba1)) (⟨0,0,0,[]⟩:r7));(sl (xa0 (⟨x.K9,x.L0,x.L1⟩:V3)) (sl (!t1) (kk ⟨1,false,0,[]⟩) (sl ((cnE tP x.Db4)&&true) (sl (Nat.beq t2.1 1) (kk ⟨1,false,0,[]⟩) (sl (Nat.beq t2.1 2) (kk ⟨1,true,0,[]⟩) (sl (Nat.beq t2.1 3) (kk ⟨2,false,t2.2.ns8,t2.2.eh0⟩) (kk ⟨0,false,0,[]⟩)))) (kk ⟨0,false,0,[]⟩))) (kk ⟨0,false,0,[]⟩))
noncomputable def Zb4(x:tb1):tb2:=Ja7 (λr=>r) x
noncomputable def Ob8(x:tb1)(r:tb2):DT (b7×List b8):=(.ite (Nat.beq r.alt 1) (.ret (.tup [.v (.slice none 0 0),b r.bs1],[])) (.ite (Nat.beq r.alt 2) (.ret (.tup [.sl 0 0 r.ns0 0,b true],[⟨73,4,r.eh0,true,false,0⟩])) .fail))
theorem Vd2{α β:Type}(F:α->β)(kk:tb2->α)(x:tb1):F (Ja7 kk x)=Ja7 (λr=>F (kk r)) x:=by unfold Ja7;(repeat' apply j6 (f:=F))<;>rfl
noncomputable def Ic9:Sum:=Ka5 ⟨[.agg (kLq 3),sLq tP,.fn 100077 (kLq 3)],[],λa H=>(⟨cIq a 0 0,cIq a 0 1,cIq a 0 2,aLq tP a 1,cIq a 2 0,cIq a 2 1,cIq a 2 2⟩,())⟩ (λx=>Ob8 x (Zb4 x))
theorem Jd5:i5 prog G 74 Ic9:=B1 (enc:=λx=>⟨[.agg [i x.K9,i x.L0,i x.L1],eL tP x.Db4,.fn 100077 [i x.Pb5,i x.Pb6,i x.Pb7]],[]⟩) (λa H=>by kernel_rfl) (bd b74 ud2) λx=>za7 (.s .p (.s .p (.s .p (.s (.s .p (.b (.u Cb1.ls))) .p)))) [Cb1.pr] (by kernel_rfl) (.cons id1 .nil) (Qjn (b:=Ja7 (λr=>(Ob8 x r).run) x) (by kernel_rfl) (Vd2 (λr=>(Ob8 x r).run) (λr=>r) x).symm)
noncomputable def Vd3:List (Nat×Sum):=[(74,Ic9)]
theorem Jd6:i7 prog G Vd3:=⟨Jd5,trivial⟩
noncomputable def lb5(x:List Pln)(y:V3):Option (b7×List b8):=let t1:=(Zb4 ⟨y.x,y.y,y.z,rt tP x,y.x,y.y,y.z⟩);(sl ((cnE tP x)&&true) (sl (Nat.beq t1.alt 1) (some (.tup [.v (.slice none 0 0),b t1.bs1],[])) (sl (Nat.beq t1.alt 2) (some (.tup [.sl 0 0 t1.ns0 0,b true],[⟨73,4,t1.eh0,true,false,0⟩])) none)) none)
noncomputable def Ta4(x:List Pln)(y:V3):List Pln×Bool:=E9 (two (r1L tP) r1B) (lb5 x y)
noncomputable def Ta5(x:List Pln)(y:V3):Bool:=okO (two (r1L tP) r1B) (lb5 x y)
noncomputable def lc6:Sum:=ma5 (ea7 tP) (I8 tV) (λx y=>.guard (Ta5 x y) (.ret ((two (r1L tP) r1B).enc (Ta4 x y),[])))
theorem Jc0:i5 prog G 21 lc6:=nb8 (bd b21 Jd6) (two (r1L tP) r1B) (o:=lb5) λx y=>o5 (by kernel_rfl)
theorem gf8(P:Sa3)(g n:Int)(hn:n.natAbs<=9223372036854775808):lp (Xa1 P) ⟨g,n⟩=(1,⟨eu g n,0⟩) :=
 We5 (mk:=λg n=>(⟨g,n⟩:va1)) (λg n h=>by simp[Xa1,Oa0,yb6,h]) (λg=>by simp[Xa1,Oa0,yb6]) g n hn
theorem gf9(l:List Int)(hl:l.length<=1000000000)(hb:∀x∈l,x.natAbs<=9223372036854775808):lp (Ja0 ⟨(l.length:Int)⟩) ⟨0,l,0⟩=(1,⟨l.foldl eu 0,l,l.length⟩):=by
 have := le7 (step := Ja0 ⟨(l.length : Int)⟩) (mk := fun j a => (⟨a, l, (j : Int)⟩ : va2)) (f := eu) (fin := 1) tI l (fun _ _ => True) hl (fun j a hj _ => ⟨by
   simp only[Ja0,Oa1,Int.toNat_natCast,i9,i6,gf8 _ _ _ (hb _ (lc1 tI hj)),m9 hj (by omega)]
   rw[bt (Nb6 hj),bt (f9 hj)]
   rfl,trivial⟩) (λa _=>by simp[Ja0,Oa1,yb6]) 0 (Qjd _) 0 trivial
 simpa using this.1
theorem Wc7:∀(l:List Int) (g:Int),(l.foldl eu g).natAbs=l.foldl (λa x=>Nat.gcd a x.natAbs) g.natAbs
 |[],_=>rfl
 |x::l,g=>by rw[List.foldl_cons,Wc7 l,List.foldl_cons,tf1];rfl
theorem fg6(l:List Int)(hl:l.length<=1000000000)(hb:∀x∈l,x.natAbs<=9223372036854775807)(h0:(l.foldl eu 0).natAbs<=9223372036854775807):Kb5 l=some (i ((l.foldl eu 0).natAbs:Int),[]):=by
 unfold Kb5;simp only[i9,i6,gf9 l hl (λx hx=>Nat.le_succ_of_le (hb x hx))]
 generalize l.foldl eu 0=e at *
 have:W (0-e)=-e:=by rw[E4 (by omega) (by omega)];omega
 rw[this];show some (i (if -e>e then -e else e),[])=_
 congr 3
 split<;>omega
theorem ae5(x y:Int)(hx:0<=x)(hy:0<=y)(hb:y<=9223372036854775807):gb8 x y=some (i (Int.gcd x y:Int),[]):=by
 unfold gb8
 have:=We5 (step:=Ea9 ⟨⟩) (mk:=λg n=>(⟨g,n⟩:ga1)) (λg n h=>by simp[Ea9,Aa8,yb6,h]) (λg=>by simp[Ea9,Aa8,yb6]) x y (by omega)
 simp only[this,tf2 hx hy];rfl
theorem Jd7(x y:Int)(hx:0<=x)(hy:0<=y)(hb:y<=9223372036854775807):X3 x y=(Int.gcd x y:Int):=by unfold X3;rw[ae5 x y hx hy hb];rfl
theorem Jd8(x y:Int)(hx:0<=x)(hy:0<=y)(hb:y<=9223372036854775807):X4 x y=true:=by unfold X4;rw[ae5 x y hx hy hb];rfl
noncomputable def rm(p:Pln)(x:Pt):Int:=W (p.b*x.pw-(p.n.x*x.px+p.n.y*x.py+p.n.z*x.pz))
theorem We7(p:Pln)(x:Pt):Na9 p x=rm p x:=by
 unfold Na9 j7 rm;simp only[Va9,pb8,Id2,le6]
theorem We8(p:Pln)(x:Pt):Jb4 p x=rm p x:=by
 unfold Jb4 rm;simp only[Va9,pb8,Id2,le6];congr 1;omega
structure Bd(p:Pln):Prop where
 x1:-4608<=p.n.x
 x2:p.n.x<=4608
 y1:-4608<=p.n.y
 y2:p.n.y<=4608
 z1:-4608<=p.n.z
 z2:p.n.z<=4608
 b1:-2097152<=p.b
 b2:p.b<=2097152
def mv(p q r:Pln):V3 :=
 ⟨(d8 q.n r.n).x*p.b+(d8 r.n p.n).x*q.b+(d8 p.n q.n).x*r.b,
  (d8 q.n r.n).y*p.b+(d8 r.n p.n).y*q.b+(d8 p.n q.n).y*r.b,
  (d8 q.n r.n).z*p.b+(d8 r.n p.n).z*q.b+(d8 p.n q.n).z*r.b⟩
def gc(v:V3)(w:Int):Int:=(Nat.gcd (Nat.gcd v.x.natAbs v.y.natAbs) (Nat.gcd v.z.natAbs w.natAbs):Nat)
def mpt(p q r:Pln):Pt×Bool :=
 if mw p q r=0 then (⟨0,0,0,0⟩,false)
 else if mw p q r<0 then (⟨Int.tdiv (-(mv p q r).x) (gc (mv p q r) (mw p q r)),Int.tdiv (-(mv p q r).y) (gc (mv p q r) (mw p q r)),Int.tdiv (-(mv p q r).z) (gc (mv p q r) (mw p q r)),Int.tdiv (-(mw p q r)) (gc (mv p q r) (mw p q r))⟩,true)
 else (⟨Int.tdiv (mv p q r).x (gc (mv p q r) (mw p q r)),Int.tdiv (mv p q r).y (gc (mv p q r) (mw p q r)),Int.tdiv (mv p q r).z (gc (mv p q r) (mw p q r)),Int.tdiv (mw p q r) (gc (mv p q r) (mw p q r))⟩,true)
def Sm(n:Int)(x:Int):Prop:=-n<=x/\x<=n
theorem xc6{a b:V3}(ha:Sm 4608 a.x/\Sm 4608 a.y/\Sm 4608 a.z)(hb:Sm 4608 b.x/\Sm 4608 b.y/\Sm 4608 b.z):Sm 42467328 (d8 a b).x/\Sm 42467328 (d8 a b).y/\Sm 42467328 (d8 a b).z:=by
 obtain⟨⟨a1,a2⟩,⟨a3,a4⟩,a5,a6⟩:=ha;obtain⟨⟨b1,b2⟩,⟨b3,b4⟩,b5,b6⟩:=hb;have h1:=mb a3 a4 b5 b6;have h2:=mb a5 a6 b3 b4;have h3:=mb a5 a6 b1 b2;have h4:=mb a1 a2 b5 b6;have h5:=mb a1 a2 b3 b4;have h6:=mb a3 a4 b1 b2;unfold Sm d8
 simp only
 omega
theorem Bd.n{p:Pln}(h:Bd p):Sm 4608 p.n.x/\Sm 4608 p.n.y/\Sm 4608 p.n.z:=⟨⟨h.x1,h.x2⟩,⟨h.y1,h.y2⟩,h.z1,h.z2⟩
theorem tf4{p q r:Pln}(hp:Bd p)(hq:Bd q)(hr:Bd r):Sm 600000000000 (mw p q r):=by
 obtain⟨⟨c1,c2⟩,⟨c3,c4⟩,c5,c6⟩:=xc6 hq.n hr.n;have h1:=mb hp.x1 hp.x2 c1 c2;have h2:=mb hp.y1 hp.y2 c3 c4;have h3:=mb hp.z1 hp.z2 c5 c6;unfold Sm mw dot;omega
theorem tf5{p q r:Pln}(hp:Bd p)(hq:Bd q)(hr:Bd r):Sm 300000000000000 (mv p q r).x/\Sm 300000000000000 (mv p q r).y/\Sm 300000000000000 (mv p q r).z:=by
 obtain⟨⟨c1,c2⟩,⟨c3,c4⟩,c5,c6⟩:=xc6 hq.n hr.n;obtain⟨⟨d1,d2⟩,⟨d3,d4⟩,d5,d6⟩:=xc6 hr.n hp.n;obtain⟨⟨e1,e2⟩,⟨e3,e4⟩,e5,e6⟩:=xc6 hp.n hq.n;have a1:=mb c1 c2 hp.b1 hp.b2;have a2:=mb c3 c4 hp.b1 hp.b2;have a3:=mb c5 c6 hp.b1 hp.b2;have b1:=mb d1 d2 hq.b1 hq.b2;have b2:=mb d3 d4 hq.b1 hq.b2;have b3:=mb d5 d6 hq.b1 hq.b2;have f1:=mb e1 e2 hr.b1 hr.b2;have f2:=mb e3 e4 hr.b1 hr.b2;have f3:=mb e5 e6 hr.b1 hr.b2;unfold Sm mv
 simp only
 omega
theorem Wc8(a b:V3):D8 a b=⟨W (d8 a b).x,W (d8 a b).y,W (d8 a b).z⟩:=by
 unfold D8 d8;simp only[Id2,le6]
theorem Wc9(a b:V3):aa5 a b=⟨W (d8 a b).x,W (d8 a b).y,W (d8 a b).z⟩:=by
 unfold aa5 d8;simp only[Id2,le6]
theorem fg7(p q r:Pln):dot r.n (d8 p.n q.n)=mw p q r:=by unfold mw dot d8;grind
theorem Kg0(a b c d:Nat):[a,b,c,d].foldl Nat.gcd 0=Nat.gcd (Nat.gcd a b) (Nat.gcd c d):=by
 simp only[List.foldl_cons,List.foldl_nil,Qju];rw[Nat.gcd_assoc]
theorem Jd9{v:V3}{w:Int}(h:w≠0):0<gc v w:=by
 unfold gc
 have:0<Nat.gcd v.z.natAbs w.natAbs:=Qjo _ (by omega)
 have:=Qjo (Nat.gcd v.x.natAbs v.y.natAbs) this
 omega
theorem tf6{v:V3}{w:Int}(h:w≠0):gc v w<=w.natAbs:=by
 unfold gc;have h1:Nat.gcd v.z.natAbs w.natAbs<=w.natAbs:=Qjw _ (by omega)
 have h2:0<Nat.gcd v.z.natAbs w.natAbs:=Qjo _ (by omega)
 have h3:=Qjw (m:=Nat.gcd v.x.natAbs v.y.natAbs) (n:=Nat.gcd v.z.natAbs w.natAbs) h2;omega
theorem za8{x:Int}(h:Sm 1000000000000000000 x):W x=x:=E4 (by have:=h.1;omega) (by have:=h.2;omega)
theorem Sm.mono{n m x:Int}(h:Sm n x)(hn:n<=m):Sm m x:=⟨by have:=h.1;omega,by have:=h.2;omega⟩
theorem E6{n x g:Int}(h:Sm n x)(hg:0<g):Sm n (Int.tdiv x g):=by
 have h1:(Int.tdiv x g).natAbs<=x.natAbs:=by rw[Int.natAbs_tdiv];exact Nat.div_le_self _ _
 have:=h.1;have:=h.2
 constructor<;>omega
theorem Pe4{p q r:Pln}(hp:Bd p)(hq:Bd q)(hr:Bd r)(h:(mpt p q r).2=true):0<(mpt p q r).1.pw/\Sm 300000000000000 (mpt p q r).1.px/\Sm 300000000000000 (mpt p q r).1.py/\Sm 300000000000000 (mpt p q r).1.pz/\(mpt p q r).1.pw<=600000000000:=by
 have hw:=tf4 hp hq hr;obtain⟨v1,v2,v3⟩:=tf5 hp hq hr;have neg:∀{n x:Int},Sm n x->Sm n (-x):=λh=>⟨by have:=h.2;omega,by have:=h.1;omega⟩
 have pos:∀{x:Int},0<x->x.natAbs=(mw p q r).natAbs->0<Int.tdiv x (gc (mv p q r) (mw p q r)):=λ{x} hx he=>by
  have h0:mw p q r≠0:=by omega
  have h1:=Jd9 (v:=mv p q r) h0;have h2:=tf6 (v:=mv p q r) h0;rw[Int.tdiv_eq_ediv_of_nonneg (by omega)]
  exact Int.ediv_pos_of_pos_of_dvd hx (by omega) (by
   rw[<- Int.dvd_natAbs,he];exact Int.natCast_dvd_natCast.2 (Nat.dvd_trans (Nat.gcd_dvd_right _ _) (Nat.gcd_dvd_right _ _)))
 unfold mpt at h ⊢;by_cases h0:mw p q r=0
 ·rw[if_pos h0] at h;cases h
 ·rw[if_neg h0];have hg:=Jd9 (v:=mv p q r) h0;by_cases h1:mw p q r<0
  ·rw[if_pos h1];exact⟨pos (by omega) (by omega),E6 (neg v1) hg,E6 (neg v2) hg,E6 (neg v3) hg,(E6 (neg hw) hg).2⟩
  ·rw[if_neg h1];exact⟨pos (by omega) rfl,E6 v1 hg,E6 v2 hg,E6 v3 hg,(E6 hw hg).2⟩
theorem We9{p q r:Pln}(hp:Bd p)(hq:Bd q)(hr:Bd r):ub8 ⟨p,q,r⟩=some (.tup [.agg (tX.row (mpt p q r).1),b (mpt p q r).2],[]):=by
 have hw:=tf4 hp hq hr;obtain⟨v1,v2,v3⟩:=tf5 hp hq hr;have e1:j7 r.n (D8 p.n q.n)=mw p q r:=by
  rw[Wc8];unfold j7;simp only[Va9,pb8,sf9];show W (dot r.n (d8 p.n q.n))=_;rw[fg7,za8 (hw.mono (by omega))]
 have e2:g9 (g9 (g9 ⟨0,0,0⟩ (va0 (D8 q.n r.n) p.b)) (va0 (D8 r.n p.n) q.b)) (va0 (D8 p.n q.n) r.b)=mv p q r:=by
  rw[Wc8,Wc8,Wc8];unfold g9 va0;simp only[Va9,pb8,Pe3,Int.zero_add];show (⟨W (mv p q r).x,W (mv p q r).y,W (mv p q r).z⟩:V3)=_;rw[za8 (v1.mono (by omega)),za8 (v2.mono (by omega)),za8 (v3.mono (by omega))]
 unfold ub8;simp only[e1,e2];have hb:∀x∈[(mv p q r).x,(mv p q r).y,(mv p q r).z,mw p q r],x.natAbs<=9223372036854775807:=by
  intro x hx;simp only[Qjab,List.not_mem_nil,or_false] at hx;unfold Sm at *
  rcases hx with rfl|rfl|rfl|rfl<;>omega
 have hf:([(mv p q r).x,(mv p q r).y,(mv p q r).z,mw p q r].foldl eu 0).natAbs=Nat.gcd (Nat.gcd (mv p q r).x.natAbs (mv p q r).y.natAbs) (Nat.gcd (mv p q r).z.natAbs (mw p q r).natAbs):=by
  rw[Wc7,<- Kg0];rfl
 unfold mpt;by_cases h0:mw p q r=0
 ·rw[bt (by rw[h0];rfl),if_pos h0]
  rfl
 ·have hz:(mw p q r==0)=false:=by simpa using h0
  rw[bf hz,if_neg h0];have hgp:=Jd9 (v:=mv p q r) h0;have hgl:=tf6 (v:=mv p q r) h0;have hge:=fg6 _ (by simp) hb (by rw[hf];unfold gc at hgl;unfold Sm at hw;omega)
  have hgv:jc5 [(mv p q r).x,(mv p q r).y,(mv p q r).z,mw p q r]=gc (mv p q r) (mw p q r):=by
   unfold jc5;rw[hge,hf];rfl
  have hgg:jc6 [(mv p q r).x,(mv p q r).y,(mv p q r).z,mw p q r]=true:=by
   unfold jc6;rw[hge];rfl
  rw[hgv,bt hgg];generalize hG:gc (mv p q r) (mw p q r)=G at *
  have hGW:W (0-G)=-G:=by unfold Sm at hw;rw[E4 (by omega) (by omega)];omega
  have hGn:(-G==0)=false:=by simp;omega
  have hGp:(G==0)=false:=by simp;omega
  by_cases h1:mw p q r<0
  ·rw[bt (decide_eq_true h1),if_pos h1];simp only[hGW];rw[bf hGn,bf hGn,bf hGn,bf hGn];simp only[Int.tdiv_neg,<- Int.neg_tdiv];have neg:∀{n x:Int},Sm n x->Sm n (-x):=λh=>⟨by have:=h.2;omega,by have:=h.1;omega⟩
   rw[za8 ((E6 (neg v1) hgp).mono (by omega)),za8 ((E6 (neg v2) hgp).mono (by omega)),za8 ((E6 (neg v3) hgp).mono (by omega)),za8 ((E6 (neg hw) hgp).mono (by omega))]
   rfl
  ·rw[bf (decide_eq_false h1),if_neg h1,bf hGp,bf hGp,bf hGp,bf hGp];rw[za8 ((E6 v1 hgp).mono (by omega)),za8 ((E6 v2 hgp).mono (by omega)),za8 ((E6 v3 hgp).mono (by omega)),za8 ((E6 hw hgp).mono (by omega))]
   rfl
theorem fg8{p q r:Pln}(hp:Bd p)(hq:Bd q)(hr:Bd r):ub9 ⟨p,q,r⟩=mpt p q r:=by unfold ub9;rw[We9 hp hq hr];rfl
theorem fg9{p q r:Pln}(hp:Bd p)(hq:Bd q)(hr:Bd r):vb0 ⟨p,q,r⟩=true:=by unfold vb0;rw[We9 hp hq hr];rfl
theorem Ce0{p q r:Pln}(hp:Bd p)(hq:Bd q)(hr:Bd r):Jb6 p q r=some (.tup [.agg (tX.row (mpt p q r).1),b (mpt p q r).2],[]):=by
 have hw:=tf4 hp hq hr;obtain⟨v1,v2,v3⟩:=tf5 hp hq hr;have e1:Ia8 p.n (aa5 q.n r.n)=mw p q r:=by
  rw[Wc9];unfold Ia8;simp only[Va9,pb8,sf9];show W (dot p.n (d8 q.n r.n))=_;rw[show dot p.n (d8 q.n r.n)=mw p q r from rfl,za8 (hw.mono (by omega))]
 have e2:Hb1 (Hb1 (X2 (aa5 q.n r.n) p.b) (X2 (aa5 r.n p.n) q.b)) (X2 (aa5 p.n q.n) r.b)=mv p q r:=by
  rw[Wc9,Wc9,Wc9];unfold Hb1 X2;simp only[Va9,pb8,Pe3];show (⟨W (mv p q r).x,W (mv p q r).y,W (mv p q r).z⟩:V3)=_;rw[za8 (v1.mono (by omega)),za8 (v2.mono (by omega)),za8 (v3.mono (by omega))]
 have neg:∀{n x:Int},Sm n x->Sm n (-x):=λh=>⟨by have:=h.2;omega,by have:=h.1;omega⟩
 have e3:X2 (mv p q r) (-1)=⟨-(mv p q r).x,-(mv p q r).y,-(mv p q r).z⟩:=by
  unfold X2
  have:∀x:Int,x*-1=-x:=λx=>by omega
  simp only[this];rw[za8 ((neg v1).mono (by omega)),za8 ((neg v2).mono (by omega)),za8 ((neg v3).mono (by omega))]
 have ab:∀{x:Int},Sm 300000000000000 x->(if W (0-x)>x then W (0-x) else x)=(x.natAbs:Int):=λ{x} h=>by
  have:W (0-x)=-x:=by rw[show 0-x=-x by omega];exact za8 ((neg h).mono (by omega))
  rw[this]
  split<;>omega
 unfold Jb6;simp only[e1,e2,e3];rw[ab v1,ab v2,ab v3,ab (neg v1),ab (neg v2),ab (neg v3)];simp only[Int.natAbs_neg];unfold mpt;by_cases h0:mw p q r=0
 ·rw[bt (by rw[h0];rfl),if_pos h0]
  rfl
 ·have hz:(mw p q r==0)=false:=by simpa using h0
  rw[bf hz,if_neg h0];have hgp:=Jd9 (v:=mv p q r) h0;have hgl:=tf6 (v:=mv p q r) h0;have hw0:=hw;unfold Sm at hw0;have q1:((mv p q r).y.natAbs:Int)<=9223372036854775807:=by unfold Sm at v2;omega
  have k1:=Jd7 ((mv p q r).x.natAbs:Int) ((mv p q r).y.natAbs:Int) (by omega) (by omega) q1
  have k2:=Jd8 ((mv p q r).x.natAbs:Int) ((mv p q r).y.natAbs:Int) (by omega) (by omega) q1
  have c1:Int.gcd ((mv p q r).x.natAbs:Int) ((mv p q r).y.natAbs:Int)=Nat.gcd (mv p q r).x.natAbs (mv p q r).y.natAbs:=by simp[Int.gcd]
  have fin : ∀ w : Int, 0 < w → w.natAbs = (mw p q r).natAbs → X3 ((mv p q r).z.natAbs : Int) w = (Nat.gcd (mv p q r).z.natAbs (mw p q r).natAbs : Nat) ∧ X4 ((mv p q r).z.natAbs : Int) w = true ∧
    X3 (Nat.gcd (mv p q r).x.natAbs (mv p q r).y.natAbs:Nat) (Nat.gcd (mv p q r).z.natAbs (mw p q r).natAbs:Nat)=gc (mv p q r) (mw p q r)/\X4 (Nat.gcd (mv p q r).x.natAbs (mv p q r).y.natAbs:Nat) (Nat.gcd (mv p q r).z.natAbs (mw p q r).natAbs:Nat)=true:=by
   intro w hw1 hw2;have l1:Nat.gcd (mv p q r).z.natAbs (mw p q r).natAbs<=(mw p q r).natAbs:=Qjw _ (by omega)
   refine⟨?_,Jd8 _ _ (by omega) (by omega) (by omega),?_,Jd8 _ _ (by omega) (by omega) (by omega)⟩
   ·rw[Jd7 _ _ (by omega) (by omega) (by omega)]
    have:Int.gcd ((mv p q r).z.natAbs:Int) w=Nat.gcd (mv p q r).z.natAbs (mw p q r).natAbs:=by unfold Int.gcd;rw[hw2];simp
    rw[this]
   ·rw[Jd7 _ _ (by omega) (by omega) (by omega)]
    rfl
  by_cases h1:mw p q r<0
  ·rw[bt (decide_eq_true h1),if_pos h1];have hWw:W (0-mw p q r)=-mw p q r:=by rw[E4 (by omega) (by omega)];omega
   rw[hWw];obtain⟨f1,f2,f3,f4⟩:=fin (-mw p q r) (by omega) (by omega)
   simp only[k1,k2,c1,f1,f2,f3,f4];generalize gc (mv p q r) (mw p q r)=G at *
   have hGp:(G==0)=false:=by simp;omega
   simp only[hGp];rw[za8 ((E6 (neg v1) hgp).mono (by omega)),za8 ((E6 (neg v2) hgp).mono (by omega)),za8 ((E6 (neg v3) hgp).mono (by omega)),za8 ((E6 (neg hw) hgp).mono (by omega))]
   rfl
  ·rw[bf (decide_eq_false h1),if_neg h1];obtain⟨f1,f2,f3,f4⟩:=fin (mw p q r) (by omega) rfl
   simp only[k1,k2,c1,f1,f2,f3,f4];generalize gc (mv p q r) (mw p q r)=G at *
   have hGp:(G==0)=false:=by simp;omega
   simp only[hGp];rw[za8 ((E6 v1 hgp).mono (by omega)),za8 ((E6 v2 hgp).mono (by omega)),za8 ((E6 v3 hgp).mono (by omega)),za8 ((E6 hw hgp).mono (by omega))]
   rfl
theorem Mf0{p q r:Pln}(hp:Bd p)(hq:Bd q)(hr:Bd r):Jb7 p q r=mpt p q r:=by unfold Jb7;rw[Ce0 hp hq hr];rfl
theorem Mf1{p q r:Pln}(hp:Bd p)(hq:Bd q)(hr:Bd r):Jb8 p q r=true:=by unfold Jb8;rw[Ce0 hp hq hr];rfl
noncomputable def inn(l:List Pln)(x:Pt):Bool:=l.all λp=>!decide (rm p x<0)
theorem Xe0(l:List Pln)(x:Pt):inn l x=!l.any λp=>decide (rm p x<0):=by unfold inn;rw[List.not_any_eq_all_not]
theorem ug4(p:Pln)(x:Pt):zb0 ⟨p.n.x,p.n.y,p.n.z,p.b,x.px,x.py,x.pz,x.pw⟩=⟨decide (rm p x<0)⟩:=by
 show Fa2.mk (decide (Na9 p x<0))=_;rw[We7]
theorem Mf2(l:List Pln)(x:Pt)(hl:l.length<=1000000000):ba7 ⟨l,x.px,x.py,x.pz,x.pw⟩=⟨1,if l.any (λp=>decide (rm p x<0)) then ((l.findIdx (λp=>decide (rm p x<0)):Nat):Int) else -1⟩:=by
 have h:=wa3 (step:=J2 ⟨l,(l.length:Int),x.px,x.py,x.pz,x.pw⟩) (mk:=λj=>(⟨(j:Int)⟩:p4)) (c:=λp=>decide (rm p x<0)) (u:=1) (fin:=2) tP l hl
  (λj hj=>by
   simp only[J2,G7,Int.toNat_natCast,ug4,m9 hj (by omega)]
   rw[bt (Nb6 hj),bt (f9 hj)])
  (by simp only[J2,G7];rw[bf (sb5 (Qjc _))]) 0 (Qjd _)
 rw[Qja] at h;unfold ba7 H9;simp only[i9,i6];rw[show (⟨0⟩:p4)=⟨((0:Nat):Int)⟩ from rfl,h]
 split
 ·simp only[Qjj];rfl
 ·rfl
theorem ae6(l:List Pln)(x:Pt)(hl:l.length<=1000000000):Xa2 l x=some (b (inn l x),[]):=by
 unfold Xa2 ka8 C7;simp only[i9,i6,Mf2 l x hl,Xe0];split
 ·rename_i h;rw[h,show decide (((l.findIdx (λp=>decide (rm p x<0)):Nat):Int)>=0)=true from decide_eq_true (by omega)];rfl
 ·rename_i h;rw[Qjx] at h;rw[h];rfl
theorem Kd0(l:List Pln)(x:Pt)(hl:l.length<=1000000000):fa0 l x=inn l x:=by unfold fa0;rw[ae6 l x hl];rfl
theorem Kd1(l:List Pln)(x:Pt)(hl:l.length<=1000000000):fa1 l x=true:=by unfold fa1;rw[ae6 l x hl];rfl
theorem Zf0(l:List Pln)(x:Pt)(hl:l.length<=1000000000):uc1 l x=some (b (inn l x),[]):=by
 have h:=kb8 (step:=ub2 ⟨l,x.px,x.py,x.pz,x.pw⟩) (mk:=λj=>(⟨(j:Int)⟩:Da1)) (c:=λp=>decide (rm p x<0)) (u:=1) (fin:=2) tP l hl
  (λj hj=>by
   simp only[ub2,gb9,Int.toNat_natCast,We8,m9 hj (by omega)]
   rw[bt (Nb6 hj),bt (f9 hj)])
  (by simp only[ub2,gb9];rw[bf (sb5 (Qjc _))]) 0 (Qjd _)
 rw[Qja] at h;unfold uc1;simp only[i9,i6,Xe0];rw[show (⟨0⟩:Da1)=⟨((0:Nat):Int)⟩ from rfl,h]
 split
 ·rename_i h;rw[h];rfl
 ·rename_i h;rw[Qjx] at h;rw[h];rfl
theorem Kg1(l:List Pln)(x:Pt)(hl:l.length<=1000000000):bc2 l x=inn l x:=by unfold bc2;rw[Zf0 l x hl];rfl
theorem Kg2(l:List Pln)(x:Pt)(hl:l.length<=1000000000):bc3 l x=true:=by unfold bc3;rw[Zf0 l x hl];rfl
def eqX(x q:Pt):Bool:=q.px==x.px&&(q.py==x.py&&(q.pz==x.pz&&(q.pw==x.pw&&true)))
theorem Xe1(x q:Pt):eqX x q=true↔q=x:=by
 unfold eqX;simp only[Qjl,Qjg,beq_iff_eq];exact⟨λ⟨h1,h2,h3,h4⟩=>by cases q;cases x;simp_all,λh=>by subst h;exact⟨rfl,rfl,rfl,rfl⟩⟩
def xc7(l:List Pt)(x:Pt):Bool:=l.any (eqX x)
theorem tf7(l:List Pt)(x:Pt):xc7 l x=true↔x∈l:=by
 unfold xc7;rw[List.any_eq_true];exact⟨λ⟨q,h,e⟩=>(Xe1 x q).1 e ▸ h,λh=>⟨x,h,(Xe1 x x).2 rfl⟩⟩
theorem Ce1(l:List Pt)(x:Pt)(hl:l.length<=1000000000):ub3 l x=some (b (xc7 l x),[]):=by
 have h:=kb8 (step:=Na2 ⟨l,x.px,x.py,x.pz,x.pw⟩) (mk:=λj=>(⟨(j:Int)⟩:ea8)) (c:=eqX x) (u:=1) (fin:=2) tX l hl
  (λj hj=>by
   simp only[Na2,Fa0,Int.toNat_natCast,m9 hj (by omega)]
   rw[bt (Nb6 hj),bt (f9 hj)]
   rfl)
  (by simp only[Na2,Fa0];rw[bf (sb5 (Qjc _))]) 0 (Qjd _)
 rw[Qja] at h;unfold ub3;simp only[i9,i6];rw[show (⟨0⟩:ea8)=⟨((0:Nat):Int)⟩ from rfl,h]
 unfold xc7;split
 ·rename_i h;rw[h];rfl
 ·rename_i h;rw[Qjx] at h;rw[h];rfl
theorem Mf3(l:List Pt)(x:Pt)(hl:l.length<=1000000000):eb2 l x=xc7 l x:=by unfold eb2;rw[Ce1 l x hl];rfl
theorem Mf4(l:List Pt)(x:Pt)(hl:l.length<=1000000000):eb3 l x=true:=by unfold eb3;rw[Ce1 l x hl];rfl
def smb(n x:Int):Bool:=!decide (x < -n)&&!decide (x>n)
theorem Ta6(n x:Int):smb n x=true↔Sm n x:=by unfold smb Sm;simp only[Qjg,Bool.not_eq_true',decide_eq_false_iff_not];omega
theorem Kd2(n:Int)(l:List Int)(hn:0<=n/\n<=1000000000)(hl:l.length<=1000000000):Oa3 n l=some (b (l.all (smb n)),[]):=by
 have hW:W (0-n)=-n:=by rw[E4 (by omega) (by omega)];omega
 have h:=kb8 (step:=va3 ⟨n,l,(l.length:Int)⟩) (mk:=λj=>(⟨(j:Int)⟩:P1)) (c:=λx=>!smb n x) (u:=1) (fin:=2) tI l hl
  (λj hj=>by
   simp only[va3,qa4,Int.toNat_natCast,m9 hj (by omega),hW]
   rw[bt (Nb6 hj),bt (f9 hj)];unfold smb;cases decide (gL tI l j < -n)<;>cases decide (gL tI l j>n)<;>rfl)
  (by simp only[va3,qa4];rw[bf (sb5 (Qjc _))]) 0 (Qjd _)
 rw[Qja] at h;unfold Oa3;simp only[i9,i6];rw[show (⟨0⟩:P1)=⟨((0:Nat):Int)⟩ from rfl,h]
 have e:(l.any λx=>!smb n x)=!l.all (smb n):=by rw[Qji]
 rw[e];cases l.all (smb n)<;>rfl
theorem ec9(n:Int)(l:List Int)(hn:0<=n/\n<=1000000000)(hl:l.length<=1000000000):S1 n l=l.all (smb n):=by unfold S1;rw[Kd2 n l hn hl];rfl
theorem fc0(n:Int)(l:List Int)(hn:0<=n/\n<=1000000000)(hl:l.length<=1000000000):S3 n l=true:=by unfold S3;rw[Kd2 n l hn hl];rfl
theorem Ub5{n:Int}(h:Sm 1000000000000000000 n):da6 n=(n.natAbs:Int):=by
 unfold da6;obtain⟨h1,h2⟩:=h;rw[E4 (by omega) (by omega)]
 split<;>omega
theorem Xc0{n:Int}(h:Sm 1000000000000000000 n):Na3 n=some (i (n.natAbs:Int),[]):=by
 unfold Na3;obtain⟨h1,h2⟩:=h;rw[E4 (by omega) (by omega)]
 by_cases h:n<0
 ·rw[bt (decide_eq_true h)];congr 3;omega
 ·rw[bf (decide_eq_false h)];congr 3;omega
theorem xc8{n:Int}(h:Sm 1000000000000000000 n):Aa9 n=(n.natAbs:Int):=by unfold Aa9;rw[Xc0 h];rfl
theorem xc9{n:Int}(h:Sm 1000000000000000000 n):Ba0 n=true:=by unfold Ba0;rw[Xc0 h];rfl
def g3(v:V3):Int:=(Nat.gcd (Nat.gcd v.x.natAbs v.y.natAbs) v.z.natAbs:Nat)
theorem tf8(g n:Nat):eu (g:Int) (n:Int)=(Nat.gcd g n:Nat):=by rw[tf2 (by omega) (by omega)];rfl
theorem Vd4(P:ia2)(g n:Nat)(hn:n<=1000000000000000000):lp (da7 P) ⟨(g:Int),(n:Int)⟩=(1,⟨(Nat.gcd g n:Nat),0⟩):=by
 have:=nd6 (step:=da7 P) (mk:=λg n=>(⟨g,n⟩:R3)) (λg n h=>by
  have h0:n≠0:=by omega
  simp[da7,ma2,yb6,h,h0]) (λg=>by simp[da7,ma2,yb6]) (g:Int) (n:Int) (by omega) (by omega) (by omega)
 rw[this,tf8]
theorem Kd3(l:List Int)(hl:l.length<=1000000000)(hb:∀x∈l,Sm 1000000000000000000 x):Fa6 l=some (i (l.foldl (λg x=>Nat.gcd g x.natAbs) 0:Nat),[]):=by
 have h := le7 (step := qa5 ⟨(l.length : Int)⟩) (mk := fun j (a : Nat) => (⟨(a : Int), l, (j : Int)⟩ : L4)) (f := fun g x => Nat.gcd g x.natAbs) (fin := 2) tI l (fun _ _ => True) hl (fun j a hj _ => ⟨by
   have hm:=hb _ (lc1 tI hj);have hne:(gL tI l j==(-9223372036854775808:Int))=false:=by
    have:=hm.1
    rw[beq_eq_false_iff_ne];omega
   have hs:(gL tI l j).natAbs<=1000000000000000000:=by obtain⟨h1,h2⟩:=hm;omega
   simp only[qa5,ma3,Int.toNat_natCast,i9,i6,Ub5 hm,Vd4 _ _ _ hs,m9 hj (by omega)]
   rw[bt (Nb6 hj),bt (f9 hj),bf hne]
   rfl,trivial⟩) (λa _=>by simp only[qa5,ma3];rw[bf (sb5 (Qjc _))]) 0 (Qjd _) 0 trivial
 have h:=h.1;rw[Qja] at h;unfold Fa6;simp only[i9,i6];rw[show (⟨0,l,0⟩:L4)=⟨((0:Nat):Int),l,((0:Nat):Int)⟩ from rfl,h]
 rfl
def okp(p:Pln):Bool:=[p.n.x,p.n.y,p.n.z].all (smb 4608)&&(g3 p.n==1&&[p.b].all (smb 2097152))
theorem gg0(p:Pln):Bd p↔[p.n.x,p.n.y,p.n.z].all (smb 4608)=true/\[p.b].all (smb 2097152)=true:=by
 simp only[List.all_cons,List.all_nil,Qjl,Qjg,Ta6,Sm];exact⟨λh=>⟨⟨⟨h.x1,h.x2⟩,⟨h.y1,h.y2⟩,h.z1,h.z2⟩,h.b1,h.b2⟩,λ⟨⟨⟨a,b⟩,⟨c,d⟩,e,f⟩,g,h⟩=>⟨a,b,c,d,e,f,g,h⟩⟩
theorem lb6{p:Pln}(h:okp p=true):Bd p:=by
 unfold okp at h;rw[Qjg,Qjg] at h;exact (gg0 p).2 ⟨h.1,h.2.2⟩
theorem sm3{v:V3}(h:[v.x,v.y,v.z].all (smb 4608)=true):Sm 4608 v.x/\Sm 4608 v.y/\Sm 4608 v.z:=by
 simpa only[List.all_cons,List.all_nil,Qjl,Qjg,Ta6] using h
theorem Ce2(p:Pln):Xa4 p=some (b (okp p),[]):=by
 unfold Xa4 okp;have l3:[p.n.x,p.n.y,p.n.z].length<=1000000000:=by simp
 have l1:[p.b].length<=1000000000:=by simp
 simp only[ec9 4608 _ (by omega) l3,fc0 4608 _ (by omega) l3,ec9 2097152 _ (by omega) l1,fc0 2097152 _ (by omega) l1]
 cases hw:[p.n.x,p.n.y,p.n.z].all (smb 4608) with
 |false=>rfl
 |true =>
  obtain⟨h1,h2,h3⟩:=sm3 hw;have hd:=Kd3 [p.n.x,p.n.y,p.n.z] l3 (by
   intro x hx;simp only[Qjab,List.not_mem_nil,or_false] at hx
   rcases hx with rfl|rfl|rfl
   ·exact h1.mono (by omega)
   ·exact h2.mono (by omega)
   ·exact h3.mono (by omega))
  have hg:([p.n.x,p.n.y,p.n.z].foldl (λg x=>Nat.gcd g x.natAbs) 0:Nat)=Nat.gcd (Nat.gcd p.n.x.natAbs p.n.y.natAbs) p.n.z.natAbs:=by
   simp only[List.foldl_cons,List.foldl_nil,Qju]
  have hp:ka9 [p.n.x,p.n.y,p.n.z]=g3 p.n:=by unfold ka9;rw[hd,hg];rfl
  have hgd:la0 [p.n.x,p.n.y,p.n.z]=true:=by unfold la0;rw[hd];rfl
  rw[hp,hgd];cases g3 p.n==1<;>rfl
theorem me0(p:Pln):Ja1 p=okp p:=by unfold Ja1;rw[Ce2 p];rfl
theorem me1(p:Pln):Ja2 p=true:=by unfold Ja2;rw[Ce2 p];rfl
theorem id3(P:ua8)(g n:Nat)(hn:n<=1000000000000000000):lp (oa8 P) ⟨(g:Int),(n:Int)⟩=(1,⟨(Nat.gcd g n:Nat),0⟩):=by
 have:=nd6 (step:=oa8 P) (mk:=λg n=>(⟨g,n⟩:Y1)) (λg n h=>by
  have h0:n≠0:=by omega
  simp[oa8,Na4,yb6,h,h0]) (λg=>by simp[oa8,Na4,yb6]) (g:Int) (n:Int) (by omega) (by omega) (by omega)
 rw[this,tf8]
theorem me2 {v : V3} (h1 : Sm 1000000000000000000 v.x) (h2 : Sm 1000000000000000000 v.y) (h3 : Sm 1000000000000000000 v.z) :
  Kb0 v=if g3 v=0 then some (.tup [.agg (tV.row ⟨0,0,0⟩),i 0],[]) else some (.tup [.agg (tV.row ⟨W (Int.tdiv v.x (g3 v)),W (Int.tdiv v.y (g3 v)),W (Int.tdiv v.z (g3 v))⟩),i (g3 v)],[]):=by
 have ne:∀{x:Int},Sm 1000000000000000000 x->(x==(-9223372036854775808:Int))=false:=λ{x} h=>by
  have:=h.1
  rw[beq_eq_false_iff_ne];omega
 have bd:∀{x:Int},Sm 1000000000000000000 x->x.natAbs<=1000000000000000000:=λ{x} h=>by obtain⟨h1,h2⟩:=h;omega
 have l1:=id3 ⟨0,v.x,v.y,v.z,v.x,v.y,v.z⟩ 0 v.x.natAbs (bd h1);rw[Qju] at l1;have l2:=id3 ⟨1,v.x,v.y,v.z,v.x,v.y,v.z⟩ v.x.natAbs v.y.natAbs (bd h2);have l3:=id3 ⟨2,v.x,v.y,v.z,v.x,v.y,v.z⟩ (Nat.gcd v.x.natAbs v.y.natAbs) v.z.natAbs (bd h3);unfold Kb0;simp only[xc8 h1,xc8 h2,xc8 h3,xc9 h1,xc9 h2,xc9 h3];rw[show (⟨0,(v.x.natAbs:Int)⟩:Y1)=⟨((0:Nat):Int),(v.x.natAbs:Int)⟩ from rfl]
 simp only[l1,l2,l3,ne h1,ne h2,ne h3];rw[show ((Nat.gcd (Nat.gcd v.x.natAbs v.y.natAbs) v.z.natAbs:Nat):Int)=g3 v from rfl]
 by_cases h:g3 v=0
 ·rw[if_pos h,show (g3 v==0)=true from by rw[h];rfl];rfl
 ·rw[if_neg h,show (g3 v==0)=false from by rw[beq_eq_false_iff_ne];exact h];rfl
theorem Kd4{v:V3}(h1:Sm 1000000000000000000 v.x)(h2:Sm 1000000000000000000 v.y)(h3:Sm 1000000000000000000 v.z):(cb9 v).2=g3 v:=by
 unfold cb9;rw[me2 h1 h2 h3];split
 ·rename_i h;rw[h];rfl
 ·rfl
theorem gg1{v:V3}(h1:Sm 1000000000000000000 v.x)(h2:Sm 1000000000000000000 v.y)(h3:Sm 1000000000000000000 v.z)(h:g3 v≠0):cb9 v=(⟨W (Int.tdiv v.x (g3 v)),W (Int.tdiv v.y (g3 v)),W (Int.tdiv v.z (g3 v))⟩,g3 v):=by
 unfold cb9;rw[me2 h1 h2 h3,if_neg h];rfl
theorem tf9{v:V3}(h1:Sm 1000000000000000000 v.x)(h2:Sm 1000000000000000000 v.y)(h3:Sm 1000000000000000000 v.z):Kb1 v=true:=by
 unfold Kb1;rw[me2 h1 h2 h3]
 split<;>rfl
theorem ae7(p:Pln):ub4 p=some (b (okp p),[]):=by
 unfold ub4 okp;cases hw:[p.n.x,p.n.y,p.n.z].all (smb 4608) with
 |false =>
  simp only[List.all_cons,List.all_nil,Qjl,smb] at hw;cases h1:decide (p.n.x < -4608)<;>cases h2:decide (p.n.x>4608)<;>cases h3:decide (p.n.y < -4608)<;>cases h4:decide (p.n.y>4608)<;>cases h5:decide (p.n.z < -4608)<;>cases h6:decide (p.n.z>4608)<;>simp only[h1,h2,h3,h4,h5,h6] at hw ⊢<;>first | rfl | cases hw
 |true =>
  obtain⟨h1,h2,h3⟩:=sm3 hw;rw[bf (decide_eq_false (by have:=h1.1;omega)),bf (decide_eq_false (by have:=h1.2;omega)),bf (decide_eq_false (by have:=h2.1;omega)),bf (decide_eq_false (by have:=h2.2;omega)),bf (decide_eq_false (by have:=h3.1;omega)),bf (decide_eq_false (by have:=h3.2;omega))]
  have k1:=h1.mono (m:=1000000000000000000) (by omega)
  have k2:=h2.mono (m:=1000000000000000000) (by omega)
  have k3:=h3.mono (m:=1000000000000000000) (by omega)
  rw[bt (tf9 k1 k2 k3),Kd4 k1 k2 k3];cases g3 p.n==1 with
  |false=>rfl
  |true =>
   simp only[List.all_cons,List.all_nil,Qjl,smb,Bool.true_and];rw[l9];by_cases ha:p.b < -2097152
   ·rw[bf (decide_eq_false (by omega)),show decide (p.b < -2097152)=true from decide_eq_true ha];rfl
   ·rw[bt (decide_eq_true (by omega)),show decide (p.b < -2097152)=false from decide_eq_false ha]
    congr 3;by_cases hc:p.b<=2097152
    ·rw[decide_eq_true hc,decide_eq_false (by omega)];rfl
    ·rw[decide_eq_false hc,decide_eq_true (by omega)];rfl
theorem Ce3(p:Pln):ub5 p=okp p:=by unfold ub5;rw[ae7 p];rfl
theorem Kd5(p:Pln):ub6 p=true:=by unfold ub6;rw[ae7 p];rfl
def chk(l:List Pln):Int:=if (l.length:Int)>48 then 2 else if l.all okp then 0 else 12
theorem Ce4(l:List Pln)(hl:l.length<=1000000000):ib7 l=some (i (chk l),[]):=by
 have hk1:∀p,Oa4 p=some (b (!okp p),[]):=λp=>by unfold Oa4;rw[me1,me0];rfl
 have hp1:∀p,ib5 p=!okp p:=λp=>by unfold ib5;rw[hk1];rfl
 have hg1:∀p,ib6 p=true:=λp=>by unfold ib6;rw[hk1];rfl
 have h:=wa3 (step:=J3 ⟨l,(l.length:Int)⟩) (mk:=λj=>(⟨(j:Int)⟩:p5)) (c:=λp=>!okp p) (u:=1) (fin:=2) tP l hl
  (λj hj=>by
   simp only[J3,G8,Int.toNat_natCast,hp1,hg1,m9 hj (by omega)]
   rw[bt (Nb6 hj),bt (f9 hj),l9])
  (by simp only[J3,G8];rw[bf (sb5 (Qjc _))]) 0 (Qjd _)
 rw[Qja] at h;have e:(l.any λx=>!okp x)=!l.all okp:=by rw[Qji]
 unfold ib7 la1 C8 sa4 I0 chk;simp only[i9,i6];rw[show (⟨0⟩:p5)=⟨((0:Nat):Int)⟩ from rfl,h,e]
 by_cases hn:(l.length:Int)>48
 ·rw[bt (decide_eq_true hn),if_pos hn]
 ·rw[bf (decide_eq_false hn),if_neg hn];cases l.all okp with
  |true=>rfl
  |false =>
   simp only[Qjaa,if_true,Qjj];show sl true (sl (Nat.beq 1 1) (sl (decide (((l.findIdx λp=>!okp p:Nat):Int)>=0)) _ _) _) _=_
   rw[show decide (((l.findIdx λp=>!okp p:Nat):Int)>=0)=true from decide_eq_true (by omega)]
   rfl
theorem Mf5(l:List Pln)(hl:l.length<=1000000000):Eb2 l=chk l:=by unfold Eb2;rw[Ce4 l hl];rfl
theorem Mf6(l:List Pln)(hl:l.length<=1000000000):Eb3 l=true:=by unfold Eb3;rw[Ce4 l hl];rfl
theorem ae8(l:List Pln)(hl:l.length<=1000000000):ub7 l=some (i (chk l),[]):=by
 have h:=kb8 (step:=Na5 ⟨l⟩) (mk:=λj=>(⟨(j:Int)⟩:ea9)) (c:=λp=>!okp p) (u:=1) (fin:=2) tP l hl
  (λj hj=>by
   simp only[Na5,Fa1,Int.toNat_natCast,Ce3,Kd5,m9 hj (by omega)]
   rw[bt (Nb6 hj),bt (f9 hj),l9])
  (by simp only[Na5,Fa1];rw[bf (sb5 (Qjc _))]) 0 (Qjd _)
 rw[Qja] at h;have e:(l.any λx=>!okp x)=!l.all okp:=by rw[Qji]
 unfold ub7 chk;simp only[i9,i6];rw[show (⟨0⟩:ea9)=⟨((0:Nat):Int)⟩ from rfl,h,e]
 by_cases hn:(l.length:Int)>48
 ·rw[bt (decide_eq_true hn),if_pos hn]
 ·rw[bf (decide_eq_false hn),if_neg hn];cases l.all okp<;>rfl
theorem uf0(l:List Pln)(hl:l.length<=1000000000):Tb0 l=chk l:=by unfold Tb0;rw[ae8 l hl];rfl
theorem uf1(l:List Pln)(hl:l.length<=1000000000):Tb1 l=true:=by unfold Tb1;rw[ae8 l hl];rfl
theorem Xc1{l:List Pln}:chk l=0↔l.length<=48/\∀p∈l,okp p=true:=by
 unfold chk;by_cases hn:(l.length:Int)>48
 ·rw[if_pos hn];exact⟨λh=>absurd h (by decide),λh=>by omega⟩
 ·rw[if_neg hn];cases h:l.all okp with
  |true=>exact⟨λ_=>⟨by omega,Qjy.1 h⟩,λ_=>rfl⟩
  |false=>exact⟨λh=>absurd h (by decide),λh'=>by rw[Qjy.2 h'.2] at h;cases h⟩
theorem btD{p:Prop}{inst:Decidable p}(h:p){α:Type}(t e:α):sl (@decide p inst) t e=t:=bt (decide_eq_true h) t e
theorem bfD{p:Prop}{inst:Decidable p}(h:¬ p){α:Type}(t e:α):sl (@decide p inst) t e=e:=bf (decide_eq_false h) t e
theorem i8{j n:Nat}(h:j<n):(j:Int)<(n:Int):=Int.ofNat_lt.2 h
theorem n5{j n:Nat}(h:¬ j<n):¬ (j:Int)<(n:Int):=λh'=>h (Int.ofNat_lt.1 h')
theorem lb7 {σ τ α : Type} {step : σ → Stp σ} {mk : Nat → τ → σ} {f : α → List α → τ → τ} {g : List α → τ → τ} {fin : τ → Nat} (l : List α) (I : Nat → τ → Prop) (hl : l.length ≤ 1000000000)
  (g0:∀a,g [] a=a) (g1:∀x r a,g (x::r) a=g r (f x r a))
  (h:∀j a (hj:j<l.length),I j a->step (mk j a)=.next (mk (j+1) (f l[j] (l.drop (j+1)) a))/\I (j+1) (f l[j] (l.drop (j+1)) a))
  (hf:∀j a,l.length<=j->I j a->step (mk j a)=.exit (fin a)) (j0:Nat) (a:τ) (hi:I j0 a) :
  lp step (mk j0 a)=(fin (g (l.drop j0) a),mk (max j0 l.length) (g (l.drop j0) a))/\I (max j0 l.length) (g (l.drop j0) a):=by
 have key:=wc7 (step:=step) (I:=λm s=>∃j b,m=l.length-j/\max j l.length=max j0 l.length/\s=mk j b/\I j b/\g (l.drop j) b=g (l.drop j0) a)
  (Q:=λu s=>u=fin (g (l.drop j0) a)/\s=mk (max j0 l.length) (g (l.drop j0) a)/\I (max j0 l.length) (g (l.drop j0) a)) (λm s ⟨j,b,hm,hj,hs,hb,he⟩=>by
   subst hs;by_cases hlt:j<l.length
   ·obtain⟨h1,h2⟩:=h j b hlt hb;refine .inr ⟨_,l.length-(j+1),by omega,h1,j+1,_,rfl,by omega,rfl,h2,?_⟩
    rw[<- he,Qjm hlt,g1]
   ·have hd:l.drop j=[]:=Qjp (by omega)
    rw[hd,g0] at he;have hj':j=max j0 l.length:=by omega
    subst he;rw[<- hj'];exact .inl ⟨_,hf j _ (by omega) hb,rfl,rfl,hb⟩) (l.length-j0) (mk j0 a) (by omega) ⟨j0,a,rfl,rfl,rfl,hi,rfl⟩
 exact⟨Prod.ext key.1 key.2.1,key.2.2⟩
noncomputable def Ra1(r:List Pln)(p q:Pln)(out:List Pt)(s:Pln):List Pt :=
 if (mpt p q s).2&&(!xc7 out (mpt p q s).1&&inn r (mpt p q s).1) then out++[(mpt p q s).1] else out
noncomputable def Cb2(r:List Pln)(p q:Pln)(l:List Pln)(out:List Pt):List Pt:=l.foldl (Ra1 r p q) out
noncomputable def lb8(r:List Pln)(p:Pln):List Pln->List Pt->List Pt
 |[],out=>out
 |q::l,out=>lb8 r p l (Cb2 r p q l out)
noncomputable def Xc2(r:List Pln):List Pln->List Pt->List Pt
 |[],out=>out
 |p::l,out=>Xc2 r l (lb8 r p l out)
noncomputable def cor(r:List Pln):List Pt:=Xc2 r r []
def Bds(r:List Pln):Prop:=∀p∈r,Bd p
theorem id4(r:List Pln)(p q:Pln)(out:List Pt)(s:Pln):(Ra1 r p q out s).length<=out.length+1:=by
 unfold Ra1;split
 ·simp
 ·omega
theorem Xc3(r:List Pln)(p q:Pln):∀(l:List Pln) (out:List Pt),(Cb2 r p q l out).length<=out.length+l.length
 |[],out=>Nat.le_refl _
 |s::l,out=>by
  have h1:=id4 r p q out s;have h2:=Xc3 r p q l (Ra1 r p q out s);show (Cb2 r p q l (Ra1 r p q out s)).length<=_;simp only[List.length_cons];omega
theorem Kd6(r:List Pln)(p:Pln):∀(l:List Pln) (out:List Pt),l.length<=200->(lb8 r p l out).length<=out.length+200*l.length
 |[],out,_=>by simp[lb8]
 |q::l,out,h=>by
  simp only[List.length_cons] at h ⊢;have h1:=Xc3 r p q l out;have h2:=Kd6 r p l (Cb2 r p q l out) (by omega)
  show (lb8 r p l (Cb2 r p q l out)).length<=_;omega
theorem Ce5(r:List Pln):∀(l:List Pln) (out:List Pt),l.length<=200->(Xc2 r l out).length<=out.length+40000*l.length
 |[],out,_=>by simp[Xc2]
 |p::l,out,h=>by
  simp only[List.length_cons] at h ⊢;have h1:=Kd6 r p l out (by omega)
  have h2:=Ce5 r l (lb8 r p l out) (by omega)
  show (Xc2 r l (lb8 r p l out)).length<=_;omega
theorem me3(r:List Pln)(_:Bds r)(hr:r.length<=200):(cor r).length<=8000000:=by
 have:=Ce5 r r [] hr
 rw[List.length_nil] at this;show (Xc2 r r []).length<=_;omega
noncomputable def ph(out:List Pt):Nat:=match out with
 |[]=>0
 |_::_=>1
theorem Ce6(x:Pt):xc7 [] x=false:=rfl
theorem Xc4{α:Type}(t:Ty α)(l:List α)(n k:Nat):gL t (l.drop n) k=gL t l (n+k):=by simp[gL,Qjt,List.getElem?_drop]
theorem Ce7{n:Nat}{l:List Pt}(hn:n=l.length)(h:l.length<=1000000000):(Nat.beq n (len (bL tX l))&&Nat.ble ((n+1)*32) room)=true:=by
 subst hn;rw[V2,Qjk,Bool.true_and];exact ja4 (by omega)
theorem Xe2(l:List Pt)(x:Pt):app (bL tX l) [[i x.px,i x.py,i x.pz,i x.pw]]=bL tX (l++[x]):=Ka4 tX l [x]
@[reducible] noncomputable def Ec1(k:Nat)(out:List Pt):s9:=⟨ph out,(k:Int),out.length,bL tX out⟩
theorem gg2(l:List Pt):slR tX (bL tX l) 0 l.length=l:=gb6 tX l
theorem Mf7 (r : List Pln) (hb : Bds r) (hr : r.length ≤ 200) (a c k : Nat) (ha : a < r.length) (hc : c < r.length) (out : List Pt) (ho : out.length ≤ 1000000000) (hk : k < r.length) :
  V5 ⟨r,a,c⟩ (Ec1 k out)=.next (Ec1 (k+1) (Ra1 r r[a] r[c] out r[k])):=by
 have hin:∀x,bc2 r x=inn r x:=λx=>Kg1 r x (by omega)
 have hig:∀x,bc3 r x=true:=λx=>Kg2 r x (by omega)
 have hth:∀x,eb2 out x=xc7 out x:=λx=>Mf3 out x ho
 have htg:∀x,eb3 out x=true:=λx=>Mf4 out x ho
 have hme:=Mf0 (hb _ (Qjh ha)) (hb _ (Qjh hc)) (hb _ (Qjh hk));have hmg:=Mf1 (hb _ (Qjh ha)) (hb _ (Qjh hc)) (hb _ (Qjh hk));unfold V5;cases out with
 |nil =>
  show X5 Stp.next Stp.exit Stp.fail _ (Ec1 k [])=_;simp only[X5,Ec1,Int.toNat_natCast,i9,J1,Ma0 tP ha,Ma0 tP hc,Ma0 tP hk,hme,hmg,hin,hig,hth,htg,m9 hk (by omega)]
  rw[btD (i8 hk),bt (f9 ha),bt (f9 hc),bt (f9 hk),l9];unfold Ra1;rw[Ce6];cases (mpt r[a] r[c] r[k]).2 with
  |false=>rfl
  |true =>
   cases inn r (mpt r[a] r[c] r[k]).1 with
   |false=>rfl
   |true=>rfl
 |cons o os =>
  show X6 Stp.next Stp.exit Stp.fail _ (Ec1 k (o::os))=_;simp only[X6,Ec1,Int.toNat_natCast,i9,J1,Ma0 tP ha,Ma0 tP hc,Ma0 tP hk,hme,hmg,hin,hig,gg2,nb7,hth,htg,m9 hk (by omega)]
  rw[btD (i8 hk),bt (f9 ha),bt (f9 hc),bt (f9 hk),l9,Ce7 rfl ho,Xe2];unfold Ra1;cases (mpt r[a] r[c] r[k]).2 with
  |false=>rfl
  |true =>
   cases inn r (mpt r[a] r[c] r[k]).1 with
   |false=>cases xc7 (o::os) (mpt r[a] r[c] r[k]).1<;>rfl
   |true =>
    cases xc7 (o::os) (mpt r[a] r[c] r[k]).1 with
    |true=>rfl
    |false =>
     show Stp.next (⟨1,((k+1:Nat):Int),(o::os).length+1,bL tX (o::os++[(mpt r[a] r[c] r[k]).1])⟩:s9)=_;simp[ph]
theorem gg3(r:List Pln)(a c k:Nat)(out:List Pt)(hk:r.length<=k):V5 ⟨r,a,c⟩ (Ec1 k out)=.exit (ph out+1):=by
 unfold V5;have this:¬ ((k:Int)<(r.length:Int)):=by omega
 cases out with
 |nil =>
  show X5 Stp.next Stp.exit Stp.fail _ (Ec1 k [])=_;simp only[X5,Ec1];rw[bfD this];rfl
 |cons o os =>
  show X6 Stp.next Stp.exit Stp.fail _ (Ec1 k (o::os))=_;simp only[X6,Ec1];rw[bfD this];rfl
theorem Mf8 (r : List Pln) (hb : Bds r) (hr : r.length ≤ 200) (a c : Nat) (ha : a < r.length) (hc : c < r.length) (k : Nat) (out : List Pt) (ho : out.length ≤ 100000000) :
  ∃m,lp (V5 ⟨r,a,c⟩) (Ec1 k out)=(ph (Cb2 r r[a] r[c] (r.drop k) out)+1,Ec1 m (Cb2 r r[a] r[c] (r.drop k) out)) :=
 ⟨_,(lb7 (mk:=Ec1) (f:=λs _ out=>Ra1 r r[a] r[c] out s) (g:=λl out=>Cb2 r r[a] r[c] l out) (fin:=λout=>ph out+1) r (λj o=>o.length+k<=out.length+j) (by omega)
  (λ_=>rfl) (λ_ _ _=>rfl) (λj o hj hi=>⟨Mf7 r hb hr a c j ha hc o (by omega) hj,by have:=id4 r r[a] r[c] o r[j];show (Ra1 r r[a] r[c] o r[j]).length+k<=out.length+(j+1);omega⟩)
  (λj o hj _=>gg3 r a c j o hj) k out (by omega)).1⟩
@[reducible] noncomputable def Ec2(r:List Pln)(j:Nat)(out:List Pt):y8:=⟨ph out,r,(j:Int),out.length,bL tX out⟩
theorem Mf9 (r : List Pln) (hb : Bds r) (hr : r.length ≤ 200) (a j : Nat) (ha : a < r.length) (out : List Pt) (ho : out.length ≤ 100000000) (hj : j < r.length) :
  P0 ⟨a⟩ (Ec2 r j out)=.next (Ec2 r (j+1) (Cb2 r r[a] r[j] (r.drop (j+1)) out)):=by
 obtain⟨m,hm⟩:=Mf8 r hb hr a j ha hj (j+1) out ho;unfold P0;generalize Cb2 r r[a] r[j] (r.drop (j+1)) out=res at *
 cases out with
 |nil =>
  show X7 Stp.next Stp.exit Stp.fail _ (Ec2 r j [])=_;simp only[X7,Ec2,i9,i6,m9 hj (by omega)]
  rw[show (⟨0,((j+1:Nat):Int),0,[]⟩:s9)=Ec1 (j+1) [] from rfl,hm,btD (i8 hj)]
  cases res<;>rfl
 |cons o os =>
  show X8 Stp.next Stp.exit Stp.fail _ (Ec2 r j (o::os))=_;simp only[X8,Ec2,i9,i6,m9 hj (by omega)]
  rw[show (⟨1,((j+1:Nat):Int),(o::os).length,bL tX (o::os)⟩:s9)=Ec1 (j+1) (o::os) from rfl,hm,btD (i8 hj)]
  cases res<;>rfl
theorem gg4(r:List Pln)(a j:Nat)(out:List Pt)(hj:r.length<=j):P0 ⟨a⟩ (Ec2 r j out)=.exit (ph out+1):=by
 unfold P0;have this:¬ ((j:Int)<(r.length:Int)):=by omega
 cases out with
 |nil =>
  show X7 Stp.next Stp.exit Stp.fail _ (Ec2 r j [])=_;simp only[X7,Ec2];rw[bfD this];rfl
 |cons o os =>
  show X8 Stp.next Stp.exit Stp.fail _ (Ec2 r j (o::os))=_;simp only[X8,Ec2];rw[bfD this];rfl
theorem Nf0 (r : List Pln) (hb : Bds r) (hr : r.length ≤ 200) (a : Nat) (ha : a < r.length) (j : Nat) (out : List Pt) (ho : out.length ≤ 40000 * a) :
  ∃m,lp (P0 ⟨a⟩) (Ec2 r j out)=(ph (lb8 r r[a] (r.drop j) out)+1,Ec2 r m (lb8 r r[a] (r.drop j) out))/\(lb8 r r[a] (r.drop j) out).length<=40000*(a+1):=by
 have hk:=lb7 (step:=P0 ⟨a⟩) (mk:=Ec2 r) (f:=λq l out=>Cb2 r r[a] q l out) (g:=λl out=>lb8 r r[a] l out) (fin:=λout=>ph out+1) r (λk o=>o.length<=40000*a+200*(k-j)/\j<=k/\k<=j+r.length) (by omega)
  (λ_=>rfl) (λ_ _ _=>rfl) (λk o hj hi=>⟨Mf9 r hb hr a k ha o (by omega) hj,by
   have:=Xc3 r r[a] r[k] (r.drop (k+1)) o
   rw[Qje] at this;show (Cb2 r r[a] r[k] (r.drop (k+1)) o).length<=40000*a+200*(k+1-j)/\j<=k+1/\k+1<=j+r.length
   omega⟩)
  (λk o hj _=>gg4 r a k o hj) j out (by omega)
 exact⟨_,hk.1,by have:=hk.2;omega⟩
@[reducible] noncomputable def Nc7(r:List Pln)(j:Nat)(out:List Pt):C6:=⟨ph out,r,(j:Int),out.length,bL tX out⟩
theorem Xe3 (r : List Pln) (hb : Bds r) (hr : r.length ≤ 200) (a : Nat) (ha : a < r.length) (out : List Pt) (ho : out.length ≤ 40000 * a) :
  V6 ⟨⟩ (Nc7 r a out)=.next (Nc7 r (a+1) (lb8 r r[a] (r.drop (a+1)) out))/\(lb8 r r[a] (r.drop (a+1)) out).length<=40000*(a+1):=by
 obtain⟨m,hm,hl⟩:=Nf0 r hb hr a ha (a+1) out ho;refine⟨?_,hl⟩
 clear hl
 unfold V6;generalize lb8 r r[a] (r.drop (a+1)) out=res at *
 cases out with
 |nil =>
  show X9 Stp.next Stp.exit Stp.fail _ (Nc7 r a [])=_;simp only[X9,Nc7,i9,i6,m9 ha (by omega)]
  rw[show (⟨0,r,((a+1:Nat):Int),0,[]⟩:y8)=Ec2 r (a+1) [] from rfl,hm,btD (i8 ha)]
  cases res<;>rfl
 |cons o os =>
  show Y0 Stp.next Stp.exit Stp.fail _ (Nc7 r a (o::os))=_;simp only[Y0,Nc7,i9,i6,m9 ha (by omega)]
  rw[show (⟨1,r,((a+1:Nat):Int),(o::os).length,bL tX (o::os)⟩:y8)=Ec2 r (a+1) (o::os) from rfl,hm,btD (i8 ha)]
  cases res<;>rfl
theorem gg5(r:List Pln)(j:Nat)(out:List Pt)(hj:r.length<=j):V6 ⟨⟩ (Nc7 r j out)=.exit (ph out+1):=by
 unfold V6;have this:¬ ((j:Int)<(r.length:Int)):=by omega
 cases out with
 |nil =>
  show X9 Stp.next Stp.exit Stp.fail _ (Nc7 r j [])=_;simp only[X9,Nc7];rw[bfD this];rfl
 |cons o os =>
  show Y0 Stp.next Stp.exit Stp.fail _ (Nc7 r j (o::os))=_;simp only[Y0,Nc7];rw[bfD this];rfl
theorem Nf1(r:List Pln)(hb:Bds r)(hr:r.length<=200):∃m,lp (V6 ⟨⟩) (Nc7 r 0 [])=(ph (cor r)+1,Nc7 r m (cor r))/\(cor r).length<=8000000:=by
 have hk:=lb7 (step:=V6 ⟨⟩) (mk:=Nc7 r) (f:=λq l out=>lb8 r q l out) (g:=λl out=>Xc2 r l out) (fin:=λout=>ph out+1) r (λk o=>o.length<=40000*k/\k<=r.length) (by omega)
  (λ_=>rfl) (λ_ _ _=>rfl) (λk o hj hi=>⟨(Xe3 r hb hr k hj o hi.1).1,(Xe3 r hb hr k hj o hi.1).2,hj⟩)
  (λk o hj _=>gg5 r k o hj) 0 [] (by simp)
 exact⟨_,hk.1,by have:=hk.2;rw[show max 0 r.length=r.length by omega] at this;have h1:=this.1;show (Xc2 r r []).length<=_;rw[Qja] at h1;omega⟩
noncomputable def slX(l:List Pt):b7×List b8:=match l with
 |[]=>(.v (.slice none 0 0),[])
 |_::_=>(.sl 0 0 l.length 0,[⟨136,4,bL tX l,true,false,0⟩])
theorem me4(l:List Pt):(one (r1L tX)).rd (slX l)=some l:=by
 cases l with
 |nil=>rfl
 |cons x l =>
  show Bool.rec (motive:=λ_=>Option (List Pt)) none (some (slR tX (bL tX (x::l)) 0 (x::l).length)) (Bool.and true (okS tX (bL tX (x::l)) 0 (x::l).length))=_
  rw[gb6,nb7];rfl
theorem nd9(r:List Pln)(hb:Bds r)(hr:r.length<=200):Wa8 r=some (slX (cor r)):=by
 obtain⟨m,hm,_⟩:=Nf1 r hb hr;unfold Wa8;simp only[i9,i6];rw[show (⟨0,r,0,0,[]⟩:C6)=Nc7 r 0 [] from rfl,hm]
 cases cor r<;>rfl
theorem ua3{ρ:Type}(R:RR ρ){x:b7×List b8}{r:ρ}(h:R.rd x=some r):E9 R (some x)=r:=by
 show Option.rec (motive:=λ_=>ρ) R.d (λx=>x) (R.rd x)=r
 rw[h]
theorem Ia0{ρ:Type}(R:RR ρ){x:b7×List b8}{r:ρ}(h:R.rd x=some r):okO R (some x)=true:=by
 show Option.rec (motive:=λ_=>Bool) false (λ_=>true) (R.rd x)=true
 rw[h]
theorem Pe5(r:List Pln)(hb:Bds r)(hr:r.length<=200):rb1 r=cor r:=by unfold rb1;rw[nd9 r hb hr];exact ua3 _ (me4 _)
theorem Pe6(r:List Pln)(hb:Bds r)(hr:r.length<=200):rb2 r=true:=by unfold rb2;rw[nd9 r hb hr];exact Ia0 _ (me4 _)
noncomputable def Vd5(x:Pt):List b7:=[i x.px,i x.py,i x.pz,i x.pw,b true]
noncomputable def oc9(l:List Pt):List (List b7):=l.map Vd5
@[reducible] noncomputable def flK:List (Nat×CK):=[(0,.int .i64),(1,.int .i64),(2,.int .i64),(3,.int .i64)]
theorem Ce8(x q:Pt):Pb8 flK [i x.px,i x.py,i x.pz,i x.pw] (Vd5 q)=eqX x q:=by
 show Bool.and (decide (x.px=q.px)) (Bool.and (decide (x.py=q.py)) (Bool.and (decide (x.pz=q.pz)) (Bool.and (decide (x.pw=q.pw)) true)))=_;unfold eqX;have h:∀a c:Int,decide (a=c)=(c==a):=λa c=>by rw[Bool.eq_iff_iff,decide_eq_true_eq,beq_iff_eq];exact eq_comm
 rw[h,h,h,h]
theorem Kd7(x:Pt):∀l,La5 4 flK [i x.px,i x.py,i x.pz,i x.pw] (oc9 l)=xc7 l x
 |[]=>rfl
 |q::l=>by
  have ih:=Kd7 x l;unfold La5 at ih ⊢;show Option.rec (motive:=λ_=>Bool) false (λr=>toB (hdA (j8 r 4))) (Bool.rec (motive:=λ_=>Option (List b7)) (Fc0 flK [i x.px,i x.py,i x.pz,i x.pw] (oc9 l)) (some (Vd5 q)) (Pb8 flK [i x.px,i x.py,i x.pz,i x.pw] (Vd5 q)))=xc7 (q::l) x
  rw[Ce8];unfold xc7 at ih ⊢;rw[List.any_cons];cases eqX x q with
  |true=>rfl
  |false=>exact ih
theorem ae9(x:Pt):∀l,xc7 l x=false->aa3 flK [i x.px,i x.py,i x.pz,i x.pw] (Vd5 x) (oc9 l)=oc9 (l++[x])
 |[],_=>rfl
 |q::l,h=>by
  unfold xc7 at h;rw[List.any_cons,Bool.or_eq_false_iff] at h;show Bool.rec (motive:=λ_=>List (List b7)) (Vd5 q::aa3 flK [i x.px,i x.py,i x.pz,i x.pw] (Vd5 x) (oc9 l)) (Vd5 x::oc9 l) (Pb8 flK [i x.px,i x.py,i x.pz,i x.pw] (Vd5 q))=_
  rw[Ce8,h.1,ae9 x l h.2];rfl
@[reducible] noncomputable def Ec3(k:Nat)(out:List Pt):l5:=⟨ph out,(k:Int),out.length,bL tX out,oc9 out⟩
structure C2(P:k9)(r:List Pln)(p q:Pln)(lo:Nat):Prop where
 ns:P.Gf9=(r.drop lo).length
 gs:P.Pb4=λk=>tP.row (gL tP r (lo+k))
 is:P.Se7=((r.drop lo).length:Int)
 p1:(⟨⟨P.y5,P.y6,P.y7⟩,P.ka4⟩:Pln)=p
 q1:(⟨⟨P.Aa3,P.Aa4,P.Aa5⟩,P.mc6⟩:Pln)=q
 r1:P.Ta9=r
theorem me5(s:Pln):(⟨⟨toI (hdA (tP.row s)),toI (hdA (tlA (tP.row s))),toI (hdA (tlA (tlA (tP.row s))))⟩,toI (hdA (tlA (tlA (tlA (tP.row s)))))⟩:Pln)=s:=rfl
theorem Kd8(s:Pln):((Nat.ble 4 (len (tP.row s)))&&(oa7 [CK.int .i64,CK.int .i64,CK.int .i64,CK.int .i64] (tP.row s)))=true:=rfl
theorem Nf2 {P : k9} {r : List Pln} {p q : Pln} {lo : Nat} (h : C2 P r p q lo) (hb : Bds r) (hr : r.length ≤ 200) (hp : Bd p) (hq : Bd q) (k : Nat) (out : List Pt) (ho : out.length ≤ 1000000000) (hk : k < (r.drop lo).length) :
  A1 P (Ec3 k out)=.next (Ec3 (k+1) (Ra1 r p q out (r.drop lo)[k])):=by
 have hwi:∀x,fa0 r x=inn r x:=λx=>Kd0 r x (by omega)
 have hwg:∀x,fa1 r x=true:=λx=>Kd1 r x (by omega)
 have hs:gL tP r (lo+k)=(r.drop lo)[k]:=by rw[<- Xc4,Ma0 tP hk]
 have hbs:Bd (r.drop lo)[k]:=hb _ (Qjr (Qjh hk));have hd:(r.drop lo).length<=200:=by rw[Qje];omega
 have hme:=fg8 hp hq hbs;have hmg:=fg9 hp hq hbs;obtain⟨x1,x2,x3,x4,x5,x6,x7,x8,x9,x10,x11,x12,x13,x14,x15,x16,x17,x18,x19,x20,x21⟩:=P;obtain⟨ns,gs,is,p1,q1,r1⟩:=h
 simp only at ns gs is p1 q1 r1
 have r1:=r1.symm;subst ns gs is r1;unfold A1;cases out with
 |nil =>
  show B5 Stp.next Stp.exit Stp.fail _ (Ec3 k [])=_;simp only[B5,Ec3,Int.toNat_natCast,i9,J1,p1,q1,hs,me5,Kd8,hme,hmg,hwi,hwg,m9 hk (by omega)]
  rw[btD (i8 hk),bt (f9 hk),l9,l9];unfold Ra1;rw[Ce6];cases (mpt p q (r.drop lo)[k]).2 with
  |false=>rfl
  |true =>
   cases inn r (mpt p q (r.drop lo)[k]).1 with
   |false=>rfl
   |true=>rfl
 |cons o os =>
  show B6 Stp.next Stp.exit Stp.fail _ (Ec3 k (o::os))=_;simp only[B6,Ec3,Int.toNat_natCast,i9,J1,p1,q1,hs,me5,Kd8,hme,hmg,hwi,hwg,m9 hk (by omega),Kd7]
  rw[btD (i8 hk),bt (f9 hk),l9,l9,Ce7 rfl ho,Xe2];unfold Ra1;cases (mpt p q (r.drop lo)[k]).2 with
  |false=>rfl
  |true =>
   cases hx:xc7 (o::os) (mpt p q (r.drop lo)[k]).1 with
   |true=>rfl
   |false =>
    cases inn r (mpt p q (r.drop lo)[k]).1 with
    |false=>rfl
    |true =>
     show Stp.next (⟨1,((k+1:Nat):Int),(o::os).length+1,bL tX (o::os++[(mpt p q (r.drop lo)[k]).1]),aa3 flK [i (mpt p q (r.drop lo)[k]).1.px,i (mpt p q (r.drop lo)[k]).1.py,i (mpt p q (r.drop lo)[k]).1.pz,i (mpt p q (r.drop lo)[k]).1.pw] (Vd5 (mpt p q (r.drop lo)[k]).1) (oc9 (o::os))⟩:l5)=_;rw[ae9 _ _ hx];simp[ph]
theorem gg6{P:k9}{r:List Pln}{p q:Pln}{lo:Nat}(h:C2 P r p q lo)(k:Nat)(out:List Pt)(hk:(r.drop lo).length<=k):A1 P (Ec3 k out)=.exit (ph out+1):=by
 obtain⟨x1,x2,x3,x4,x5,x6,x7,x8,x9,x10,x11,x12,x13,x14,x15,x16,x17,x18,x19,x20,x21⟩:=P;obtain⟨ns,gs,is,p1,q1,r1⟩:=h
 simp only at ns gs is p1 q1 r1
 have r1:=r1.symm;subst ns gs is r1;unfold A1;have this:¬ ((k:Int)<((r.drop lo).length:Int)):=by omega
 cases out with
 |nil =>
  show B5 Stp.next Stp.exit Stp.fail _ (Ec3 k [])=_;simp only[B5,Ec3];rw[bfD this];rfl
 |cons o os =>
  show B6 Stp.next Stp.exit Stp.fail _ (Ec3 k (o::os))=_;simp only[B6,Ec3];rw[bfD this];rfl
theorem Nf3 {P : k9} {r : List Pln} {p q : Pln} {lo : Nat} (h : C2 P r p q lo) (hb : Bds r) (hr : r.length ≤ 200) (hp : Bd p) (hq : Bd q) (out : List Pt) (ho : out.length ≤ 100000000) :
  ∃m,lp (A1 P) (Ec3 0 out)=(ph (Cb2 r p q (r.drop lo) out)+1,Ec3 m (Cb2 r p q (r.drop lo) out)):=by
 have hd:(r.drop lo).length<=200:=by rw[Qje];omega
 exact⟨_,(lb7 (mk:=Ec3) (f:=λs _ out=>Ra1 r p q out s) (g:=λl out=>Cb2 r p q l out) (fin:=λout=>ph out+1) (r.drop lo) (λj o=>o.length<=out.length+j) (by omega)
  (λ_=>rfl) (λ_ _ _=>rfl) (λj o hj hi=>⟨Nf2 h hb hr hp hq j o (by omega) hj,by have:=id4 r p q o (r.drop lo)[j];show (Ra1 r p q o (r.drop lo)[j]).length<=out.length+(j+1);omega⟩)
  (λj o hj _=>gg6 h j o hj) 0 out (by omega)).1⟩
@[reducible] noncomputable def Ec4(r:List Pln)(j:Nat)(out:List Pt):m8:=⟨ph out,r,(j:Int),r,r,out.length,bL tX out,oc9 out⟩
structure C1(P:l6)(r:List Pln)(p:Pln)(a:Nat):Prop where
 i3:P.is3=(a:Int)
 ns:P.Wd3=(r.drop (a+1)).length
 gs:P.gc1=λk=>tP.row (gL tP r (a+1+k))
 is:P.ld0=((r.drop (a+1)).length:Int)
 p1:(⟨⟨P.y5,P.y6,P.y7⟩,P.ka4⟩:Pln)=p
theorem Nf4 {P : l6} {r : List Pln} {p : Pln} {a : Nat} (h : C1 P r p a) (hb : Bds r) (hr : r.length ≤ 200) (hp : Bd p) (j : Nat) (out : List Pt) (ho : out.length ≤ 100000000) (hj : j < (r.drop (a + 1)).length) :
  A2 P (Ec4 r j out)=.next (Ec4 r (j+1) (Cb2 r p (r.drop (a+1))[j] ((r.drop (a+1)).drop (j+1)) out)):=by
 have hs:gL tP r (a+1+j)=(r.drop (a+1))[j]:=by rw[<- Xc4,Ma0 tP hj]
 have hbs:Bd (r.drop (a+1))[j]:=hb _ (Qjr (Qjh hj));have hd:=hj;rw[Qje] at hd;have hW:W (W ((a:Int)+(j:Int))+2)=((a+1+(j+1):Nat):Int):=by rw[Va9,E4 (by omega) (by omega)];omega
 have hdl:(r.drop (a+1)).length<=4611686018427387904:=by rw[Qje];omega
 have hlo:inB ((a+1+(j+1):Nat):Int) (r.length+1)=true:=f9 (by omega)
 rw[List.drop_drop];generalize hq:(r.drop (a+1))[j]=q at *
 obtain⟨x1,x2,x3,x4,x5,x6,x7,x8,x9,x10⟩:=P;obtain⟨i3,ns,gs,is,p1⟩:=h
 simp only at i3 ns gs is p1
 subst i3 ns gs is;unfold A2;have key:∀(P2:k9),C2 P2 r p q (a+1+(j+1))->_:=λP2 h2=>Nf3 h2 hb hr hp hbs out ho
 cases out with
 |nil =>
  show B7 Stp.next Stp.exit Stp.fail _ (Ec4 r j [])=_;simp only[B7,Ec4,i9,i6,m9 hj hdl,hW,Int.toNat_natCast,hs,Kd8,hlo];rw[show (⟨0,0,0,[],[]⟩:l5)=Ec3 0 [] from rfl]
  generalize hP:k9.mk _ _ _ _ _ _ _ _ _ _ _ _ _ _ _ _ _ _ _ _ _=P2;obtain⟨m,hm⟩:=key P2 (by
   subst hP;exact⟨by simp,rfl,by simp,p1,me5 q,rfl⟩)
  rw[hm,btD (i8 hj),bt (f9 hj)];cases Cb2 r p q (r.drop (a+1+(j+1))) []<;>rfl
 |cons o os =>
  show B9 Stp.next Stp.exit Stp.fail _ (Ec4 r j (o::os))=_;simp only[B9,Ec4,i9,i6,m9 hj hdl,hW,Int.toNat_natCast,hs,Kd8,hlo];rw[show (⟨1,0,(o::os).length,bL tX (o::os),oc9 (o::os)⟩:l5)=Ec3 0 (o::os) from rfl]
  generalize hP:k9.mk _ _ _ _ _ _ _ _ _ _ _ _ _ _ _ _ _ _ _ _ _=P2;obtain⟨m,hm⟩:=key P2 (by
   subst hP;exact⟨by simp,rfl,by simp,p1,me5 q,rfl⟩)
  rw[hm,btD (i8 hj),bt (f9 hj)];cases Cb2 r p q (r.drop (a+1+(j+1))) (o::os)<;>rfl
theorem gg7{P:l6}{r:List Pln}{p:Pln}{a:Nat}(h:C1 P r p a)(j:Nat)(out:List Pt)(hj:(r.drop (a+1)).length<=j):A2 P (Ec4 r j out)=.exit (ph out+1):=by
 obtain⟨x1,x2,x3,x4,x5,x6,x7,x8,x9,x10⟩:=P;obtain⟨i3,ns,gs,is,p1⟩:=h
 simp only at i3 ns gs is p1
 subst i3 ns gs is;unfold A2;have this:¬ ((j:Int)<((r.drop (a+1)).length:Int)):=by omega
 cases out with
 |nil =>
  show B7 Stp.next Stp.exit Stp.fail _ (Ec4 r j [])=_;simp only[B7,Ec4];rw[bfD this];rfl
 |cons o os =>
  show B9 Stp.next Stp.exit Stp.fail _ (Ec4 r j (o::os))=_;simp only[B9,Ec4];rw[bfD this];rfl
theorem Nf5 {P : l6} {r : List Pln} {p : Pln} {a : Nat} (h : C1 P r p a) (hb : Bds r) (hr : r.length ≤ 200) (hp : Bd p) (out : List Pt) (ho : out.length ≤ 10000000) :
  ∃m,lp (A2 P) (Ec4 r 0 out)=(ph (lb8 r p (r.drop (a+1)) out)+1,Ec4 r m (lb8 r p (r.drop (a+1)) out)):=by
 have hd:(r.drop (a+1)).length<=200:=by rw[Qje];omega
 exact⟨_,(lb7 (mk:=Ec4 r) (f:=λq l out=>Cb2 r p q l out) (g:=λl out=>lb8 r p l out) (fin:=λout=>ph out+1) (r.drop (a+1)) (λk o=>o.length<=out.length+200*k) (by omega)
  (λ_=>rfl) (λ_ _ _=>rfl) (λk o hj hi=>⟨Nf4 h hb hr hp k o (by omega) hj,by
   have:=Xc3 r p (r.drop (a+1))[k] ((r.drop (a+1)).drop (k+1)) o
   rw[Qje] at this;show (Cb2 r p (r.drop (a+1))[k] ((r.drop (a+1)).drop (k+1)) o).length<=out.length+200*(k+1)
   omega⟩)
  (λk o hj _=>gg7 h k o hj) 0 out (by omega)).1⟩
@[reducible] noncomputable def Nc8(r:List Pln)(j:Nat)(out:List Pt):o1:=⟨ph out,r,(j:Int),r,r,out.length,bL tX out,oc9 out⟩
theorem Nf6 {P : r8} (r : List Pln) (h : P.v7 = (r.length : Int)) (hb : Bds r) (hr : r.length ≤ 200) (a : Nat) (ha : a < r.length) (out : List Pt) (ho : out.length ≤ 40000 * a) :
  A3 P (Nc8 r a out)=.next (Nc8 r (a+1) (lb8 r r[a] (r.drop (a+1)) out)):=by
 have hbs:Bd r[a]:=hb _ (Qjh ha);have hlo:inB ((a+1:Nat):Int) (r.length+1)=true:=f9 (by omega)
 have key:∀(P2:l6),C1 P2 r r[a] a->_:=λP2 h2=>Nf5 h2 hb hr hbs out (by omega)
 obtain⟨x1⟩:=P
 simp only at h
 subst h;unfold A3;cases out with
 |nil =>
  show C0 Stp.next Stp.exit Stp.fail _ (Nc8 r a [])=_;simp only[C0,Nc8,i9,i6,m9 ha (by omega),Int.toNat_natCast,hlo,Ma0 tP ha]
  rw[show (⟨0,r,0,r,r,0,[],[]⟩:m8)=Ec4 r 0 [] from rfl]
  generalize hP:l6.mk _ _ _ _ _ _ _ _ _ _=P2;obtain⟨m,hm⟩:=key P2 (by
   subst hP;exact⟨rfl,by simp,rfl,by simp,rfl⟩)
  rw[hm,btD (i8 ha),bt (f9 ha)];cases lb8 r r[a] (r.drop (a+1)) []<;>rfl
 |cons o os =>
  show C3 Stp.next Stp.exit Stp.fail _ (Nc8 r a (o::os))=_;simp only[C3,Nc8,i9,i6,m9 ha (by omega),Int.toNat_natCast,hlo,Ma0 tP ha]
  rw[show (⟨1,r,0,r,r,(o::os).length,bL tX (o::os),oc9 (o::os)⟩:m8)=Ec4 r 0 (o::os) from rfl]
  generalize hP:l6.mk _ _ _ _ _ _ _ _ _ _=P2;obtain⟨m,hm⟩:=key P2 (by
   subst hP;exact⟨rfl,by simp,rfl,by simp,rfl⟩)
  rw[hm,btD (i8 ha),bt (f9 ha)];cases lb8 r r[a] (r.drop (a+1)) (o::os)<;>rfl
theorem gg8{P:r8}(r:List Pln)(h:P.v7=(r.length:Int))(j:Nat)(out:List Pt)(hj:r.length<=j):A3 P (Nc8 r j out)=.exit (ph out+1):=by
 obtain⟨x1⟩:=P
 simp only at h
 subst h;unfold A3;have this:¬ ((j:Int)<(r.length:Int)):=by omega
 cases out with
 |nil =>
  show C0 Stp.next Stp.exit Stp.fail _ (Nc8 r j [])=_;simp only[C0,Nc8];rw[bfD this];rfl
 |cons o os =>
  show C3 Stp.next Stp.exit Stp.fail _ (Nc8 r j (o::os))=_;simp only[C3,Nc8];rw[bfD this];rfl
theorem Nf7(r:List Pln)(hb:Bds r)(hr:r.length<=200):∃m,lp (A3 ⟨(r.length:Int)⟩) (Nc8 r 0 [])=(ph (cor r)+1,Nc8 r m (cor r)) :=
 ⟨_,(lb7 (step:=A3 ⟨(r.length:Int)⟩) (mk:=Nc8 r) (f:=λq l out=>lb8 r q l out) (g:=λl out=>Xc2 r l out) (fin:=λout=>ph out+1) r (λk o=>o.length<=40000*k) (by omega)
  (λ_=>rfl) (λ_ _ _=>rfl) (λk o hj hi=>⟨Nf6 r rfl hb hr k hj o hi,by
   have h1:=Kd6 r r[k] (r.drop (k+1)) o (by rw[Qje];omega)
   rw[Qje] at h1;show (lb8 r r[k] (r.drop (k+1)) o).length<=40000*(k+1)
   omega⟩)
  (λk o hj _=>gg8 r rfl k o hj) 0 [] (by simp)).1⟩
theorem Kd9(r:List Pln)(hb:Bds r)(hr:r.length<=200):ca9 r=some (slX (cor r)):=by
 obtain⟨m,hm⟩:=Nf7 r hb hr;unfold ca9;simp only[i9,i6];rw[show (⟨0,r,0,r,r,0,[],[]⟩:o1)=Nc8 r 0 [] from rfl,hm]
 cases cor r<;>rfl
theorem be0(r:List Pln)(hb:Bds r)(hr:r.length<=200):da0 r=cor r:=by unfold da0;rw[Kd9 r hb hr];exact ua3 _ (me4 _)
theorem be1(r:List Pln)(hb:Bds r)(hr:r.length<=200):da1 r=true:=by unfold da1;rw[Kd9 r hb hr];exact Ia0 _ (me4 _)
noncomputable def slP(l:List Pln):b7×List b8:=(.sl 0 0 l.length 0,[⟨73,4,bL tP l,true,false,0⟩])
theorem Nc9(l:List Pln):(one (r1L tP)).rd (slP l)=some l:=by
 show Bool.rec (motive:=λ_=>Option (List Pln)) none (some (slR tP (bL tP l) 0 l.length)) (Bool.and true (okS tP (bL tP l) 0 l.length))=_
 rw[gb6,nb7];rfl
theorem Ce9{α:Type}(t:Ty α)(l:List α):(one (r1L t)).rd (eL t l,[])=some l:=by
 show Bool.rec (motive:=λ_=>Option (List α)) none (some (rt t l)) (Bool.and (Nat.beq t.es t.es) (okE t l))=_
 rw[i9,J1,Qjk];rfl
noncomputable def ws:List Pln:=[⟨⟨1,0,0⟩,24⟩,⟨⟨-1,0,0⟩,24⟩,⟨⟨0,1,0⟩,24⟩,⟨⟨0,-1,0⟩,24⟩,⟨⟨0,0,1⟩,24⟩,⟨⟨0,0,-1⟩,24⟩]
theorem ug5:Bds ws:=by
 intro p hp
 have:okp p=true:=by
  have h:ws.all okp=true:=by decide
  exact Qjy.1 h p hp
 exact lb6 this
noncomputable def Ec5(lo hi:V3):List Pln:=[⟨⟨1,0,0⟩,hi.x⟩,⟨⟨-1,0,0⟩,W (0-lo.x)⟩,⟨⟨0,1,0⟩,hi.y⟩,⟨⟨0,-1,0⟩,W (0-lo.y)⟩,⟨⟨0,0,1⟩,hi.z⟩,⟨⟨0,0,-1⟩,W (0-lo.z)⟩]
theorem uf2(lo hi:V3):Ac9 lo hi=some (slP (Ec5 lo hi)):=rfl
theorem Xe4(lo hi:V3):bc4 lo hi=Ec5 lo hi:=by unfold bc4;rw[uf2];exact ua3 _ (Nc9 _)
theorem Xe5(lo hi:V3):Hb2 lo hi=true:=by unfold Hb2;rw[uf2];exact Ia0 _ (Nc9 _)
theorem gg9:Ec5 ⟨-24,-24,-24⟩ ⟨24,24,24⟩=ws:=by
 simp only[Ec5,ws];rw[show W (0 - -24)=24 from by rw[sf8];rfl]
theorem Nf8{l:List Pln}:Nat.beq (len (bL tP l)) 0=l.isEmpty:=by rw[V2];cases l<;>rfl
theorem uf3(c:List Pln)(hc:c.length<=1000000000):bc5 c=some (slP (c++ws)):=by
 unfold bc5;simp only[ub1,Xe4,Xe5,gg9,Nf8];have h6:(0+len (bL tP c))=c.length:=by rw[V2];omega
 have hw:len (bL tP ws)=6:=rfl;rw[h6,hw];have e1:Nat.ble (c.length*32) room=true:=ja4 (by omega)
 have e2:Nat.ble ((c.length+6)*32) room=true:=ja4 (by omega)
 have e3:app (app [] (bL tP c)) (bL tP ws)=bL tP (c++ws):=Ka4 tP c ws;have e4:Nat.beq c.length (len (app [] (bL tP c)))=true:=by
  rw[show app [] (bL tP c)=bL tP c from rfl,V2,Qjk]
 rw[e1,e2,e3,e4];cases c with
 |nil=>rfl
 |cons p c =>
  show some (b7.sl 0 0 ((p::c).length+6) 0,[(⟨73,4,bL tP (p::c++ws),true,false,0⟩:b8)])=_;unfold slP;rw[Qjb];rfl
theorem ug6(c:List Pln)(hc:c.length<=1000000000):Bc0 c=c++ws:=by unfold Bc0;rw[uf3 c hc];exact ua3 _ (Nc9 _)
theorem ug7(c:List Pln)(hc:c.length<=1000000000):Bc1 c=true:=by unfold Bc1;rw[uf3 c hc];exact Ia0 _ (Nc9 _)
theorem uf4{l:List (List Pln)}{j:Nat}(h:j<l.length):gL (tLs tP) l j=l[j]:=Ma0 (tLs tP) h
theorem uf5(ls:List (List Pln))(hn:ls.length<=1000000000)(hl:ls.flatten.length<=1000000000):∃m,lp (K6 ⟨ls,ls,(ls.length:Int)⟩) ⟨0,0⟩=(1,⟨(ls.flatten.length:Int),m⟩):=by
 have h:=lb7 (step:=K6 ⟨ls,ls,(ls.length:Int)⟩) (mk:=λj (n:Nat)=>(⟨(n:Int),(j:Int)⟩:w6)) (f:=λl _ n=>n+l.length) (g:=λl n=>n+l.flatten.length) (fin:=λ_=>1) ls
  (λj n=>n+(ls.drop j).flatten.length=ls.flatten.length) hn (λ_=>rfl) (λx r a=>by simp only[List.flatten_cons,Qjb];omega)
  (λj n hj hi=>by
   rw[Qjm hj,List.flatten_cons,Qjb] at hi;have hW:W ((n:Int)+(ls[j].length:Int))=((n+ls[j].length:Nat):Int):=by rw[E4 (by omega) (by omega)];omega
   refine⟨?_,by show n+ls[j].length+(ls.drop (j+1)).flatten.length=_;omega⟩
   simp only[K6,P8,Int.toNat_natCast,uf4 hj,hW,m9 hj (by omega)]
   rw[btD (i8 hj),bt (f9 hj),bfD (by omega)])
  (λj n hj _=>by
   simp only[K6,P8];rw[bfD (by omega)]) 0 0 (by simp)
 have h:=h.1;rw[Qja,Qjj] at h;exact⟨_,h⟩
theorem uf6{ls:List (List Pln)}(h:ls.flatten=[]){j:Nat}(hj:j<ls.length):ls[j]=[]:=by
 rw[List.flatten_eq_nil_iff] at h;exact h _ (Qjh hj)
theorem Nf9(ls:List (List Pln))(hn:ls.length<=1000000000)(hl:ls.flatten=[]):∃s,lp (D9 ⟨ls,(ls.length:Int)⟩) ⟨0,0,0,[]⟩=(1,s):=by
 have h:=lb7 (step:=D9 ⟨ls,(ls.length:Int)⟩) (mk:=λj (_:Unit)=>(⟨0,(j:Int),0,[]⟩:n9)) (f:=λ_ _ n=>n) (g:=λ_ n=>n) (fin:=λ_=>1) ls
  (λ_ _=>True) hn (λ_=>rfl) (λx r a=>rfl)
  (λj n hj hi=>by
   refine⟨?_,trivial⟩;show C4 Stp.next Stp.exit Stp.fail _ _=_;simp only[C4,Int.toNat_natCast,uf4 hj,uf6 hl hj,m9 hj (by omega)]
   rw[btD (i8 hj),bt (f9 hj)]
   rfl)
  (λj n hj _=>by
   show C4 Stp.next Stp.exit Stp.fail _ _=_;simp only[C4];rw[bfD (by omega)]) 0 () trivial
 exact⟨_,h.1⟩
noncomputable def Zb5(t:Nat)(d:List Pln):List (List b7):=app (bL tP d) (List.replicate (t-d.length) je7)
theorem uf7(t:Nat)(d:List Pln)(h:d.length<=t):len (Zb5 t d)=t:=by
 unfold Zb5;rw[J0,o3,Qjb,<- o3,V2,List.length_replicate];omega
theorem uf8(t:Nat)(d l:List Pln)(h:d.length+l.length<=t):app (M7 (Zb5 t d) d.length) (app (bL tP l) (j8 (Zb5 t d) (d.length+len (bL tP l))))=Zb5 t (d++l):=by
 have hd:(bL tP d).length=d.length:=by rw[<- o3,V2]
 unfold Zb5;rw[V2,<- Ka4];simp only[J0,N5,L2];rw[List.take_left' hd,Qjv];congr 2;rw[List.drop_append,Qjp (by omega),List.nil_append,hd,List.drop_replicate,Qjb]
 congr 1;omega
theorem uf9(ls:List (List Pln))(hn:ls.length<=1000000000):∃m,lp (D9 ⟨ls,(ls.length:Int)⟩) ⟨1,0,0,List.replicate ls.flatten.length je7⟩=(2,⟨1,m,ls.flatten.length,bL tP ls.flatten⟩):=by
 have h:=lb7 (step:=D9 ⟨ls,(ls.length:Int)⟩) (mk:=λj (d:List Pln)=>(⟨1,(j:Int),d.length,Zb5 ls.flatten.length d⟩:n9)) (f:=λl _ d=>d++l) (g:=λl d=>d++l.flatten) (fin:=λ_=>2) ls
  (λj d=>d.length+(ls.drop j).flatten.length=ls.flatten.length) hn (λ_=>by simp) (λx r a=>by simp)
  (λj d hj hi=>by
   rw[Qjm hj,List.flatten_cons,Qjb] at hi;refine⟨?_,by show (d++ls[j]).length+(ls.drop (j+1)).flatten.length=_;rw[Qjb];omega⟩
   show C5 Stp.next Stp.exit Stp.fail _ _=_;simp only[C5,Int.toNat_natCast,uf4 hj,m9 hj (by omega),ub1]
   rw[uf8 _ _ _ (by omega),uf7 _ _ (by omega),V2,btD (i8 hj),bt (f9 hj),bt (by rw[Nat.ble_eq];omega),Qjb])
  (λj d hj _=>by
   show C5 Stp.next Stp.exit Stp.fail _ _=_;simp only[C5];rw[bfD (by omega)]) 0 [] (by simp)
 have h:=h.1;rw[Qja,List.nil_append] at h;have e:Zb5 ls.flatten.length ls.flatten=bL tP ls.flatten:=by unfold Zb5;rw[Nat.sub_self,J0];simp
 rw[e] at h;exact⟨_,h⟩
theorem Zf1(ls:List (List Pln))(hn:ls.length<=1000000000)(hl:ls.flatten.length<=1000000000):cc5 ls=some (slP (ls.flatten++ws)):=by
 have hc:sa3 ls=if ls.flatten=[] then ⟨1,0,[]⟩ else ⟨2,ls.flatten.length,bL tP ls.flatten⟩:=by
  unfold sa3 R8;simp only[i9,i6];obtain⟨m,hm⟩:=uf5 ls hn hl;rw[hm];by_cases h0:ls.flatten=[]
  ·obtain⟨s,hs⟩:=Nf9 ls hn h0;rw[if_pos h0,hs];rw[show (⟨(ls.flatten.length:Int),m⟩:w6)=⟨0,m⟩ by rw[h0];rfl]
   rfl
  ·obtain⟨m',hm'⟩:=uf9 ls hn;rw[if_neg h0];simp only[Int.toNat_natCast];rw[hm'];have h1:0<ls.flatten.length:=List.length_pos_iff.2 h0;have e1:((ls.flatten.length:Int)==0)=false:=by rw[beq_eq_false_iff_ne];omega
   have e2:Bool.and (decide ((0:Int)<(ls.flatten.length:Int))) (Nat.ble (ls.flatten.length*32) room)=true:=by
    rw[ja4 (by omega),decide_eq_true (by omega)]
    rfl
   rw[e1,e2];rfl
 unfold cc5;simp only[i9,J1,hc];by_cases h0:ls.flatten=[]
 ·rw[if_pos h0,h0];rfl
 ·rw[if_neg h0];generalize ls.flatten=c at *
  have e:∀(d:List Pln) (p:Pln),app (bL tP d) [[i p.n.x,i p.n.y,i p.n.z,i p.b]]=bL tP (d++[p]):=λd p=>Ka4 tP d [p]
  have c1:=e c ⟨⟨1,0,0⟩,24⟩;have c2:=e (c++[⟨⟨1,0,0⟩,24⟩]) ⟨⟨-1,0,0⟩,24⟩;have c3:=e (c++[⟨⟨1,0,0⟩,24⟩]++[⟨⟨-1,0,0⟩,24⟩]) ⟨⟨0,1,0⟩,24⟩;have c4:=e (c++[⟨⟨1,0,0⟩,24⟩]++[⟨⟨-1,0,0⟩,24⟩]++[⟨⟨0,1,0⟩,24⟩]) ⟨⟨0,-1,0⟩,24⟩;have c5:=e (c++[⟨⟨1,0,0⟩,24⟩]++[⟨⟨-1,0,0⟩,24⟩]++[⟨⟨0,1,0⟩,24⟩]++[⟨⟨0,-1,0⟩,24⟩]) ⟨⟨0,0,1⟩,24⟩;have c6:=e (c++[⟨⟨1,0,0⟩,24⟩]++[⟨⟨-1,0,0⟩,24⟩]++[⟨⟨0,1,0⟩,24⟩]++[⟨⟨0,-1,0⟩,24⟩]++[⟨⟨0,0,1⟩,24⟩]) ⟨⟨0,0,-1⟩,24⟩
  simp only at c1 c2 c3 c4 c5 c6
  simp only[c1,c2,c3,c4,c5,c6,V2,Qjb,List.length_singleton];have g:∀n:Nat,n<=1000000010->(Nat.beq n n&&Nat.ble ((n+1)*32) room)=true:=λn h=>by rw[Qjk,ja4 (by omega)];rfl
  rw[g _ (by omega),g _ (by omega),g _ (by omega),g _ (by omega),g _ (by omega),g _ (by omega)]
  show some (b7.sl 0 0 (c.length+1+1+1+1+1+1) 0,[(⟨73,4,bL tP _,true,false,0⟩:b8)])=_;unfold slP;rw[Qjb];simp only[Qjv];rfl
theorem Kg3(ls:List (List Pln))(hn:ls.length<=1000000000)(hl:ls.flatten.length<=1000000000):Hb3 ls=ls.flatten++ws:=by unfold Hb3;rw[Zf1 ls hn hl];exact ua3 _ (Nc9 _)
theorem Kg4(ls:List (List Pln))(hn:ls.length<=1000000000)(hl:ls.flatten.length<=1000000000):Hb4 ls=true:=by unfold Hb4;rw[Zf1 ls hn hl];exact Ia0 _ (Nc9 _)
theorem Zf2(c:List Pln)(hc:c.length<=1000000000):Hb3 [c]=c++ws:=by
 have:[c].flatten=c:=by simp
 rw[Kg3 [c] (by simp) (by rw[this];exact hc),this]
theorem Zf3(c:List Pln)(hc:c.length<=1000000000):Hb4 [c]=true:=by
 have:[c].flatten=c:=by simp
 exact Kg4 [c] (by simp) (by rw[this];exact hc)
theorem be2(ls:List (List Pln))(hn:ls.length<=1000000000)(hl:∀c∈ls,c.length<=1000000000):jb0 ls=some (b (ls.all λc=>chk c==0),[]):=by
 have hv:∀c∈ls,ib8 c=!(chk c==0)/\ib9 c=true:=λc hc=>by
  have:Oa6 c=some (b (!(chk c==0)),[]):=by
   unfold Oa6;simp only[i9,J1,Mf5 c (hl c hc),Mf6 c (hl c hc)];rfl
  unfold ib8 ib9;rw[this];exact⟨rfl,rfl⟩
 have h:=wa3 (step:=J4 ⟨ls,(ls.length:Int)⟩) (mk:=λj=>(⟨(j:Int)⟩:p6)) (c:=λc=>!(chk c==0)) (u:=1) (fin:=2) (tLs tP) ls hn
  (λj hj=>by
   have hm:=hv _ (lc1 (tLs tP) hj);simp only[J4,G9,Int.toNat_natCast,i9,J1,hm.1,hm.2,m9 hj (by omega)]
   rw[btD (i8 hj),bt (f9 hj),l9,l9])
  (by simp only[J4,G9];rw[bfD (n5 (Qjc _))]) 0 (Qjd _)
 rw[Qja] at h;have e:(ls.any λc=>!(chk c==0))=!ls.all λc=>chk c==0:=by rw[Qji]
 unfold jb0 la2 C9 sa5 I1;simp only[i9,i6];rw[show (⟨0⟩:p6)=⟨((0:Nat):Int)⟩ from rfl,h,e]
 cases ls.all λc=>chk c==0 with
 |true=>rfl
 |false =>
  simp only[Qjaa,if_true,Qjj];show sl true (sl (Nat.beq 1 1) (some (b (!(decide (((ls.findIdx λc=>!(chk c==0):Nat):Int)>=0))),[])) _) _=_
  rw[show decide (((ls.findIdx λc=>!(chk c==0):Nat):Int)>=0)=true from decide_eq_true (by omega)]
  rfl
theorem vf0(ls:List (List Pln))(hn:ls.length<=1000000000)(hl:∀c∈ls,c.length<=1000000000):va5 ls=ls.all λc=>chk c==0:=by unfold va5;rw[be2 ls hn hl];rfl
theorem vf1(ls:List (List Pln))(hn:ls.length<=1000000000)(hl:∀c∈ls,c.length<=1000000000):va6 ls=true:=by unfold va6;rw[be2 ls hn hl];rfl
theorem Xc5(c:List Pln)(hc:c.length<=1000000000):va5 [c]=(chk c==0):=by
 rw[vf0 [c] (by simp) (by simpa using hc)]
 simp
theorem Xc6(c:List Pln)(hc:c.length<=1000000000):va6 [c]=true:=vf1 [c] (by simp) (by simpa using hc)
noncomputable def pos(X:List Pt)(p:Pln):Bool:=X.any λx=>decide (rm p x>0)
noncomputable def Vd6(r:List Pln):Bool:=r.all (pos (cor r))
theorem vf2(p:Pln)(X:List Pt)(hX:X.length<=1000000000):va8 ⟨p.n.x,p.n.y,p.n.z,p.b,X⟩=⟨1,!pos X p⟩:=by
 have hw:∀x:Pt,Da5 ⟨x.px,x.py,x.pz,x.pw,p.n.x,p.n.y,p.n.z,p.b⟩=⟨decide (rm p x>0)⟩:=λx=>by
  show Y2.mk (decide (Na9 p x>0))=_;rw[We7]
 have h:=wa3 (step:=L7 ⟨X,(X.length:Int),p.n.x,p.n.y,p.n.z,p.b⟩) (mk:=λj=>(⟨(j:Int)⟩:q8)) (c:=λx=>decide (rm p x>0)) (u:=1) (fin:=2) tX X hX
  (λj hj=>by
   simp only[L7,J5,Int.toNat_natCast,hw,m9 hj (by omega)]
   rw[btD (i8 hj),bt (f9 hj)])
  (by simp only[L7,J5];rw[bfD (n5 (Qjc _))]) 0 (Qjd _)
 rw[Qja] at h;unfold va8 V8 na3 E1 ya0 K7 pos;simp only[i9,i6];rw[show (⟨0⟩:q8)=⟨((0:Nat):Int)⟩ from rfl,h]
 cases X.any λx=>decide (rm p x>0) with
 |false=>rfl
 |true =>
  simp only[if_true,Qjj];show ga5.mk 1 (!(decide (((X.findIdx λx=>decide (rm p x>0):Nat):Int)>=0)))=_
  rw[show decide (((X.findIdx λx=>decide (rm p x>0):Nat):Int)>=0)=true from decide_eq_true (by omega)]
theorem Xe6(r:List Pln)(hb:Bds r)(hr:r.length<=200):ra0 r=some (b (Vd6 r),[]):=by
 have hX:(cor r).length<=1000000000:=Nat.le_trans (me3 r hb hr) (by omega)
 have h:=wa3 (step:=J6 ⟨r,(r.length:Int)⟩) (mk:=λj=>(⟨(j:Int),cor r⟩:p7)) (c:=λp=>!pos (cor r) p) (u:=1) (fin:=2) tP r (by omega)
  (λj hj=>by
   simp only[J6,H4,Int.toNat_natCast,i9,i6,vf2 _ _ hX,m9 hj (by omega)]
   rw[btD (i8 hj),bt (f9 hj)]
   rfl)
  (by simp only[J6,H4];rw[bfD (n5 (Qjc _))]) 0 (Qjd _)
 rw[Qja] at h;have e:(r.any λp=>!pos (cor r) p)=!r.all (pos (cor r)):=by rw[Qji]
 unfold ra0 la4 D0 sa7 I4 Vd6;simp only[i9,i6,J1,be0 r hb hr,be1 r hb hr];rw[show (⟨0,cor r⟩:p7)=⟨((0:Nat):Int),cor r⟩ from rfl,h,e]
 cases r.all (pos (cor r)) with
 |true=>rfl
 |false =>
  simp only[Qjaa,if_true,Qjj];show some (b (!(decide (((r.findIdx λp=>!pos (cor r) p:Nat):Int)>=0))),[])=_
  rw[show decide (((r.findIdx λp=>!pos (cor r) p:Nat):Int)>=0)=true from decide_eq_true (by omega)]
  rfl
theorem hg3(r:List Pln)(hb:Bds r)(hr:r.length<=200):Da6 r=Vd6 r:=by unfold Da6;rw[Xe6 r hb hr];rfl
theorem hg4(r:List Pln)(hb:Bds r)(hr:r.length<=200):Da7 r=true:=by unfold Da7;rw[Xe6 r hb hr];rfl
theorem Pe7(r:List Pln)(X:List Pt)(hr:r.length<=200)(hX:X.length<=1000000000)(a:Nat)(ha:a<r.length):∃m,lp (Ia9 ⟨r,X,(a:Int)⟩) ⟨false,0⟩=(1,⟨pos X r[a],m⟩):=by
 have h:=le7 (step:=Ia9 ⟨r,X,(a:Int)⟩) (mk:=λj (c:Bool)=>(⟨c,(j:Int)⟩:ua9)) (f:=λc x=>c||decide (rm r[a] x>0)) (fin:=1) tX X (λ_ _=>True) hX
  (λj c hj _=>⟨by
   simp only[Ia9,Na6,Int.toNat_natCast,We8,m9 hj (by omega),Ma0 tP ha,f9 ha,f9 hj]
   rw[btD (i8 hj)];cases c<;>rfl,trivial⟩)
  (λc _=>by simp only[Ia9,Na6];rw[bfD (n5 (Qjc _))]) 0 (Qjd _) false trivial
 have h:=h.1;rw[Qja] at h;have e:∀(l:List Pt) (c:Bool),l.foldl (λc x=>c||decide (rm r[a] x>0)) c=(c||l.any λx=>decide (rm r[a] x>0)):=by
  intro l
  induction l with
  |nil=>intro c;simp
  |cons x l ih=>intro c;rw[List.foldl_cons,ih,List.any_cons,Bool.or_assoc]
 rw[e,Bool.false_or] at h;exact⟨_,h⟩
theorem Xe7(r:List Pln)(hb:Bds r)(hr:r.length<=200):Kb2 r=some (b (Vd6 r),[]):=by
 have hX:(cor r).length<=1000000000:=Nat.le_trans (me3 r hb hr) (by omega)
 have h:=kb8 (step:=Xa0 ⟨⟩) (mk:=λj=>(⟨r,cor r,(j:Int)⟩:ma7)) (c:=λp=>!pos (cor r) p) (u:=1) (fin:=2) tP r (by omega)
  (λj hj=>by
   obtain⟨m,hm⟩:=Pe7 r (cor r) hr hX j hj;simp only[Xa0,Na7,i9,i6,hm,m9 hj (by omega),Ma0 tP hj]
   rw[btD (i8 hj)]
   rfl)
  (by simp only[Xa0,Na7];rw[bfD (n5 (Qjc _))]) 0 (Qjd _)
 rw[Qja] at h;have e:(r.any λp=>!pos (cor r) p)=!r.all (pos (cor r)):=by rw[Qji]
 unfold Kb2 Vd6;simp only[i9,i6,J1,Pe5 r hb hr,Pe6 r hb hr];rw[show (⟨r,cor r,0⟩:ma7)=⟨r,cor r,((0:Nat):Int)⟩ from rfl,h,e]
 cases r.all (pos (cor r))<;>rfl
theorem hg5(r:List Pln)(hb:Bds r)(hr:r.length<=200):jc0 r=Vd6 r:=by unfold jc0;rw[Xe7 r hb hr];rfl
theorem hg6(r:List Pln)(hb:Bds r)(hr:r.length<=200):jc1 r=true:=by unfold jc1;rw[Xe7 r hb hr];rfl
theorem Ub6{c:List Pln}(h:(chk c==0)=true):Bds (c++ws)/\(c++ws).length<=200:=by
 rw[beq_iff_eq,Xc1] at h;refine⟨λp hp=>?_,by rw[Qjb,show ws.length=6 from rfl];omega⟩
 rcases Qjz.1 hp with hp|hp
 ·exact lb6 (h.2 p hp)
 ·exact ug5 p hp
noncomputable def pts(c:List Pln):List Pt:=if chk c==0 then cor (c++ws) else []
noncomputable def ful(c:List Pln):Bool:=(chk c==0)&&Vd6 (c++ws)
theorem De0{c:List Pln}(hc:c.length<=1000000000):∃x,Xa7 c=some x/\(one (r1L tX)).rd x=some (pts c):=by
 unfold Xa7 pts;simp only[i9,J1,Xc5 c hc,Xc6 c hc,Zf2 c hc,Zf3 c hc];cases h:chk c==0 with
 |false=>exact⟨_,rfl,rfl⟩
 |true =>
  obtain⟨h1,h2⟩:=Ub6 h;rw[be0 _ h1 h2,be1 _ h1 h2];exact⟨_,rfl,Ce9 tX _⟩
theorem vf3{c:List Pln}(hc:c.length<=1000000000):rb7 c=pts c:=by
 obtain⟨x,h1,h2⟩:=De0 hc;unfold rb7;rw[h1];exact ua3 _ h2
theorem vf4{c:List Pln}(hc:c.length<=1000000000):rb8 c=true:=by
 obtain⟨x,h1,h2⟩:=De0 hc;unfold rb8;rw[h1];exact Ia0 _ h2
theorem Xe8{c:List Pln}(hc:c.length<=1000000000):wb1 c=some (b (ful c),[]):=by
 unfold wb1 ful;simp only[i9,J1,Xc5 c hc,Xc6 c hc,Zf2 c hc,Zf3 c hc];cases h:chk c==0 with
 |false=>rfl
 |true =>
  obtain⟨h1,h2⟩:=Ub6 h;rw[hg3 _ h1 h2,hg4 _ h1 h2];rfl
theorem vf5{c:List Pln}(hc:c.length<=1000000000):wb2 c=ful c:=by unfold wb2;rw[Xe8 hc];rfl
theorem vf6{c:List Pln}(hc:c.length<=1000000000):wb3 c=true:=by unfold wb3;rw[Xe8 hc];rfl
theorem De1{c:List Pln}(hc:c.length<=1000000000):Kb3 c=some (b (ful c),[]):=by
 unfold Kb3 ful;simp only[i9,J1,uf0 c hc,uf1 c hc,ug6 c hc,ug7 c hc];cases h:chk c==0 with
 |false=>rfl
 |true =>
  obtain⟨h1,h2⟩:=Ub6 h;rw[hg5 _ h1 h2,hg6 _ h1 h2];rfl
theorem Xe9{c:List Pln}(hc:c.length<=1000000000):db0 c=ful c:=by unfold db0;rw[De1 hc];rfl
theorem me6{c:List Pln}(hc:c.length<=1000000000):Na8 c=true:=by unfold Na8;rw[De1 hc];rfl
theorem De2{Q:Pt->Prop}(r:List Pln)(p q:Pln):∀(l:List Pln) (out:List Pt),(∀s∈l,(mpt p q s).2=true->inn r (mpt p q s).1=true->Q (mpt p q s).1)->(∀x∈out,Q x)->∀x∈Cb2 r p q l out,Q x
 |[],out,_,h=>h
 |s::l,out,hs,h=>De2 r p q l (Ra1 r p q out s) (λt ht=>hs t (Qjf _ ht)) λx hx=>by
  unfold Ra1 at hx
  split at hx
  ·rename_i hc;rw[Qjg,Qjg] at hc
   rcases Qjz.1 hx with hx|hx
   ·exact h x hx
   ·rw[List.mem_singleton] at hx;subst hx;exact hs s Qjs hc.1 hc.2.2
  ·exact h x hx
theorem De3{Q:Pt->Prop}(r:List Pln)(p:Pln):∀(l:List Pln) (out:List Pt),(∀q∈l,∀s∈l,(mpt p q s).2=true->inn r (mpt p q s).1=true->Q (mpt p q s).1)->(∀x∈out,Q x)->∀x∈lb8 r p l out,Q x
 |[],out,_,h=>h
 |q::l,out,hs,h=>De3 r p l _ (λa ha t ht=>hs a (Qjf _ ha) t (Qjf _ ht)) (De2 r p q l out (λt ht=>hs q Qjs t (Qjf _ ht)) h)
theorem De4{Q:Pt->Prop}(r:List Pln):∀(l:List Pln) (out:List Pt),(∀p∈l,∀q∈l,∀s∈l,(mpt p q s).2=true->inn r (mpt p q s).1=true->Q (mpt p q s).1)->(∀x∈out,Q x)->∀x∈Xc2 r l out,Q x
 |[],out,_,h=>h
 |p::l,out,hs,h=>De4 r l _ (λa ha c hc t ht=>hs a (Qjf _ ha) c (Qjf _ hc) t (Qjf _ ht)) (De3 r p l out (λc hc t ht=>hs p Qjs c (Qjf _ hc) t (Qjf _ ht)) h)
theorem Ye0{Q:Pt->Prop}{r:List Pln}(hs:∀p∈r,∀q∈r,∀s∈r,(mpt p q s).2=true->inn r (mpt p q s).1=true->Q (mpt p q s).1):∀x∈cor r,Q x :=
 De4 r r [] hs λx hx=>by cases hx
structure Okx(x:Pt):Prop where
 w1:0<x.pw
 w2:x.pw<=600000000000
 c1:Sm 300000000000000 x.px
 c2:Sm 300000000000000 x.py
 c3:Sm 300000000000000 x.pz
theorem wd9{r:List Pln}(hb:Bds r):∀x∈cor r,Okx x:=Ye0 λp hp q hq s hs h _=>by
 obtain⟨h1,h2,h3,h4,h5⟩:=Pe4 (hb p hp) (hb q hq) (hb s hs) h;exact⟨h1,h5,h2,h3,h4⟩
theorem Of0{c:List Pln}:∀x∈pts c,Okx x:=by
 unfold pts;cases h:chk c==0 with
 |false=>intro x hx;cases hx
 |true=>exact wd9 (Ub6 h).1
theorem Of1(c:List Pln):(pts c).length<=8000000:=by
 unfold pts;cases h:chk c==0 with
 |false=>exact Qjd _
 |true=>exact me3 _ (Ub6 h).1 (Ub6 h).2
theorem vf7{x y:Int}(hy:0<y):Int.tmod x y+y*Int.tdiv x y=x/\-y<Int.tmod x y/\Int.tmod x y<y:=by
 refine⟨Int.tmod_add_mul_tdiv x y,?_,Int.tmod_lt_of_pos x hy⟩
 have:=Int.lt_tmod_of_pos x hy
 omega
theorem vf8(x:Int){y:Int}(hy:0<y)(hy2:y<=4000000000000000000):bc6 x y=some (i (x % y),[]):=by
 have hz:(y==0)=false:=by rw[beq_eq_false_iff_ne];omega
 obtain⟨h1,h2,h3⟩:=vf7 (x:=x) hy;unfold bc6;rw[bfD (by omega),bf hz,bf hz,E4 (by omega) (by omega),Int.tmod_eq_emod_of_nonneg (by omega)]
 congr 3;rw[Int.add_emod_right]
 conv=>rhs;rw[<- h1]
 rw[Int.add_mul_emod_self_left]
theorem ug8(x:Int){y:Int}(hy:0<y)(hy2:y<=4000000000000000000):bc7 x y=x % y:=by unfold bc7;rw[vf8 x hy hy2];rfl
theorem Ye1(x:Int){y:Int}(hy:0<y)(hy2:y<=4000000000000000000):bc8 x y=true:=by unfold bc8;rw[vf8 x hy hy2];rfl
theorem Sm.neg{n x:Int}(h:Sm n x):Sm n (-x):=⟨by have:=h.2;omega,by have:=h.1;omega⟩
theorem vf9(x:Pln):(x.n.x==x.n.x&&(x.n.y==x.n.y&&(x.n.z==x.n.z&&(x.b==x.b&&true))))=true:=by simp
theorem Ye2(l:List Pln)(hl:l.length<=1000000000):Mb4 l l=some (b true,[]):=by
 have h:=kb8 (step:=Ya3 ⟨l,l⟩) (mk:=λj=>(⟨(j:Int)⟩:oa0)) (c:=λ_=>false) (u:=1) (fin:=2) tP l hl
  (λj hj=>by
   simp only[Ya3,Pa4,Int.toNat_natCast,m9 hj (by omega),vf9]
   rw[btD (i8 hj),bt (f9 hj),bt (f9 hj)]
   rfl)
  (by simp only[Ya3,Pa4];rw[bfD (n5 (Qjc _))]) 0 (Qjd _)
 rw[Qja,show (l.any λ_=>false)=false by simp] at h
 unfold Mb4;simp only[i9,i6];rw[show (⟨0⟩:oa0)=⟨((0:Nat):Int)⟩ from rfl,h,bf (by simp)]
 rfl
theorem wf0(l:List Pln)(hl:l.length<=1000000000):Mb5 l l=true:=by unfold Mb5;rw[Ye2 l hl];rfl
theorem wf1(l:List Pln)(hl:l.length<=1000000000):Mb6 l l=true:=by unfold Mb6;rw[Ye2 l hl];rfl
def Nx{σ:Type}(x:Stp σ)(E:Nat->Prop)(N:σ->Prop):Prop:=(∃t,x=.exit t/\E t)\/∃s,x=.next s/\N s
theorem Nx.sl{σ:Type}{c:Bool}{t e:Stp σ}{E:Nat->Prop}{N:σ->Prop}(h1:c=true->Nx t E N)(h2:c=false->Nx e E N):Nx (sl c t e) E N:=by cases c;exact h2 rfl;exact h1 rfl
theorem Nx.ex{σ:Type}{t:Nat}{E:Nat->Prop}{N:σ->Prop}(h:E t):Nx (.exit t) E N:=.inl ⟨t,rfl,h⟩
theorem Nx.nx{σ:Type}{s:σ}{E:Nat->Prop}{N:σ->Prop}(h:N s):Nx (.next s) E N:=.inr ⟨s,rfl,h⟩
theorem P5 {σ τ : Type} {step : σ → Stp σ} {mk : Nat → τ → σ} (n : Nat) (I : Nat → τ → Prop) (E : Nat → σ → Prop) (hn : n ≤ 1000000000)
  (h:∀j a,j<n->I j a->Nx (step (mk j a)) (λt=>E t (mk j a)) (λs=>∃a',s=mk (j+1) a'/\I (j+1) a'))
  (hf:∀j a,n<=j->I j a->∃t,step (mk j a)=.exit t/\E t (mk j a)) (j0:Nat) (a:τ) (hi:I j0 a):∃t s,lp step (mk j0 a)=(t,s)/\E t s:=by
 have key:=wc7 (step:=step) (I:=λm s=>∃j a,m=n-j/\s=mk j a/\I j a) (Q:=E) (λm s ⟨j,a,hm,hs,ha⟩=>by
  subst hs;by_cases hlt:j<n
  ·rcases h j a hlt ha with h1|⟨s',h1,a',h2,h3⟩
   ·exact .inl h1
   ·subst h2;exact .inr ⟨_,n-(j+1),by omega,h1,j+1,a',rfl,rfl,h3⟩
  ·exact .inl (hf j a (by omega) ha)) (n-j0) (mk j0 a) (by omega) ⟨j0,a,rfl,rfl,hi⟩
 exact⟨_,_,rfl,key⟩
def Rd{ρ:Type}(R:RR ρ)(o:Option (b7×List b8))(P:ρ->Prop):Prop:=∃x r,o=some x/\R.rd x=some r/\P r
theorem Rd.p{ρ:Type}{R:RR ρ}{o:Option (b7×List b8)}{P:ρ->Prop}(h:Rd R o P):P (E9 R o):=by
 obtain⟨x,r,h1,h2,h3⟩:=h;rw[h1,ua3 R h2];exact h3
theorem Rd.g{ρ:Type}{R:RR ρ}{o:Option (b7×List b8)}{P:ρ->Prop}(h:Rd R o P):okO R o=true:=by
 obtain⟨x,r,h1,h2,h3⟩:=h;rw[h1];exact Ia0 R h2
theorem Rd.sl{ρ:Type}{R:RR ρ}{c:Bool}{t e:Option (b7×List b8)}{P:ρ->Prop}(h1:c=true->Rd R t P)(h2:c=false->Rd R e P):Rd R (sl c t e) P:=by cases c;exact h2 rfl;exact h1 rfl
theorem R4 (n : Int) (l : List Int) (j : Int) (h1 : 0 ≤ j) (h2 : j ≤ 1000000) (hn : 0 < n) (hn2 : n ≤ 1000000) :
  ∃v j',o2 ⟨n,l,j⟩=⟨1,v,j'⟩/\0<=v/\v<n/\j<=j'/\j'<=j+1:=by
 unfold o2 ta8
 simp only
 by_cases h:j>=(l.length:Int)
 ·rw[btD h];exact⟨0,j,rfl,by omega,hn,by omega,by omega⟩
 ·rw[bfD h];have hW:W (W (j+1)-1)=j:=by rw[Id2,E4 (by omega) (by omega)];omega
  have hW2:W (j+1)=j+1:=E4 (by omega) (by omega)
  have hin:inB j l.length=true:=by rw[wd7];exact decide_eq_true (by omega)
  rw[hW,hW2,hin,Ye1 _ hn (by omega),ug8 _ hn (by omega)]
  exact⟨_,_,rfl,Int.emod_nonneg _ (by omega),Int.emod_lt_of_pos _ hn,by omega,by omega⟩
theorem Cb3 (m : Int) (l : List Int) (j : Int) (h1 : 0 ≤ j) (h2 : j ≤ 900000) (hm : 0 ≤ m) (hm2 : m ≤ 100000) :
  ∃a b c j',pb1 ⟨m,l,j⟩=⟨1,a,b,c,l,j'⟩/\Sm m a/\Sm m b/\Sm m c/\j<=j'/\j'<=j+3:=by
 unfold pb1 Hb5;simp only[i9,i6];have hW:W (W (2*m)+1)=2*m+1:=by rw[Va9,E4 (by omega) (by omega)]
 rw[hW];obtain⟨v1,j1,e1,a1,b1,c1,d1⟩:=R4 (2*m+1) l j h1 (by omega) (by omega) (by omega)
 rw[e1];obtain⟨v2,j2,e2,a2,b2,c2,d2⟩:=R4 (2*m+1) l j1 (by omega) (by omega) (by omega) (by omega)
 simp only
 rw[e2];obtain⟨v3,j3,e3,a3,b3,c3,d3⟩:=R4 (2*m+1) l j2 (by omega) (by omega) (by omega) (by omega)
 simp only
 rw[e3];refine⟨v1-m,v2-m,v3-m,j3,?_,⟨by omega,by omega⟩,⟨by omega,by omega⟩,⟨by omega,by omega⟩,by omega,by omega⟩
 simp only
 rw[E4 (n:=v1-m) (by omega) (by omega),E4 (n:=v2-m) (by omega) (by omega),E4 (n:=v3-m) (by omega) (by omega)]
 rfl
def inV(v:V3):Bool:=smb 24 v.x&&(smb 24 v.y&&smb 24 v.z)
theorem cb0(v:V3):inV v=true↔Sm 24 v.x/\Sm 24 v.y/\Sm 24 v.z:=by unfold inV;rw[Qjg,Qjg,Ta6,Ta6,Ta6]
theorem wf2(v:V3):vc6 v=some (b (inV v),[]):=by
 unfold vc6 inV smb;cases h1:decide (v.x < -24)<;>cases h2:decide (v.x>24)<;>cases h3:decide (v.y < -24)<;>cases h4:decide (v.y>24)<;>cases h5:decide (v.z < -24)<;>cases h6:decide (v.z>24)<;>rfl
theorem Ye3(v:V3):wb6 v=inV v:=by unfold wb6;rw[wf2];rfl
theorem De5(v:V3):wb7 v=true:=by unfold wb7;rw[wf2];rfl
def sub(a b:V3):V3:=⟨a.x-b.x,a.y-b.y,a.z-b.z⟩
theorem Ye4{a b:V3}(ha:inV a=true)(hb:inV b=true):Sa5 a b=sub a b/\Sm 48 (sub a b).x/\Sm 48 (sub a b).y/\Sm 48 (sub a b).z:=by
 rw[cb0] at ha hb;obtain⟨⟨a1,a2⟩,⟨a3,a4⟩,a5,a6⟩:=ha;obtain⟨⟨b1,b2⟩,⟨b3,b4⟩,b5,b6⟩:=hb;unfold Sa5 sub;rw[E4 (by omega) (by omega),E4 (by omega) (by omega),E4 (by omega) (by omega)]
 exact⟨rfl,⟨by show _<=a.x-b.x;omega,by show a.x-b.x<=_;omega⟩,⟨by show _<=a.y-b.y;omega,by show a.y-b.y<=_;omega⟩,⟨by show _<=a.z-b.z;omega,by show a.z-b.z<=_;omega⟩⟩
theorem Zb6 {a b c : V3} (ha : inV a = true) (hb : inV b = true) (hc : inV c = true) :
  aa5 (Sa5 b a) (Sa5 c a)=d8 (sub b a) (sub c a)/\Sm 4608 (d8 (sub b a) (sub c a)).x/\Sm 4608 (d8 (sub b a) (sub c a)).y/\Sm 4608 (d8 (sub b a) (sub c a)).z:=by
 obtain⟨e1,⟨u1,u2⟩,⟨u3,u4⟩,u5,u6⟩:=Ye4 hb ha;obtain⟨e2,⟨v1,v2⟩,⟨v3,v4⟩,v5,v6⟩:=Ye4 hc ha;rw[e1,e2,Wc9];generalize sub b a=p at *
 generalize sub c a=q at *
 have h1:=mb u3 u4 v5 v6;have h2:=mb u5 u6 v3 v4;have h3:=mb u5 u6 v1 v2;have h4:=mb u1 u2 v5 v6;have h5:=mb u1 u2 v3 v4;have h6:=mb u3 u4 v1 v2;have k:Sm 4608 (d8 p q).x/\Sm 4608 (d8 p q).y/\Sm 4608 (d8 p q).z:=by unfold Sm d8;simp only;omega
 obtain⟨k1,k2,k3⟩:=k;rw[za8 (k1.mono (by omega)),za8 (k2.mono (by omega)),za8 (k3.mono (by omega))]
 exact⟨rfl,k1,k2,k3⟩
def A6(a b c:V3):Pln×Bool :=
 if inV a&&(inV b&&inV c) then
  if g3 (d8 (sub b a) (sub c a))=0 then (⟨⟨0,0,0⟩,0⟩,false)
  else (⟨⟨Int.tdiv (d8 (sub b a) (sub c a)).x (g3 (d8 (sub b a) (sub c a))),Int.tdiv (d8 (sub b a) (sub c a)).y (g3 (d8 (sub b a) (sub c a))),Int.tdiv (d8 (sub b a) (sub c a)).z (g3 (d8 (sub b a) (sub c a)))⟩,
   dot ⟨Int.tdiv (d8 (sub b a) (sub c a)).x (g3 (d8 (sub b a) (sub c a))),Int.tdiv (d8 (sub b a) (sub c a)).y (g3 (d8 (sub b a) (sub c a))),Int.tdiv (d8 (sub b a) (sub c a)).z (g3 (d8 (sub b a) (sub c a)))⟩ a⟩,true)
 else (⟨⟨0,0,0⟩,0⟩,false)
theorem Bc7(v:V3):0<=g3 v:=by unfold g3;omega
theorem Ld0(a c d:V3):Ya0 a c d=some (.tup [.agg (tP.row (A6 a c d).1),b (A6 a c d).2],[]):=by
 unfold Ya0 A6;simp only[Ye3,De5];cases ha:inV a with
 |false=>rfl
 |true =>
  cases hc:inV c with
  |false=>rfl
  |true =>
   cases hd:inV d with
   |false=>rfl
   |true =>
    obtain⟨e,k1,k2,k3⟩:=Zb6 ha hc hd;rw[e];generalize d8 (sub c a) (sub d a)=n at *
    have m1:=k1.mono (m:=1000000000000000000) (by omega)
    have m2:=k2.mono (m:=1000000000000000000) (by omega)
    have m3:=k3.mono (m:=1000000000000000000) (by omega)
    rw[tf9 m1 m2 m3,Kd4 m1 m2 m3];by_cases h0:g3 n=0
    ·rw[show (g3 n==0)=true from by rw[h0];rfl]
     simp only[Bool.and_self,if_true,h0];rfl
    ·have hp:=Bc7 n;have q1:=E6 (g:=g3 n) k1 (by omega)
     have q2:=E6 (g:=g3 n) k2 (by omega)
     have q3:=E6 (g:=g3 n) k3 (by omega)
     rw[show (g3 n==0)=false from by rw[beq_eq_false_iff_ne];exact h0,gg1 m1 m2 m3 h0]
     simp only[Bool.and_self,if_true,h0,if_false];rw[za8 (q1.mono (by omega)),za8 (q2.mono (by omega)),za8 (q3.mono (by omega))]
     have hdot:Ia8 ⟨Int.tdiv n.x (g3 n),Int.tdiv n.y (g3 n),Int.tdiv n.z (g3 n)⟩ a=dot ⟨Int.tdiv n.x (g3 n),Int.tdiv n.y (g3 n),Int.tdiv n.z (g3 n)⟩ a:=by
      unfold Ia8;simp only[Va9,pb8];obtain⟨⟨a1,a2⟩,⟨a3,a4⟩,a5,a6⟩:=(cb0 a).1 ha;have r1:=mb q1.1 q1.2 a1 a2;have r2:=mb q2.1 q2.2 a3 a4;have r3:=mb q3.1 q3.2 a5 a6;rw[E4 (by omega) (by omega)]
      rfl
     rw[hdot];rfl
theorem Hb6(a b c:V3):ya3 a b c=A6 a b c:=by unfold ya3;rw[Ld0];rfl
theorem Ta7(a b c:V3):ya4 a b c=true:=by unfold ya4;rw[Ld0];rfl
theorem Of2(l:List Int):Rd (one r1P) (Da8 l) (λ_=>True):=by
 unfold Da8;simp only[i9,i6];obtain⟨v1,j1,e1,a1,b1,c1,d1⟩:=R4 8 l 0 (by omega) (by omega) (by omega) (by omega)
 rw[e1]
 simp only
 obtain⟨v2,j2,e2,a2,b2,c2,d2⟩:=R4 17 l j1 (by omega) (by omega) (by omega) (by omega)
 rw[e2]
 simp only
 obtain⟨x1,x2,x3,j3,e3,_,_,_,c3,d3⟩:=Cb3 8 l j2 (by omega) (by omega) (by omega) (by omega)
 rw[e3]
 simp only
 obtain⟨y1,y2,y3,j4,e4,_,_,_,c4,d4⟩:=Cb3 8 l j3 (by omega) (by omega) (by omega) (by omega)
 rw[e4]
 simp only
 obtain⟨z1,z2,z3,j5,e5,_,_,_,c5,d5⟩:=Cb3 8 l j4 (by omega) (by omega) (by omega) (by omega)
 rw[e5];simp only[Hb6,Ta7,Ye1 _ (show (0:Int)<3 by omega) (by omega),i6]
 simp only[Qjk,Qjl,l9];refine Rd.sl (λ_=>Rd.sl (λ_=>⟨_,_,rfl,rfl,trivial⟩) λ_=>?_) (λ_=>?_)
 ·exact Rd.sl (λ_=>⟨_,_,rfl,rfl,trivial⟩) λ_=>Rd.sl (λ_=>⟨_,_,rfl,rfl,trivial⟩) λ_=>⟨_,_,rfl,rfl,trivial⟩
 ·exact Rd.sl (λ_=>⟨_,_,rfl,rfl,trivial⟩) λ_=>Rd.sl (λ_=>⟨_,_,rfl,rfl,trivial⟩) λ_=>⟨_,_,rfl,rfl,trivial⟩
theorem me7(l:List Int):kc2 l=true:=(Of2 l).g
theorem Of3(p:Pln)(v:V3):Rd (one r1I) (db1 p v) (λ_=>True):=by
 unfold db1;simp only[Kd5,De5,l9];exact Rd.sl (λ_=>⟨_,_,rfl,rfl,trivial⟩) λ_=>Rd.sl (λ_=>⟨_,_,rfl,rfl,trivial⟩) λ_=>Rd.sl (λ_=>⟨_,_,rfl,rfl,trivial⟩) λ_=>Rd.sl (λ_=>⟨_,_,rfl,rfl,trivial⟩) λ_=>⟨_,_,rfl,rfl,trivial⟩
theorem me8(p:Pln)(v:V3):kc3 p v=true:=(Of3 p v).g
theorem ug9(P:Da9)(hl:P.f7.length<=1000000000):∃t s,lp (E0 P) ⟨0⟩=(t,s)/\(t=1\/t=2\/t=3):=by
 obtain⟨l,x1,x2,x3,x4,x5,x6,x7,x8⟩:=P;refine P5 (step:=E0 ⟨l,x1,x2,x3,x4,x5,x6,x7,x8⟩) (mk:=λj (_:Unit)=>(⟨(j:Int)⟩:na6)) l.length (λ_ _=>True) (λt _=>t=1\/t=2\/t=3) hl (λj a hj _=>?_) (λj a hj _=>?_) 0 () trivial
 ·simp only[E0,ga8,me8,Int.toNat_natCast,m9 hj (show l.length<=4611686018427387904 from Nat.le_trans hl (by omega))]
  rw[btD (i8 hj),bt (f9 hj),l9];exact Nx.sl (λ_=>Nx.sl (λ_=>.ex (by simp)) λ_=>.nx ⟨(),rfl,trivial⟩) λ_=>.ex (by simp)
 ·simp only[E0,ga8];rw[bfD (by omega)]
  exact⟨_,rfl,by simp⟩
theorem vg0(l:List V3)(hl:l.length<=1000000000)(a c:Nat)(ha:a<l.length)(hc:c<a):∃t s,lp (W9 ⟨(a:Int),(c:Int)⟩) ⟨l,0⟩=(t,s)/\((t=1\/t=2)/\s.f7=l):=by
 refine P5 (step:=W9 ⟨(a:Int),(c:Int)⟩) (mk:=λj (_:Unit)=>(⟨l,(j:Int)⟩:na7)) c (λ_ _=>True) (λt s=>(t=1\/t=2)/\s.f7=l) (by omega) (λj x hj _=>?_) (λj x hj _=>?_) 0 () trivial
 ·simp only[W9,ra2,Ta7,Int.toNat_natCast,i9,i6,m9 hj (show c<=4611686018427387904 by omega)]
  rw[btD (i8 hj),bt (f9 ha),bt (f9 (show c<l.length by omega)),bt (f9 (show j<l.length by omega)),l9]
  generalize hP:Da9.mk _ _ _ _ _ _ _ _ _=P3;obtain⟨t,s,h1,h2⟩:=ug9 P3 (by subst hP;exact hl)
  rw[h1]
  rcases h2 with rfl|rfl|rfl
  ·exact .ex (by simp)
  ·exact .nx ⟨(),rfl,trivial⟩
  ·exact .nx ⟨(),rfl,trivial⟩
 ·simp only[W9,ra2];rw[bfD (by omega)]
  exact⟨_,rfl,by simp⟩
theorem vg1(l:List V3)(hl:l.length<=1000000000)(a:Nat)(ha:a<l.length):∃t s,lp (X0 ⟨(a:Int)⟩) ⟨l,0⟩=(t,s)/\((t=1\/t=2)/\s.f7=l):=by
 refine P5 (step:=X0 ⟨(a:Int)⟩) (mk:=λj (_:Unit)=>(⟨l,(j:Int)⟩:na8)) a (λ_ _=>True) (λt s=>(t=1\/t=2)/\s.f7=l) (by omega) (λj x hj _=>?_) (λj x hj _=>?_) 0 () trivial
 ·simp only[X0,ra3,i9,i6,m9 hj (show a<=4611686018427387904 by omega)]
  obtain⟨t,s,h1,h2,h3⟩:=vg0 l hl a j ha hj;rw[btD (i8 hj),h1]
  rcases h2 with rfl|rfl
  ·exact .ex (by simp)
  ·exact .nx ⟨(),by rw[h3],trivial⟩
 ·simp only[X0,ra3];rw[bfD (by omega)]
  exact⟨_,rfl,by simp⟩
theorem Rb7(l:List V3)(hl:l.length<=1000000000):Rd (one r1B) (db2 l) (λ_=>True):=by
 have key:∃t s,lp (X1 ⟨⟩) ⟨l,0⟩=(t,s)/\(t=1\/t=2):=by
  refine P5 (step:=X1 ⟨⟩) (mk:=λj (_:Unit)=>(⟨l,(j:Int)⟩:na9)) l.length (λ_ _=>True) (λt s=>t=1\/t=2) hl (λj x hj _=>?_) (λj x hj _=>?_) 0 () trivial
  ·simp only[X1,ra4,i9,i6,m9 hj (show l.length<=4611686018427387904 by omega)]
   obtain⟨t,s,h1,h2,h3⟩:=vg1 l hl j hj;rw[btD (i8 hj),h1]
   rcases h2 with rfl|rfl
   ·exact .ex (by simp)
   ·exact .nx ⟨(),by rw[h3],trivial⟩
  ·simp only[X1,ra4];rw[bfD (by omega)]
   exact⟨_,rfl,by simp⟩
 obtain⟨t,s,h1,h2⟩:=key;unfold db2;simp only[i9,i6];rw[h1]
 rcases h2 with rfl|rfl<;>exact⟨_,_,rfl,rfl,trivial⟩
theorem Pe8(l:List V3)(hl:l.length<=1000000000):pb4 l=true:=(Rb7 l hl).g
theorem Pe9(l:List V3)(hl:l.length<=1000000000):Rd (one r1I) (Pa1 l) (λ_=>True):=by
 have h:=kb8 (step:=ga9 ⟨l⟩) (mk:=λj=>(⟨(j:Int)⟩:S4)) (c:=λv=>!inV v) (u:=1) (fin:=2) tV l hl
  (λj hj=>by
   simp only[ga9,la6,Int.toNat_natCast,Ye3,De5,m9 hj (show l.length<=4611686018427387904 by omega)]
   rw[btD (i8 hj),bt (f9 hj),l9])
  (by simp only[ga9,la6];rw[bfD (n5 (Qjc _))]) 0 (Qjd _)
 unfold Pa1;simp only[i9,i6,J1,Pe8 l hl];rw[show (⟨0⟩:S4)=⟨((0:Nat):Int)⟩ from rfl,h]
 refine Rd.sl (λ_=>⟨_,_,rfl,rfl,trivial⟩) λ_=>?_
 rw[Qja];cases l.any λv=>!inV v with
 |true=>exact⟨_,_,rfl,rfl,trivial⟩
 |false =>
  show Rd (one r1I) (sl (db3 l) (some (i 11,[])) (some (i 0,[]))) (λ_=>True)
  exact Rd.sl (λ_=>⟨_,_,rfl,rfl,trivial⟩) λ_=>⟨_,_,rfl,rfl,trivial⟩
theorem be3(l:List V3)(hl:l.length<=1000000000):vc9 l=true:=(Pe9 l hl).g
theorem wf3(p:Pln)(l:List V3)(hl:l.length<=1000000000):Rd (one r1B) (Pa2 p l) (λ_=>True):=by
 have h:=kb8 (step:=ha0 ⟨l,p.n.x,p.n.y,p.n.z,p.b⟩) (mk:=λj=>(⟨(j:Int)⟩:S5)) (c:=λv=>decide (pb3 p v>0)) (u:=1) (fin:=2) tV l hl
  (λj hj=>by
   simp only[ha0,la7,Int.toNat_natCast,me8,m9 hj (show l.length<=4611686018427387904 by omega)]
   rw[btD (i8 hj),bt (f9 hj),l9])
  (by simp only[ha0,la7];rw[bfD (n5 (Qjc _))]) 0 (Qjd _)
 unfold Pa2;simp only[i9,i6];rw[show (⟨0⟩:S5)=⟨((0:Nat):Int)⟩ from rfl,h]
 split<;>exact⟨_,_,rfl,rfl,trivial⟩
theorem Ye5(p:Pln)(l:List V3)(hl:l.length<=1000000000):pa1 p l=true:=(wf3 p l hl).g
theorem hg7(p q:Pln):Rd (one r1I) (ya5 p q) (λ_=>True):=by
 have key:∃t s,lp (K8 ⟨p.n.x,p.n.y,p.n.z,p.b,q.n.x,q.n.y,q.n.z,q.b⟩) ⟨0⟩=(t,s)/\(t=1\/t=2\/t=3):=by
  refine P5 (step:=K8 ⟨p.n.x,p.n.y,p.n.z,p.b,q.n.x,q.n.y,q.n.z,q.b⟩) (mk:=λj (_:Unit)=>(⟨(j:Int)⟩:U4)) 4 (λ_ _=>True) (λt s=>t=1\/t=2\/t=3) (by omega) (λj x hj _=>?_) (λj x hj _=>?_) 0 () trivial
  ·have hn:=m9 hj (show 4<=4611686018427387904 by omega)
   simp only[K8,Y4,Int.toNat_natCast,hn];have hlt:(j:Int)<4:=by omega
   have hin:=f9 hj;have g:∀x1 x2 x3 x4:Int,((Nat.ble ((0+(j*1))+1) 4)&&(oa7 [CK.int .i64] (j8 [i x1,i x2,i x3,i x4] (0+(j*1)))))=true:=by
    intro x1 x2 x3 x4
    match j,hj with
    |0,_=>rfl
    |1,_=>rfl
    |2,_=>rfl
    |3,_=>rfl
   rw[btD hlt];simp only[hin,g,l9];exact Nx.sl (λ_=>.ex (by simp)) λ_=>Nx.sl (λ_=>.ex (by simp)) λ_=>.nx ⟨(),rfl,trivial⟩
  ·simp only[K8,Y4];rw[bfD (by omega)]
   exact⟨_,rfl,by simp⟩
 obtain⟨t,s,h1,h2⟩:=key;unfold ya5
 simp only
 rw[h1]
 rcases h2 with rfl|rfl|rfl<;>exact⟨_,_,rfl,rfl,trivial⟩
theorem wf4(p q:Pln):Xb5 p q=true:=(hg7 p q).g
theorem Ld1(l:List Pln)(n:Nat)(h:n<=l.length):o8 (λk=>(λk=>tP.row (gL tP l k)) (0+k)) (List.range (n-0))=bL tP (l.take n):=by
 rw[<- ub1,o7,o7,Qjq,Nat.min_eq_left h,Nat.sub_zero];apply List.map_congr_left;intro k hk;rw[List.mem_range] at hk;show tP.row (gL tP l (0+k))=tP.row (gL tP (l.take n) k);congr 1;simp[gL,Qjt,List.getElem?_take,hk]
theorem Ld2(l:List Pln)(n:Nat):o8 (λk=>(λk=>tP.row (gL tP l k)) (n+k)) (List.range (l.length-n))=bL tP (l.drop n):=by
 rw[<- ub1,o7,o7,Qje];apply List.map_congr_left;intro k hk;show tP.row (gL tP l (n+k))=tP.row (gL tP (l.drop n) k);rw[Xc4]
theorem yc0(l:List Pln)(x1 x2 x3 x4:Int):app (bL tP l) [[i x1,i x2,i x3,i x4]]=bL tP (l++[⟨⟨x1,x2,x3⟩,x4⟩]):=Ka4 tP l [⟨⟨x1,x2,x3⟩,x4⟩]
def pc8(x:List Pln)(y:Pln)(n:Nat):List Pln:=x.take n++(y::x.drop n)
theorem Ld3{l:List Pln}{n:Nat}{r:List (List b7)}{P:List Pln->Prop}(hn:n=l.length)(hr:r=bL tP l)(h:P l):Rd (one (r1L tP)) (some (.sl 0 0 n 0,[⟨73,4,r,true,false,0⟩])) P:=by
 subst hn hr;exact⟨_,l,rfl,Nc9 l,h⟩
theorem wf5(x:List Pln)(y:Pln)(hx:x.length<=1000000):Rd (one (r1L tP)) (pb5 x y) (λr=>r≠[]/\r.length<=x.length+1/\∀p∈r,p=y\/p∈x):=by
 have h:=wa3 (step:=fa4 ⟨x,y.n.x,y.n.y,y.n.z,y.b⟩) (mk:=λj=>(⟨(j:Int)⟩:ha3)) (c:=λp=>!decide (ya6 p y<0)) (u:=1) (fin:=2) tP x (by omega)
  (λj hj=>by
   simp only[fa4,ya7,Int.toNat_natCast,wf4,m9 hj (show x.length<=4611686018427387904 by omega)]
   rw[btD (i8 hj),bt (f9 hj),l9];cases decide (ya6 (gL tP x j) y<0)<;>rfl)
  (by simp only[fa4,ya7];rw[bfD (n5 (Qjc _))]) 0 (Qjd _)
 rw[Qja] at h;have key:∃t n,lp (fa4 ⟨x,y.n.x,y.n.y,y.n.z,y.b⟩) ⟨0⟩=(t,⟨((n:Nat):Int)⟩)/\(t=1\/t=2)/\n<=x.length:=by
  rw[show (⟨0⟩:ha3)=⟨((0:Nat):Int)⟩ from rfl,h]
  split
  ·exact⟨1,_,rfl,.inl rfl,by rw[Qjj];exact List.findIdx_le_length⟩
  ·exact⟨2,_,rfl,.inr rfl,Nat.le_refl _⟩
 obtain⟨t,n,h1,h2,h3⟩:=key;have hlo:inB (n:Int) (x.length+1)=true:=f9 (by omega)
 have hd:(bL tP (x.take n)).length=n:=by rw[<- o3,V2,Qjq];omega
 have hmem:∀p∈pc8 x y n,p=y\/p∈x:=λp hp=>by
  unfold pc8 at hp
  rcases Qjz.1 hp with hp|hp
  ·exact .inr (List.mem_of_mem_take hp)
  ·rcases Qjab.1 hp with hp|hp
   ·exact .inl hp
   ·exact .inr (Qjr hp)
 have hne:pc8 x y n≠[]:=by unfold pc8;simp
 have hlen:(pc8 x y n).length=x.length+1:=by unfold pc8;simp only[Qjb,List.length_cons,Qjq,Qje];omega
 have lt:len (bL tP (x.take n))=n:=by rw[o3];exact hd
 have ld:len (bL tP (x.drop n))=x.length-n:=by rw[V2,Qje]
 have b1:(Nat.beq 1 1&&Nat.ble ((1+(x.length-n))*32) room)=true:=by rw[ja4 (by omega)];rfl
 have b2:(Nat.beq 0 0&&Nat.ble ((0+n)*32) room)=true:=by rw[ja4 (by omega)];rfl
 have e0:app [] (bL tP (x.take n))=bL tP (x.take n):=rfl;have b3:(Nat.beq (0+n) n&&Nat.ble (((0+n)+1)*32) room)=true:=by rw[ja4 (by omega),Qjj,Qjk];rfl
 have l3:len (bL tP (x.take n++[y]))=n+1:=by rw[V2,Qjb,Qjq];simp only[List.length_singleton];omega
 have b4:(Nat.beq ((0+n)+1) (n+1)&&Nat.ble ((((0+n)+1)+(x.length-n))*32) room)=true:=by rw[ja4 (by omega),Qjj,Qjk];rfl
 have z0:∀{k:Nat},Nat.beq k 0=true->k=0:=λ{k} h=>Nat.eq_of_beq_eq_true h
 have fin:∀m r,m=x.length+1->r=bL tP (pc8 x y n)->Rd (one (r1L tP)) (some (.sl 0 0 m 0,[⟨73,4,r,true,false,0⟩])) (λr=>r≠[]/\r.length<=x.length+1/\∀p∈r,p=y\/p∈x) :=
  λm r hm hr=>Ld3 (by rw[hlen];exact hm) hr ⟨hne,by omega,hmem⟩
 have tail : Rd (one (r1L tP)) (sl (Nat.beq n 0) (sl (Nat.beq (x.length - n) 0) (some ((.sl 0 0 1 0), [⟨73, 4, [[(i y.n.x), (i y.n.y), (i y.n.z), (i y.b)]], true, false, 0⟩]))
   (some ((.sl 0 0 (1+(x.length-n)) 0),[⟨73,4,(app [[(i y.n.x),(i y.n.y),(i y.n.z),(i y.b)]] (bL tP (x.drop n))),true,false,0⟩])))
   (sl (Nat.beq (x.length-n) 0) (some (.sl 0 0 ((0+n)+1) 0,[⟨73,4,bL tP (x.take n++[y]),true,false,0⟩]))
    (some ((.sl 0 0 (((0+n)+1)+(x.length-n)) 0),[⟨73,4,(app (bL tP (x.take n++[y])) (bL tP (x.drop n))),true,false,0⟩])))) (λr=>r≠[]/\r.length<=x.length+1/\∀p∈r,p=y\/p∈x):=by
  refine Rd.sl (λq1=>Rd.sl (λq2=>?_) (λq2=>?_)) (λq1=>Rd.sl (λq2=>?_) (λq2=>?_))
  ·have:=z0 q1;have:=z0 q2
   refine fin _ _ (by omega) ?_
   have:x=[]:=List.eq_nil_of_length_eq_zero (by omega)
   subst this;rw[show n=0 by omega];rfl
  ·have:=z0 q1;subst this
   exact fin _ _ (by omega) rfl
  ·have:=z0 q2
   refine fin _ _ (by omega) ?_
   unfold pc8;rw[show x.drop n=[] from Qjp (by omega)]
  ·refine fin _ _ (by omega) ?_
   rw[Ka4];unfold pc8;rw[Qjv];rfl
 have same:∀p:Pln,(p.n.x==y.n.x&&(p.n.y==y.n.y&&(p.n.z==y.n.z&&(p.b==y.b&&true))))=true->n<x.length->Rd (one (r1L tP)) (some (eL tP x,[])) (λr=>r≠[]/\r.length<=x.length+1/\∀p∈r,p=y\/p∈x):=λp _ hn =>
  ⟨_,x,rfl,Ce9 tP x,List.ne_nil_of_length_pos (by omega),Nat.le_succ _,λp hp=>Or.inr hp⟩
 unfold pb5;simp only[i9,i6];rw[h1];simp only[Int.toNat_natCast,Ld1 x n h3,Ld2,lt,ld,b1,b2,e0,b3,yc0,l3,b4,hlo,l9]
 have main : Rd (one (r1L tP)) (sl (decide ((n : Int) < (x.length : Int))) (sl (inB (n : Int) x.length) (sl (((gL tP x n).n.x == y.n.x) && (((gL tP x n).n.y == y.n.y) && (((gL tP x n).n.z == y.n.z) && (((gL tP x n).b == y.b) && true)))) (some (eL tP x, []))
   (sl (Nat.beq n 0) (sl (Nat.beq (x.length-n) 0) (some (.sl 0 0 1 0,[⟨73,4,[[i y.n.x,i y.n.y,i y.n.z,i y.b]],true,false,0⟩]))
   (some ((.sl 0 0 (1+(x.length-n)) 0),[⟨73,4,(app [[(i y.n.x),(i y.n.y),(i y.n.z),(i y.b)]] (bL tP (x.drop n))),true,false,0⟩])))
   (sl (Nat.beq (x.length-n) 0) (some (.sl 0 0 ((0+n)+1) 0,[⟨73,4,bL tP (x.take n++[y]),true,false,0⟩]))
    (some ((.sl 0 0 (((0+n)+1)+(x.length-n)) 0),[⟨73,4,(app (bL tP (x.take n++[y])) (bL tP (x.drop n))),true,false,0⟩]))))) none)
   (sl (Nat.beq n 0) (sl (Nat.beq (x.length-n) 0) (some (.sl 0 0 1 0,[⟨73,4,[[i y.n.x,i y.n.y,i y.n.z,i y.b]],true,false,0⟩]))
   (some ((.sl 0 0 (1+(x.length-n)) 0),[⟨73,4,(app [[(i y.n.x),(i y.n.y),(i y.n.z),(i y.b)]] (bL tP (x.drop n))),true,false,0⟩])))
   (sl (Nat.beq (x.length-n) 0) (some (.sl 0 0 ((0+n)+1) 0,[⟨73,4,bL tP (x.take n++[y]),true,false,0⟩]))
    (some ((.sl 0 0 (((0+n)+1)+(x.length-n)) 0),[⟨73,4,(app (bL tP (x.take n++[y])) (bL tP (x.drop n))),true,false,0⟩]))))) (λr=>r≠[]/\r.length<=x.length+1/\∀p∈r,p=y\/p∈x):=by
  by_cases hn:n<x.length
  ·rw[btD (i8 hn),bt (f9 hn)];exact Rd.sl (λq=>same _ q hn) λ_=>tail
  ·rw[bfD (n5 hn)];exact tail
 rcases h2 with rfl|rfl
 ·exact main
 ·exact main
end Go.Ev.Ce
