/- Own work. -/
import Derived.Test.YtigadclidanicaaGreatEvOdF
set_option linter.all false
noncomputable section
def Qla:=@List.length_append
def Qlb:=@Bool.and_self
def Qlc:=@List.mem_singleton
def Qld:=@List.mem_range
def Qle:=@List.mem_append
def Qlf:=@List.any_eq_true
def Qlg:=@Nat.lt_irrefl
def Qlh:=@List.length_set
def Qli:=@List.mem_append_left
def Qlj:=@List.not_mem_nil
def Qlk:=@List.mem_cons
def Qll:=@List.getD_eq_getElem?_getD
def Qlm:=@List.getElem_of_mem
def Qln:=@List.length_map
def Qlo:=@List.length_range
def Qlp:=@Nat.le_refl
def Qlq:=@List.take_length
def Qlr:=@Nat.zero_add
def Qls:=@List.map_congr_left
def Qlt:=@Bool.true_and
def Qlu:=@List.mem_or_eq_of_mem_set
def Qlv:=@Nat.zero_le
def Qlw:=@List.filter_eq_nil_iff
def Qlx:=@List.mem_append_right
def Qly:=@Eq.trans
def Qlz:=@List.filter_append
namespace Go.Ev.Ce
open Go Go.Ev Go.Ev.L Go.Proofs
set_option maxRecDepth 100000
structure lb9 where
 is0:Int
 ba9:PLq
 (I0 L5:List Bool)
 J1:LPq
def od0:List (Nat×Sum):=[]
theorem ed0:i9 prog G od0:=trivial
structure mb0 where
 alt:Nat
 bs0:Bool
def Fa3{α:Type}(kk:mb0->α)(x:lb9):α:=(sl (inB x.is0 (List.length x.I0)) (kk ⟨1,!(gL tB x.I0 x.is0.toNat)⟩) (kk ⟨0,false⟩))
def Ua0(x:lb9):mb0:=Fa3 (λr=>r) x
def Ab5(x:lb9)(r:mb0):DT (c7×List c8):=(.ite (Nat.beq r.alt 1) (.ret (b r.bs0,[⟨0,3,[[eL tB x.I0,eL tB x.L5,eL tLq x.J1]],true,false,0⟩])) .fail)
theorem Dd9{α β:Type}(F:α->β)(kk:mb0->α)(x:lb9):F (Fa3 kk x)=Fa3 (λr=>F (kk r)) x:=by unfold Fa3;(repeat' apply j6 (f:=F))<;>rfl
def vc2:Sum:=Ma9 ⟨[sIq,sLq tP,sPq 0],[⟨0,3,true,some [[.c 1 (nL tB),.c 1 (nL tB),.c 1 (nL tLq)]]⟩],λa H=>(⟨aIq a 0,aLq tP a 1,hLq tB H 0 0 0,hLq tB H 0 0 1,hLq tLq H 0 0 2⟩,())⟩ (λx=>Ab5 x (Ua0 x))
theorem od1:g9 prog G 60 vc2:=F6 (enc:=λx=>⟨[i x.is0,eL tP x.ba9,.ptr 0 0 0 0],[⟨0,3,[[eL tB x.I0,eL tB x.L5,eL tLq x.J1]],true,false,0⟩]⟩) (λa H=>by kernel_rfl) (bd b60 ed0) λx=>B7 (Qly (b:=Fa3 (λr=>(Ab5 x r).run) x) (by kernel_rfl) (Dd9 (λr=>(Ab5 x r).run) (λr=>r) x).symm)
structure Ca4 where
 C0:LPq
 (I0 L5:List Bool)
 J1:LPq
def wb2:List (Nat×Sum):=[(60,vc2)]
theorem mc8:i9 prog G wb2:=⟨od1,trivial⟩
structure J6 where
 ka6:LPq
 is9:Int
structure p8 where
 ph:Nat
 K3:Int
 (I0 L5:List Bool)
 J1:LPq
 ns5:Nat
 eh1:List (List c7)
def fb8(p:J6)(s:p8):St:=⟨.unk::.fn 60 [.ptr 0 0 0 0]::ra 3 (.v (.slice none 0 0)::.unk::.unk::eL tLq p.ka6::i p.is9::i s.K3::ra 14 []),[⟨0,3,[[eL tB s.I0,eL tB s.L5,eL tLq s.J1]],true,false,0⟩]⟩
def fb9(p:J6)(s:p8):St:=⟨.unk::.fn 60 [.ptr 0 0 0 0]::ra 3 (.sl 1 0 s.ns5 0::.unk::.unk::eL tLq p.ka6::i p.is9::i s.K3::ra 14 []),[⟨0,3,[[eL tB s.I0,eL tB s.L5,eL tLq s.J1]],true,false,0⟩,⟨35,1,s.eh1,true,false,0⟩]⟩
def gc1(p:J6)(s:p8):St:=(sel (Nat.beq s.ph 1) (fb9 p s) (fb8 p s))
def L3{α:Type}(k:p8->α)(e:Nat->α)(z:α)(p:J6)(s:p8):α:=let y3:=(rt tB s.L5);let y2:=(rt tB s.I0);let y1:=(rt tLq s.J1);let y0:=(gL tLq p.ka6 s.K3.toNat);let t1:=(Ua0 ⟨s.K3,rt tP y0,y2,y3,y1⟩);(sl (decide (s.K3<p.is9)) (sl (inB s.K3 (List.length p.ka6)) (sl ((cnE tP y0)&&((cnE tB s.I0)&&((cnE tB s.L5)&&((cnE tLq s.J1)&&true)))) (sl (Nat.beq t1.alt 1) (sl t1.bs0 (k ⟨1,W (s.K3+1),y2,y3,y1,1,[[eL tP y0]]⟩) (k ⟨0,W (s.K3+1),y2,y3,y1,0,[]⟩)) z) z) z) (e 1))
def L4{α:Type}(k:p8->α)(e:Nat->α)(z:α)(p:J6)(s:p8):α:=let y3:=(rt tB s.L5);let y2:=(rt tB s.I0);let y1:=(rt tLq s.J1);let y0:=(gL tLq p.ka6 s.K3.toNat);let t1:=(Ua0 ⟨s.K3,rt tP y0,y2,y3,y1⟩);(sl (decide (s.K3<p.is9)) (sl (inB s.K3 (List.length p.ka6)) (sl ((cnE tP y0)&&((cnE tB s.I0)&&((cnE tB s.L5)&&((cnE tLq s.J1)&&true)))) (sl (Nat.beq t1.alt 1) (sl t1.bs0 (sl (Nat.beq s.ns5 (len s.eh1)&&Nat.ble ((s.ns5+1)*24) room) (k ⟨1,W (s.K3+1),y2,y3,y1,s.ns5+1,app s.eh1 [[eL tP y0]]⟩) z) (k ⟨1,W (s.K3+1),y2,y3,y1,s.ns5,s.eh1⟩)) z) z) z) (e 2))
def ea8(p:J6)(s:p8):Stp p8:=(sel (Nat.beq s.ph 1) (L4 .next .exit .fail p s) (L3 .next .exit .fail p s))
def Na6:Lo J6 p8:=⟨En wb2,1,Of8,[1,1,0,1,4,4],[1,5,8,9,10],.p,[⟨sUq::.fn 60 [.o (.ptr 0 0 0 0)]::ru2 3 (.s (.o .nil)::sUq::sUq::sLq tLq::sIq::sIq::ru2 14 []),[⟨0,3,true,some [[.c 1 (nL tB),.c 1 (nL tB),.c 1 (nL tLq)]]⟩],λa H=>(⟨aLq tLq a 8,aIq a 9⟩,⟨0,aIq a 10,hLq tB H 0 0 0,hLq tB H 0 0 1,hLq tLq H 0 0 2,0,[]⟩)⟩,⟨sUq::.fn 60 [.o (.ptr 0 0 0 0)]::ru2 3 (.s (.o (.sl 1 0 (some 0) none))::sUq::sUq::sLq tLq::sIq::sIq::ru2 14 []),[⟨0,3,true,some [[.c 1 (nL tB),.c 1 (nL tB),.c 1 (nL tLq)]]⟩,⟨35,1,true,none⟩],λa H=>(⟨aLq tLq a 8,aIq a 9⟩,⟨1,aIq a 10,hLq tB H 0 0 0,hLq tB H 0 0 1,hLq tLq H 0 0 2,slN (slT a 5),elT H 1⟩)⟩],ea8,[(some 0,λp s=>upq (fb8 p s) [(11,b (decide (s.K3<p.is9)))]),(some 0,λp s=>upq (fb9 p s) [(11,b (decide (s.K3<p.is9)))])],gc1⟩
theorem gc2:Na6.Ok:=Lo.ok [] (by kernel_rfl) .nil rfl (.cons (λa H=>by kernel_rfl) (.cons (λa H=>by kernel_rfl) .nil)) λp s=>(.sel (Nat.beq s.ph 1) (.of @L4 (λF _ _ _ _ _=>by unfold L4;(repeat' apply j6 (f:=F))<;>rfl) (by kernel_rfl)) (.of @L3 (λF _ _ _ _ _=>by unfold L3;(repeat' apply j6 (f:=F))<;>rfl) (by kernel_rfl)))
structure Ca5 where
 alt:Nat
 (I0 L5:List Bool)
 J1:LPq
 ns0:Nat
 eh1:List (List c7)
def ga2{α:Type}(kk:Ca5->α)(x:Ca4):α:=let t1:=(lp (ea8 (⟨rt tLq x.C0,(↑(List.length x.C0):Int)⟩:J6)) (⟨0,0,rt tB x.I0,rt tB x.L5,rt tLq x.J1,0,[]⟩:p8));(sl ((cnE tLq x.C0)&&((cnE tB x.I0)&&((cnE tB x.L5)&&((cnE tLq x.J1)&&true)))) (sl (Nat.beq t1.1 1) (kk ⟨1,t1.2.I0,t1.2.L5,t1.2.J1,0,[]⟩) (sl (Nat.beq t1.1 2) (kk ⟨2,t1.2.I0,t1.2.L5,t1.2.J1,t1.2.ns5,t1.2.eh1⟩) (kk ⟨0,[],[],[],0,[]⟩))) (kk ⟨0,[],[],[],0,[]⟩))
def qa0(x:Ca4):Ca5:=ga2 (λr=>r) x
def Ua1(x:Ca4)(r:Ca5):DT (c7×List c8):=(.ite (Nat.beq r.alt 1) (.ret (.v (.slice none 0 0),[⟨0,3,[[eL tB r.I0,eL tB r.L5,eL tLq r.J1]],true,false,0⟩])) (.ite (Nat.beq r.alt 2) (.ret (.sl 1 0 r.ns0 0,[⟨0,3,[[eL tB r.I0,eL tB r.L5,eL tLq r.J1]],true,false,0⟩,⟨35,1,r.eh1,true,false,0⟩])) .fail))
theorem Cc7{α β:Type}(F:α->β)(kk:Ca5->α)(x:Ca4):F (ga2 kk x)=ga2 (λr=>F (kk r)) x:=by unfold ga2;(repeat' apply j6 (f:=F))<;>rfl
def Bb5:Sum:=Ma9 ⟨[sLq tLq,.fn 60 [.o (.ptr 0 0 0 0)]],[⟨0,3,true,some [[.c 1 (nL tB),.c 1 (nL tB),.c 1 (nL tLq)]]⟩],λa H=>(⟨aLq tLq a 0,hLq tB H 0 0 0,hLq tB H 0 0 1,hLq tLq H 0 0 2⟩,())⟩ (λx=>Ua1 x (qa0 x))
theorem vc3:g9 prog G 49 Bb5:=F6 (enc:=λx=>⟨[eL tLq x.C0,.fn 60 [.ptr 0 0 0 0]],[⟨0,3,[[eL tB x.I0,eL tB x.L5,eL tLq x.J1]],true,false,0⟩]⟩) (λa H=>by kernel_rfl) (bd b49 mc8) λx=>Ia8 (.s .p (.s .p (.s (.s .p (.b (.u Na6.ls))) .p))) [Na6.pr] (by kernel_rfl) (.cons gc2 .nil) (Qly (b:=ga2 (λr=>(Ua1 x r).run) x) (by kernel_rfl) (Cc7 (λr=>(Ua1 x r).run) (λr=>r) x).symm)
def Jd7:List (Nat×Sum):=[(44,lb6),(49,Bb5),(48,Lb0)]
theorem Ed0:i9 prog G Jd7:=⟨Ab1,vc3,lc0,trivial⟩
def mb1(x:Prt)(y:Pce):ROq:=let y1:=(⟨x.nm,rt tLq x.cl,rt tI x.wt⟩:Prt);let y0:=(⟨rt tB y.su,rt tB y.to,rt tLq y.cu⟩:Pce);let t1:=(Ea8 y1 y0);let t2:=(qa0 ⟨rt tLq x.cl,rt tB y.su,rt tB y.to,rt tLq y.cu⟩);let t3:=(na0 []);let t4:=(na0 (lsL tLq t2.ns0 (λk=>d9 t2.eh1 (0+k))));(sl ((okE tLq x.cl)&&((okE tI x.wt)&&true)) (sl ((okE tB y.su)&&((okE tB y.to)&&((okE tLq y.cu)&&true))) (sl (Ea9 y1 y0) (sl (t1 != 0) (some (.v (.slice none 0 0),[])) (sl ((cnE tLq x.cl)&&((cnE tB y.su)&&((cnE tB y.to)&&((cnE tLq y.cu)&&true)))) (sl (Nat.beq t2.alt 1) (sl (ea6 []) (some (eL tLq t3,[])) none) (sl (Nat.beq t2.alt 2) (sl (okL tLq t2.ns0 (λk=>d9 t2.eh1 (0+k))) (sl (ea6 (lsL tLq t2.ns0 (λk=>d9 t2.eh1 (0+k)))) (some (eL tLq t4,[])) none) none) none)) none)) none) none) none)
def Wa1(x:Prt)(y:Pce):LPq:=ba8 (one (r1L tLq)) (mb1 x y)
def Ha8(x:Prt)(y:Pce):Bool:=okO (one (r1L tLq)) (mb1 x y)
def gc3:Sum:=Aa5 cJ cO (λx y=>.guard (Ha8 x y) (.ret ((one (r1L tLq)).enc (Wa1 x y),[])))
theorem Gc4:g9 prog G 25 gc3:=Sb2 (bd b25 Ed0) (one (r1L tLq)) (o:=mb1) λx y=>B7 (by kernel_rfl)
structure za6 where
 ve3:ByteArray
 Lb9:LPq
 mb7:List Int
 (hc7 hc8:List Bool)
 wb7:LPq
 is1:Int
def mc9:List (Nat×Sum):=[(27,sb8)]
theorem gc4:i9 prog G mc9:=⟨Kb3,trivial⟩
structure za7 where
 alt:Nat
 bs0:Bool
def aa8{α:Type}(kk:za7->α)(x:za6):α:=let y0:=(gL tLq x.Lb9 x.is1.toNat);let t1:=(P7 (rt tP y0) (rt tLq x.wb7));(sl (inB x.is1 (List.length x.mb7)) (sl ((gL tI x.mb7 x.is1.toNat)==1) (sl (inB x.is1 (List.length x.Lb9)) (sl (okE tP y0) (sl (okE tLq x.wb7) (sl (Ba3 (rt tP y0) (rt tLq x.wb7)) (kk ⟨1,!t1⟩) (kk ⟨0,false⟩)) (kk ⟨0,false⟩)) (kk ⟨0,false⟩)) (kk ⟨0,false⟩)) (kk ⟨1,false⟩)) (kk ⟨0,false⟩))
def za8(x:za6):za7:=aa8 (λr=>r) x
def Na7(x:za6)(r:za7):DT (c7×List c8):=(.ite (Nat.beq r.alt 1) (.ret (b r.bs0,[])) .fail)
theorem vc4{α β:Type}(F:α->β)(kk:za7->α)(x:za6):F (aa8 kk x)=aa8 (λr=>F (kk r)) x:=by unfold aa8;(repeat' apply j6 (f:=F))<;>rfl
def wb3:Sum:=Ma9 ⟨[.agg [.o .val,.c 1 (nL tLq),.c 1 (nL tI),.c 1 (nL tB),.c 1 (nL tB),.c 1 (nL tLq)],sIq],[],λa H=>(⟨oa2 (slT (cellsOf (slT a 0)) 0),rL tLq (slT (cellsOf (slT a 0)) 1),rL tI (slT (cellsOf (slT a 0)) 2),rL tB (slT (cellsOf (slT a 0)) 3),rL tB (slT (cellsOf (slT a 0)) 4),rL tLq (slT (cellsOf (slT a 0)) 5),aIq a 1⟩,())⟩ (λx=>Na7 x (za8 x))
theorem nc0:g9 prog G 56 wb3:=F6 (enc:=λx=>⟨[.agg [.v (.string x.ve3),eL tLq x.Lb9,eL tI x.mb7,eL tB x.hc7,eL tB x.hc8,eL tLq x.wb7],i x.is1],[]⟩) (λa H=>by kernel_rfl) (bd b56 gc4) λx=>B7 (Qly (b:=aa8 (λr=>(Na7 x r).run) x) (by kernel_rfl) (vc4 (λr=>(Na7 x r).run) (λr=>r) x).symm)
structure za9 where
 ve3:ByteArray
 Lb9:LPq
 mb7:List Int
 (hc7 hc8:List Bool)
 wb7:LPq
 is1:Int
def nc1:List (Nat×Sum):=[]
theorem gc5:i9 prog G nc1:=trivial
structure Aa0 where
 alt:Nat
 bs0:Bool
def aa9{α:Type}(kk:Aa0->α)(x:za9):α:=(sl (inB x.is1 (List.length x.mb7)) (sl ((gL tI x.mb7 x.is1.toNat)==1) (sl (inB x.is1 (List.length x.hc8)) (kk ⟨1,gL tB x.hc8 x.is1.toNat⟩) (kk ⟨0,false⟩)) (kk ⟨1,false⟩)) (kk ⟨0,false⟩))
def Aa1(x:za9):Aa0:=aa9 (λr=>r) x
def Na8(x:za9)(r:Aa0):DT (c7×List c8):=(.ite (Nat.beq r.alt 1) (.ret (b r.bs0,[])) .fail)
theorem vc5{α β:Type}(F:α->β)(kk:Aa0->α)(x:za9):F (aa9 kk x)=aa9 (λr=>F (kk r)) x:=by unfold aa9;(repeat' apply j6 (f:=F))<;>rfl
def wb4:Sum:=Ma9 ⟨[.agg [.o .val,.c 1 (nL tLq),.c 1 (nL tI),.c 1 (nL tB),.c 1 (nL tB),.c 1 (nL tLq)],sIq],[],λa H=>(⟨oa2 (slT (cellsOf (slT a 0)) 0),rL tLq (slT (cellsOf (slT a 0)) 1),rL tI (slT (cellsOf (slT a 0)) 2),rL tB (slT (cellsOf (slT a 0)) 3),rL tB (slT (cellsOf (slT a 0)) 4),rL tLq (slT (cellsOf (slT a 0)) 5),aIq a 1⟩,())⟩ (λx=>Na8 x (Aa1 x))
theorem nc2:g9 prog G 57 wb4:=F6 (enc:=λx=>⟨[.agg [.v (.string x.ve3),eL tLq x.Lb9,eL tI x.mb7,eL tB x.hc7,eL tB x.hc8,eL tLq x.wb7],i x.is1],[]⟩) (λa H=>by kernel_rfl) (bd b57 gc5) λx=>B7 (Qly (b:=aa9 (λr=>(Na8 x r).run) x) (by kernel_rfl) (vc5 (λr=>(Na8 x r).run) (λr=>r) x).symm)
structure Ha9 where
 ve3:ByteArray
 Lb9:LPq
 mb7:List Int
 (hc7 hc8:List Bool)
 wb7:LPq
 is1:Int
def Cc8:List (Nat×Sum):=[]
theorem vc6:i9 prog G Cc8:=trivial
structure Ia0 where
 alt:Nat
 bs0:Bool
def ka5{α:Type}(kk:Ia0->α)(x:Ha9):α:=(sl (inB x.is1 (List.length x.mb7)) (sl ((gL tI x.mb7 x.is1.toNat)==2) (sl (inB x.is1 (List.length x.hc7)) (kk ⟨1,!(gL tB x.hc7 x.is1.toNat)⟩) (kk ⟨0,false⟩)) (kk ⟨1,false⟩)) (kk ⟨0,false⟩))
def Ia1(x:Ha9):Ia0:=ka5 (λr=>r) x
def Ya8(x:Ha9)(r:Ia0):DT (c7×List c8):=(.ite (Nat.beq r.alt 1) (.ret (b r.bs0,[])) .fail)
theorem Lc2{α β:Type}(F:α->β)(kk:Ia0->α)(x:Ha9):F (ka5 kk x)=ka5 (λr=>F (kk r)) x:=by unfold ka5;(repeat' apply j6 (f:=F))<;>rfl
def Lb2:Sum:=Ma9 ⟨[.agg [.o .val,.c 1 (nL tLq),.c 1 (nL tI),.c 1 (nL tB),.c 1 (nL tB),.c 1 (nL tLq)],sIq],[],λa H=>(⟨oa2 (slT (cellsOf (slT a 0)) 0),rL tLq (slT (cellsOf (slT a 0)) 1),rL tI (slT (cellsOf (slT a 0)) 2),rL tB (slT (cellsOf (slT a 0)) 3),rL tB (slT (cellsOf (slT a 0)) 4),rL tLq (slT (cellsOf (slT a 0)) 5),aIq a 1⟩,())⟩ (λx=>Ya8 x (Ia1 x))
theorem Cc9:g9 prog G 58 Lb2:=F6 (enc:=λx=>⟨[.agg [.v (.string x.ve3),eL tLq x.Lb9,eL tI x.mb7,eL tB x.hc7,eL tB x.hc8,eL tLq x.wb7],i x.is1],[]⟩) (λa H=>by kernel_rfl) (bd b58 vc6) λx=>B7 (Qly (b:=ka5 (λr=>(Ya8 x r).run) x) (by kernel_rfl) (Lc2 (λr=>(Ya8 x r).run) (λr=>r) x).symm)
def rb1:List (Nat×Sum):=[(44,lb6),(56,wb3),(57,wb4),(58,Lb2)]
theorem Vc4:i9 prog G rb1:=⟨Ab1,nc0,nc2,Cc9,trivial⟩
structure C5 where
 ee9:Int
 I7:ByteArray
 n5:LPq
 w6:List Int
 Z7:ByteArray
 u4:LPq
 B3:List Int
 (B4 B5:List Bool)
 u5:LPq
 Mc0:ByteArray
 Vb3:LPq
 hc9:List Int
 (ic0 ic1:List Bool)
 Vb4:LPq
 Mc1:ByteArray
 Vb5:LPq
 ic2:List Int
 (ic3 ic4:List Bool)
 Vb6:LPq
 Mc2:ByteArray
 Vb7:LPq
 ic5:List Int
 (ic6 ic7:List Bool)
 Vb8:LPq
structure l0 where
 ph:Nat
 Mc3:Int
def Bb6(p:C5)(s:l0):St:=⟨.unk::.unk::.ptr 0 0 0 0::ra 5 (.ptr 1 0 0 0::ra 19 (.sl 2 0 3 0::i 3::i 0::ra 5 (i p.ee9::i s.Mc3::ra 10 []))),[⟨0,3,[[.v (.string p.I7),eL tLq p.n5,eL tI p.w6]],true,false,0⟩,⟨0,2,[[.fn 100056 [.v (.string p.Z7),eL tLq p.u4,eL tI p.B3,eL tB p.B4,eL tB p.B5,eL tLq p.u5],i 35]],true,false,0⟩,⟨91,2,[[.fn 100056 [.v (.string p.Mc0),eL tLq p.Vb3,eL tI p.hc9,eL tB p.ic0,eL tB p.ic1,eL tLq p.Vb4],i 35],[.fn 100057 [.v (.string p.Mc1),eL tLq p.Vb5,eL tI p.ic2,eL tB p.ic3,eL tB p.ic4,eL tLq p.Vb6],i 30],[.fn 100058 [.v (.string p.Mc2),eL tLq p.Vb7,eL tI p.ic5,eL tB p.ic6,eL tB p.ic7,eL tLq p.Vb8],i 34]],true,false,0⟩]⟩
def Bb7(p:C5)(s:l0):St:=⟨.unk::.unk::.ptr 0 0 0 0::ra 5 (.ptr 1 0 0 0::ra 19 (.sl 2 0 3 0::i 3::i 1::ra 5 (i p.ee9::i s.Mc3::ra 10 []))),[⟨0,3,[[.v (.string p.I7),eL tLq p.n5,eL tI p.w6]],true,false,0⟩,⟨0,2,[[.fn 100057 [.v (.string p.Z7),eL tLq p.u4,eL tI p.B3,eL tB p.B4,eL tB p.B5,eL tLq p.u5],i 30]],true,false,0⟩,⟨91,2,[[.fn 100056 [.v (.string p.Mc0),eL tLq p.Vb3,eL tI p.hc9,eL tB p.ic0,eL tB p.ic1,eL tLq p.Vb4],i 35],[.fn 100057 [.v (.string p.Mc1),eL tLq p.Vb5,eL tI p.ic2,eL tB p.ic3,eL tB p.ic4,eL tLq p.Vb6],i 30],[.fn 100058 [.v (.string p.Mc2),eL tLq p.Vb7,eL tI p.ic5,eL tB p.ic6,eL tB p.ic7,eL tLq p.Vb8],i 34]],true,false,0⟩]⟩
def Bb8(p:C5)(s:l0):St:=⟨.unk::.unk::.ptr 0 0 0 0::ra 5 (.ptr 1 0 0 0::ra 19 (.sl 2 0 3 0::i 3::i 2::ra 5 (i p.ee9::i s.Mc3::ra 10 []))),[⟨0,3,[[.v (.string p.I7),eL tLq p.n5,eL tI p.w6]],true,false,0⟩,⟨0,2,[[.fn 100058 [.v (.string p.Z7),eL tLq p.u4,eL tI p.B3,eL tB p.B4,eL tB p.B5,eL tLq p.u5],i 34]],true,false,0⟩,⟨91,2,[[.fn 100056 [.v (.string p.Mc0),eL tLq p.Vb3,eL tI p.hc9,eL tB p.ic0,eL tB p.ic1,eL tLq p.Vb4],i 35],[.fn 100057 [.v (.string p.Mc1),eL tLq p.Vb5,eL tI p.ic2,eL tB p.ic3,eL tB p.ic4,eL tLq p.Vb6],i 30],[.fn 100058 [.v (.string p.Mc2),eL tLq p.Vb7,eL tI p.ic5,eL tB p.ic6,eL tB p.ic7,eL tLq p.Vb8],i 34]],true,false,0⟩]⟩
def Lc3(p:C5)(s:l0):St:=(sel (Nat.beq s.ph 2) (Bb8 p s) (sel (Nat.beq s.ph 1) (Bb7 p s) (Bb6 p s)))
def V1{α:Type}(k:l0->α)(e:Nat->α)(z:α)(p:C5)(s:l0):α:=let t1:=(za8 ⟨p.Z7,rt tLq p.u4,rt tI p.B3,rt tB p.B4,rt tB p.B5,rt tLq p.u5,s.Mc3⟩);(sl (decide (s.Mc3<p.ee9)) (sl ((cnE tLq p.u4)&&((cnE tI p.B3)&&((cnE tB p.B4)&&((cnE tB p.B5)&&((cnE tLq p.u5)&&true))))) (sl (Nat.beq t1.alt 1) (sl t1.bs0 (e 1) (k ⟨0,W (s.Mc3+1)⟩)) z) z) (e 2))
def V2{α:Type}(k:l0->α)(e:Nat->α)(z:α)(p:C5)(s:l0):α:=let t1:=(Aa1 ⟨p.Z7,rt tLq p.u4,rt tI p.B3,rt tB p.B4,rt tB p.B5,rt tLq p.u5,s.Mc3⟩);(sl (decide (s.Mc3<p.ee9)) (sl ((cnE tLq p.u4)&&((cnE tI p.B3)&&((cnE tB p.B4)&&((cnE tB p.B5)&&((cnE tLq p.u5)&&true))))) (sl (Nat.beq t1.alt 1) (sl t1.bs0 (e 3) (k ⟨1,W (s.Mc3+1)⟩)) z) z) (e 4))
def V4{α:Type}(k:l0->α)(e:Nat->α)(z:α)(p:C5)(s:l0):α:=let t1:=(Ia1 ⟨p.Z7,rt tLq p.u4,rt tI p.B3,rt tB p.B4,rt tB p.B5,rt tLq p.u5,s.Mc3⟩);(sl (decide (s.Mc3<p.ee9)) (sl ((cnE tLq p.u4)&&((cnE tI p.B3)&&((cnE tB p.B4)&&((cnE tB p.B5)&&((cnE tLq p.u5)&&true))))) (sl (Nat.beq t1.alt 1) (sl t1.bs0 (e 5) (k ⟨2,W (s.Mc3+1)⟩)) z) z) (e 6))
def J0(p:C5)(s:l0):Stp l0:=(sel (Nat.beq s.ph 2) (V4 .next .exit .fail p s) (sel (Nat.beq s.ph 1) (V2 .next .exit .fail p s) (V1 .next .exit .fail p s)))
def mb2:Lo C5 l0:=⟨En rb1,0,Of5,[1,1,1,0,1,4,4,1,1,0,4,1,1,4,4],[2,8,28,29,30,36,37],.p,[⟨sUq::sUq::sPq 0::ru2 5 (sPq 1::ru2 19 (.s (.o (.sl 2 0 (some 0) (some 3)))::.s (.o (.lit .i64 3))::.s (.o (.lit .i64 0))::ru2 5 (sIq::sIq::ru2 10 []))),[⟨0,3,true,some [[.o .val,.c 1 (nL tLq),.c 1 (nL tI)]]⟩,⟨0,2,true,some [[.fn 100056 [.o .val,.c 1 (nL tLq),.c 1 (nL tI),.c 1 (nL tB),.c 1 (nL tB),.c 1 (nL tLq)],.o (.lit .i64 35)]]⟩,⟨91,2,true,some [[.fn 100056 [.o .val,.c 1 (nL tLq),.c 1 (nL tI),.c 1 (nL tB),.c 1 (nL tB),.c 1 (nL tLq)],.o (.lit .i64 35)],[.fn 100057 [.o .val,.c 1 (nL tLq),.c 1 (nL tI),.c 1 (nL tB),.c 1 (nL tB),.c 1 (nL tLq)],.o (.lit .i64 30)],[.fn 100058 [.o .val,.c 1 (nL tLq),.c 1 (nL tI),.c 1 (nL tB),.c 1 (nL tB),.c 1 (nL tLq)],.o (.lit .i64 34)]]⟩],λa H=>(⟨aIq a 36,oa2 (slT (rwT (elT H 0) 0) 0),hLq tLq H 0 0 1,hLq tI H 0 0 2,oa2 (slT (cellsOf (slT (rwT (elT H 1) 0) 0)) 0),rL tLq (slT (cellsOf (slT (rwT (elT H 1) 0) 0)) 1),rL tI (slT (cellsOf (slT (rwT (elT H 1) 0) 0)) 2),rL tB (slT (cellsOf (slT (rwT (elT H 1) 0) 0)) 3),rL tB (slT (cellsOf (slT (rwT (elT H 1) 0) 0)) 4),rL tLq (slT (cellsOf (slT (rwT (elT H 1) 0) 0)) 5),oa2 (slT (cellsOf (slT (rwT (elT H 2) 0) 0)) 0),rL tLq (slT (cellsOf (slT (rwT (elT H 2) 0) 0)) 1),rL tI (slT (cellsOf (slT (rwT (elT H 2) 0) 0)) 2),rL tB (slT (cellsOf (slT (rwT (elT H 2) 0) 0)) 3),rL tB (slT (cellsOf (slT (rwT (elT H 2) 0) 0)) 4),rL tLq (slT (cellsOf (slT (rwT (elT H 2) 0) 0)) 5),oa2 (slT (cellsOf (slT (rwT (elT H 2) 1) 0)) 0),rL tLq (slT (cellsOf (slT (rwT (elT H 2) 1) 0)) 1),rL tI (slT (cellsOf (slT (rwT (elT H 2) 1) 0)) 2),rL tB (slT (cellsOf (slT (rwT (elT H 2) 1) 0)) 3),rL tB (slT (cellsOf (slT (rwT (elT H 2) 1) 0)) 4),rL tLq (slT (cellsOf (slT (rwT (elT H 2) 1) 0)) 5),oa2 (slT (cellsOf (slT (rwT (elT H 2) 2) 0)) 0),rL tLq (slT (cellsOf (slT (rwT (elT H 2) 2) 0)) 1),rL tI (slT (cellsOf (slT (rwT (elT H 2) 2) 0)) 2),rL tB (slT (cellsOf (slT (rwT (elT H 2) 2) 0)) 3),rL tB (slT (cellsOf (slT (rwT (elT H 2) 2) 0)) 4),rL tLq (slT (cellsOf (slT (rwT (elT H 2) 2) 0)) 5)⟩,⟨0,aIq a 37⟩)⟩,⟨sUq::sUq::sPq 0::ru2 5 (sPq 1::ru2 19 (.s (.o (.sl 2 0 (some 0) (some 3)))::.s (.o (.lit .i64 3))::.s (.o (.lit .i64 1))::ru2 5 (sIq::sIq::ru2 10 []))),[⟨0,3,true,some [[.o .val,.c 1 (nL tLq),.c 1 (nL tI)]]⟩,⟨0,2,true,some [[.fn 100057 [.o .val,.c 1 (nL tLq),.c 1 (nL tI),.c 1 (nL tB),.c 1 (nL tB),.c 1 (nL tLq)],.o (.lit .i64 30)]]⟩,⟨91,2,true,some [[.fn 100056 [.o .val,.c 1 (nL tLq),.c 1 (nL tI),.c 1 (nL tB),.c 1 (nL tB),.c 1 (nL tLq)],.o (.lit .i64 35)],[.fn 100057 [.o .val,.c 1 (nL tLq),.c 1 (nL tI),.c 1 (nL tB),.c 1 (nL tB),.c 1 (nL tLq)],.o (.lit .i64 30)],[.fn 100058 [.o .val,.c 1 (nL tLq),.c 1 (nL tI),.c 1 (nL tB),.c 1 (nL tB),.c 1 (nL tLq)],.o (.lit .i64 34)]]⟩],λa H=>(⟨aIq a 36,oa2 (slT (rwT (elT H 0) 0) 0),hLq tLq H 0 0 1,hLq tI H 0 0 2,oa2 (slT (cellsOf (slT (rwT (elT H 1) 0) 0)) 0),rL tLq (slT (cellsOf (slT (rwT (elT H 1) 0) 0)) 1),rL tI (slT (cellsOf (slT (rwT (elT H 1) 0) 0)) 2),rL tB (slT (cellsOf (slT (rwT (elT H 1) 0) 0)) 3),rL tB (slT (cellsOf (slT (rwT (elT H 1) 0) 0)) 4),rL tLq (slT (cellsOf (slT (rwT (elT H 1) 0) 0)) 5),oa2 (slT (cellsOf (slT (rwT (elT H 2) 0) 0)) 0),rL tLq (slT (cellsOf (slT (rwT (elT H 2) 0) 0)) 1),rL tI (slT (cellsOf (slT (rwT (elT H 2) 0) 0)) 2),rL tB (slT (cellsOf (slT (rwT (elT H 2) 0) 0)) 3),rL tB (slT (cellsOf (slT (rwT (elT H 2) 0) 0)) 4),rL tLq (slT (cellsOf (slT (rwT (elT H 2) 0) 0)) 5),oa2 (slT (cellsOf (slT (rwT (elT H 2) 1) 0)) 0),rL tLq (slT (cellsOf (slT (rwT (elT H 2) 1) 0)) 1),rL tI (slT (cellsOf (slT (rwT (elT H 2) 1) 0)) 2),rL tB (slT (cellsOf (slT (rwT (elT H 2) 1) 0)) 3),rL tB (slT (cellsOf (slT (rwT (elT H 2) 1) 0)) 4),rL tLq (slT (cellsOf (slT (rwT (elT H 2) 1) 0)) 5),oa2 (slT (cellsOf (slT (rwT (elT H 2) 2) 0)) 0),rL tLq (slT (cellsOf (slT (rwT (elT H 2) 2) 0)) 1),rL tI (slT (cellsOf (slT (rwT (elT H 2) 2) 0)) 2),rL tB (slT (cellsOf (slT (rwT (elT H 2) 2) 0)) 3),rL tB (slT (cellsOf (slT (rwT (elT H 2) 2) 0)) 4),rL tLq (slT (cellsOf (slT (rwT (elT H 2) 2) 0)) 5)⟩,⟨1,aIq a 37⟩)⟩,⟨sUq::sUq::sPq 0::ru2 5 (sPq 1::ru2 19 (.s (.o (.sl 2 0 (some 0) (some 3)))::.s (.o (.lit .i64 3))::.s (.o (.lit .i64 2))::ru2 5 (sIq::sIq::ru2 10 []))),[⟨0,3,true,some [[.o .val,.c 1 (nL tLq),.c 1 (nL tI)]]⟩,⟨0,2,true,some [[.fn 100058 [.o .val,.c 1 (nL tLq),.c 1 (nL tI),.c 1 (nL tB),.c 1 (nL tB),.c 1 (nL tLq)],.o (.lit .i64 34)]]⟩,⟨91,2,true,some [[.fn 100056 [.o .val,.c 1 (nL tLq),.c 1 (nL tI),.c 1 (nL tB),.c 1 (nL tB),.c 1 (nL tLq)],.o (.lit .i64 35)],[.fn 100057 [.o .val,.c 1 (nL tLq),.c 1 (nL tI),.c 1 (nL tB),.c 1 (nL tB),.c 1 (nL tLq)],.o (.lit .i64 30)],[.fn 100058 [.o .val,.c 1 (nL tLq),.c 1 (nL tI),.c 1 (nL tB),.c 1 (nL tB),.c 1 (nL tLq)],.o (.lit .i64 34)]]⟩],λa H=>(⟨aIq a 36,oa2 (slT (rwT (elT H 0) 0) 0),hLq tLq H 0 0 1,hLq tI H 0 0 2,oa2 (slT (cellsOf (slT (rwT (elT H 1) 0) 0)) 0),rL tLq (slT (cellsOf (slT (rwT (elT H 1) 0) 0)) 1),rL tI (slT (cellsOf (slT (rwT (elT H 1) 0) 0)) 2),rL tB (slT (cellsOf (slT (rwT (elT H 1) 0) 0)) 3),rL tB (slT (cellsOf (slT (rwT (elT H 1) 0) 0)) 4),rL tLq (slT (cellsOf (slT (rwT (elT H 1) 0) 0)) 5),oa2 (slT (cellsOf (slT (rwT (elT H 2) 0) 0)) 0),rL tLq (slT (cellsOf (slT (rwT (elT H 2) 0) 0)) 1),rL tI (slT (cellsOf (slT (rwT (elT H 2) 0) 0)) 2),rL tB (slT (cellsOf (slT (rwT (elT H 2) 0) 0)) 3),rL tB (slT (cellsOf (slT (rwT (elT H 2) 0) 0)) 4),rL tLq (slT (cellsOf (slT (rwT (elT H 2) 0) 0)) 5),oa2 (slT (cellsOf (slT (rwT (elT H 2) 1) 0)) 0),rL tLq (slT (cellsOf (slT (rwT (elT H 2) 1) 0)) 1),rL tI (slT (cellsOf (slT (rwT (elT H 2) 1) 0)) 2),rL tB (slT (cellsOf (slT (rwT (elT H 2) 1) 0)) 3),rL tB (slT (cellsOf (slT (rwT (elT H 2) 1) 0)) 4),rL tLq (slT (cellsOf (slT (rwT (elT H 2) 1) 0)) 5),oa2 (slT (cellsOf (slT (rwT (elT H 2) 2) 0)) 0),rL tLq (slT (cellsOf (slT (rwT (elT H 2) 2) 0)) 1),rL tI (slT (cellsOf (slT (rwT (elT H 2) 2) 0)) 2),rL tB (slT (cellsOf (slT (rwT (elT H 2) 2) 0)) 3),rL tB (slT (cellsOf (slT (rwT (elT H 2) 2) 0)) 4),rL tLq (slT (cellsOf (slT (rwT (elT H 2) 2) 0)) 5)⟩,⟨2,aIq a 37⟩)⟩],J0,[(none,λp s=>⟨[i 35],[]⟩),(some 2,λp s=>upq (Bb6 p s) [(38,b (decide (s.Mc3<p.ee9)))]),(none,λp s=>⟨[i 30],[]⟩),(some 2,λp s=>upq (Bb7 p s) [(38,b (decide (s.Mc3<p.ee9)))]),(none,λp s=>⟨[i 34],[]⟩),(some 2,λp s=>upq (Bb8 p s) [(38,b (decide (s.Mc3<p.ee9)))])],Lc3⟩
theorem Lc4:mb2.Ok:=Lo.ok [] (by kernel_rfl) .nil rfl (.cons (λa H=>by kernel_rfl) (.cons (λa H=>by kernel_rfl) (.cons (λa H=>by kernel_rfl) .nil))) λp s=>(.sel (Nat.beq s.ph 2) (.of @V4 (λF _ _ _ _ _=>by unfold V4;(repeat' apply j6 (f:=F))<;>rfl) (by kernel_rfl)) (.sel (Nat.beq s.ph 1) (.of @V2 (λF _ _ _ _ _=>by unfold V2;(repeat' apply j6 (f:=F))<;>rfl) (by kernel_rfl)) (.of @V1 (λF _ _ _ _ _=>by unfold V1;(repeat' apply j6 (f:=F))<;>rfl) (by kernel_rfl))))
structure E0 where
 (I7 Z7 Ua7 Ua8:ByteArray)
structure o6 where
 ph:Nat
 n5:LPq
 w6:List Int
 u4:LPq
 B3:List Int
 (B4 B5:List Bool)
 (u5 X3:LPq)
 fa2:List Int
 (fa3 fa4:List Bool)
 (X4 X5:LPq)
 fa5:List Int
 (fa6 fa7:List Bool)
 X6:LPq
def Dc0(p:E0)(s:o6):St:=⟨.unk::.unk::.ptr 0 0 0 0::ra 25 (.sl 1 0 3 0::i 3::i 0::ra 17 []),[⟨0,3,[[.v (.string p.I7),eL tLq s.n5,eL tI s.w6]],true,false,0⟩,⟨91,2,[[.fn 100056 [.v (.string p.Z7),eL tLq s.u4,eL tI s.B3,eL tB s.B4,eL tB s.B5,eL tLq s.u5],i 35],[.fn 100057 [.v (.string p.Ua7),eL tLq s.X3,eL tI s.fa2,eL tB s.fa3,eL tB s.fa4,eL tLq s.X4],i 30],[.fn 100058 [.v (.string p.Ua8),eL tLq s.X5,eL tI s.fa5,eL tB s.fa6,eL tB s.fa7,eL tLq s.X6],i 34]],true,false,0⟩]⟩
def Dc1(p:E0)(s:o6):St:=⟨.unk::.unk::.ptr 0 0 0 0::ra 25 (.sl 1 0 3 0::i 3::i 1::ra 17 []),[⟨0,3,[[.v (.string p.I7),eL tLq s.n5,eL tI s.w6]],true,false,0⟩,⟨91,2,[[.fn 100056 [.v (.string p.Z7),eL tLq s.u4,eL tI s.B3,eL tB s.B4,eL tB s.B5,eL tLq s.u5],i 35],[.fn 100057 [.v (.string p.Ua7),eL tLq s.X3,eL tI s.fa2,eL tB s.fa3,eL tB s.fa4,eL tLq s.X4],i 30],[.fn 100058 [.v (.string p.Ua8),eL tLq s.X5,eL tI s.fa5,eL tB s.fa6,eL tB s.fa7,eL tLq s.X6],i 34]],true,false,0⟩]⟩
def Dc2(p:E0)(s:o6):St:=⟨.unk::.unk::.ptr 0 0 0 0::ra 25 (.sl 1 0 3 0::i 3::i 2::ra 17 []),[⟨0,3,[[.v (.string p.I7),eL tLq s.n5,eL tI s.w6]],true,false,0⟩,⟨91,2,[[.fn 100056 [.v (.string p.Z7),eL tLq s.u4,eL tI s.B3,eL tB s.B4,eL tB s.B5,eL tLq s.u5],i 35],[.fn 100057 [.v (.string p.Ua7),eL tLq s.X3,eL tI s.fa2,eL tB s.fa3,eL tB s.fa4,eL tLq s.X4],i 30],[.fn 100058 [.v (.string p.Ua8),eL tLq s.X5,eL tI s.fa5,eL tB s.fa6,eL tB s.fa7,eL tLq s.X6],i 34]],true,false,0⟩]⟩
def Bb9(p:E0)(s:o6):St:=⟨.unk::.unk::.ptr 0 0 0 0::ra 25 (.sl 1 0 3 0::i 3::i 3::ra 17 []),[⟨0,3,[[.v (.string p.I7),eL tLq s.n5,eL tI s.w6]],true,false,0⟩,⟨91,2,[[.fn 100056 [.v (.string p.Z7),eL tLq s.u4,eL tI s.B3,eL tB s.B4,eL tB s.B5,eL tLq s.u5],i 35],[.fn 100057 [.v (.string p.Ua7),eL tLq s.X3,eL tI s.fa2,eL tB s.fa3,eL tB s.fa4,eL tLq s.X4],i 30],[.fn 100058 [.v (.string p.Ua8),eL tLq s.X5,eL tI s.fa5,eL tB s.fa6,eL tB s.fa7,eL tLq s.X6],i 34]],true,false,0⟩]⟩
def Lc5(p:E0)(s:o6):St:=(sel (Nat.beq s.ph 3) (Bb9 p s) (sel (Nat.beq s.ph 2) (Dc2 p s) (sel (Nat.beq s.ph 1) (Dc1 p s) (Dc0 p s))))
def qa1{α:Type}(k:o6->α)(e:Nat->α)(z:α)(p:E0)(s:o6):α:=let y16:=(rt tI s.w6);let y15:=(rt tLq s.n5);let y14:=(rt tB s.fa7);let y13:=(rt tB s.fa6);let y12:=(rt tI s.fa5);let y11:=(rt tB s.fa4);let y10:=(rt tB s.fa3);let y9:=(rt tI s.fa2);let y8:=(rt tLq s.X6);let y7:=(rt tLq s.X5);let y6:=(rt tLq s.X4);let y5:=(rt tLq s.X3);let y4:=(rt tB s.B5);let y3:=(rt tB s.B4);let y2:=(rt tI s.B3);let y1:=(rt tLq s.u5);let y0:=(rt tLq s.u4);let t1:=(lp (J0 (⟨(↑(List.length s.n5):Int),p.I7,y15,y16,p.Z7,y0,y2,y3,y4,y1,p.Z7,y0,y2,y3,y4,y1,p.Ua7,y5,y9,y10,y11,y6,p.Ua8,y7,y12,y13,y14,y8⟩:C5)) (⟨0,0⟩:l0));(sl ((cnE tLq s.n5)&&((cnE tI s.w6)&&((cnE tLq s.u4)&&((cnE tI s.B3)&&((cnE tB s.B4)&&((cnE tB s.B5)&&((cnE tLq s.u5)&&((cnE tLq s.u4)&&((cnE tI s.B3)&&((cnE tB s.B4)&&((cnE tB s.B5)&&((cnE tLq s.u5)&&((cnE tLq s.X3)&&((cnE tI s.fa2)&&((cnE tB s.fa3)&&((cnE tB s.fa4)&&((cnE tLq s.X4)&&((cnE tLq s.X5)&&((cnE tI s.fa5)&&((cnE tB s.fa6)&&((cnE tB s.fa7)&&((cnE tLq s.X6)&&true)))))))))))))))))))))) (sl (Nat.beq t1.1 1) (e 1) (sl (Nat.beq t1.1 2) (k ⟨1,y15,y16,y0,y2,y3,y4,y1,y5,y9,y10,y11,y6,y7,y12,y13,y14,y8⟩) (sl (Nat.beq t1.1 3) (e 2) (sl (Nat.beq t1.1 4) (k ⟨2,y15,y16,y0,y2,y3,y4,y1,y5,y9,y10,y11,y6,y7,y12,y13,y14,y8⟩) (sl (Nat.beq t1.1 5) (e 3) (sl (Nat.beq t1.1 6) (k ⟨3,y15,y16,y0,y2,y3,y4,y1,y5,y9,y10,y11,y6,y7,y12,y13,y14,y8⟩) z)))))) z)
def qa2{α:Type}(k:o6->α)(e:Nat->α)(z:α)(p:E0)(s:o6):α:=let y16:=(rt tI s.w6);let y15:=(rt tLq s.n5);let y14:=(rt tB s.fa7);let y13:=(rt tB s.fa6);let y12:=(rt tI s.fa5);let y11:=(rt tB s.B5);let y10:=(rt tB s.B4);let y9:=(rt tI s.B3);let y8:=(rt tLq s.X6);let y7:=(rt tLq s.X5);let y6:=(rt tLq s.u5);let y5:=(rt tLq s.u4);let y4:=(rt tB s.fa4);let y3:=(rt tB s.fa3);let y2:=(rt tI s.fa2);let y1:=(rt tLq s.X4);let y0:=(rt tLq s.X3);let t1:=(lp (J0 (⟨(↑(List.length s.n5):Int),p.I7,y15,y16,p.Ua7,y0,y2,y3,y4,y1,p.Z7,y5,y9,y10,y11,y6,p.Ua7,y0,y2,y3,y4,y1,p.Ua8,y7,y12,y13,y14,y8⟩:C5)) (⟨1,0⟩:l0));(sl ((cnE tLq s.n5)&&((cnE tI s.w6)&&((cnE tLq s.X3)&&((cnE tI s.fa2)&&((cnE tB s.fa3)&&((cnE tB s.fa4)&&((cnE tLq s.X4)&&((cnE tLq s.u4)&&((cnE tI s.B3)&&((cnE tB s.B4)&&((cnE tB s.B5)&&((cnE tLq s.u5)&&((cnE tLq s.X3)&&((cnE tI s.fa2)&&((cnE tB s.fa3)&&((cnE tB s.fa4)&&((cnE tLq s.X4)&&((cnE tLq s.X5)&&((cnE tI s.fa5)&&((cnE tB s.fa6)&&((cnE tB s.fa7)&&((cnE tLq s.X6)&&true)))))))))))))))))))))) (sl (Nat.beq t1.1 1) (e 1) (sl (Nat.beq t1.1 2) (k ⟨1,y15,y16,y5,y9,y10,y11,y6,y0,y2,y3,y4,y1,y7,y12,y13,y14,y8⟩) (sl (Nat.beq t1.1 3) (e 2) (sl (Nat.beq t1.1 4) (k ⟨2,y15,y16,y5,y9,y10,y11,y6,y0,y2,y3,y4,y1,y7,y12,y13,y14,y8⟩) (sl (Nat.beq t1.1 5) (e 3) (sl (Nat.beq t1.1 6) (k ⟨3,y15,y16,y5,y9,y10,y11,y6,y0,y2,y3,y4,y1,y7,y12,y13,y14,y8⟩) z)))))) z)
def qa3{α:Type}(k:o6->α)(e:Nat->α)(z:α)(p:E0)(s:o6):α:=let y16:=(rt tI s.w6);let y15:=(rt tLq s.n5);let y14:=(rt tB s.fa4);let y13:=(rt tB s.fa3);let y12:=(rt tI s.fa2);let y11:=(rt tB s.B5);let y10:=(rt tB s.B4);let y9:=(rt tI s.B3);let y8:=(rt tLq s.X4);let y7:=(rt tLq s.X3);let y6:=(rt tLq s.u5);let y5:=(rt tLq s.u4);let y4:=(rt tB s.fa7);let y3:=(rt tB s.fa6);let y2:=(rt tI s.fa5);let y1:=(rt tLq s.X6);let y0:=(rt tLq s.X5);let t1:=(lp (J0 (⟨(↑(List.length s.n5):Int),p.I7,y15,y16,p.Ua8,y0,y2,y3,y4,y1,p.Z7,y5,y9,y10,y11,y6,p.Ua7,y7,y12,y13,y14,y8,p.Ua8,y0,y2,y3,y4,y1⟩:C5)) (⟨2,0⟩:l0));(sl ((cnE tLq s.n5)&&((cnE tI s.w6)&&((cnE tLq s.X5)&&((cnE tI s.fa5)&&((cnE tB s.fa6)&&((cnE tB s.fa7)&&((cnE tLq s.X6)&&((cnE tLq s.u4)&&((cnE tI s.B3)&&((cnE tB s.B4)&&((cnE tB s.B5)&&((cnE tLq s.u5)&&((cnE tLq s.X3)&&((cnE tI s.fa2)&&((cnE tB s.fa3)&&((cnE tB s.fa4)&&((cnE tLq s.X4)&&((cnE tLq s.X5)&&((cnE tI s.fa5)&&((cnE tB s.fa6)&&((cnE tB s.fa7)&&((cnE tLq s.X6)&&true)))))))))))))))))))))) (sl (Nat.beq t1.1 1) (e 1) (sl (Nat.beq t1.1 2) (k ⟨1,y15,y16,y5,y9,y10,y11,y6,y7,y12,y13,y14,y8,y0,y2,y3,y4,y1⟩) (sl (Nat.beq t1.1 3) (e 2) (sl (Nat.beq t1.1 4) (k ⟨2,y15,y16,y5,y9,y10,y11,y6,y7,y12,y13,y14,y8,y0,y2,y3,y4,y1⟩) (sl (Nat.beq t1.1 5) (e 3) (sl (Nat.beq t1.1 6) (k ⟨3,y15,y16,y5,y9,y10,y11,y6,y7,y12,y13,y14,y8,y0,y2,y3,y4,y1⟩) z)))))) z)
def Ya9{α:Type}(k:o6->α)(e:Nat->α)(z:α)(p:E0)(s:o6):α:=(e 4)
def Z6(p:E0)(s:o6):Stp o6:=(sel (Nat.beq s.ph 3) (Ya9 .next .exit .fail p s) (sel (Nat.beq s.ph 2) (qa3 .next .exit .fail p s) (sel (Nat.beq s.ph 1) (qa2 .next .exit .fail p s) (qa1 .next .exit .fail p s))))
def mb3:Lo E0 o6:=⟨En rb1,0,Of5,[1,1,1,0,1,4,4],[2,28,29,30],.s .p (.s .p (.s (.b (.s .p (.s .p (.b (.u mb2.ls))))) .p)),[⟨sUq::sUq::sPq 0::ru2 25 (.s (.o (.sl 1 0 (some 0) (some 3)))::.s (.o (.lit .i64 3))::.s (.o (.lit .i64 0))::ru2 17 []),[⟨0,3,true,some [[.o .val,.c 1 (nL tLq),.c 1 (nL tI)]]⟩,⟨91,2,true,some [[.fn 100056 [.o .val,.c 1 (nL tLq),.c 1 (nL tI),.c 1 (nL tB),.c 1 (nL tB),.c 1 (nL tLq)],.o (.lit .i64 35)],[.fn 100057 [.o .val,.c 1 (nL tLq),.c 1 (nL tI),.c 1 (nL tB),.c 1 (nL tB),.c 1 (nL tLq)],.o (.lit .i64 30)],[.fn 100058 [.o .val,.c 1 (nL tLq),.c 1 (nL tI),.c 1 (nL tB),.c 1 (nL tB),.c 1 (nL tLq)],.o (.lit .i64 34)]]⟩],λa H=>(⟨oa2 (slT (rwT (elT H 0) 0) 0),oa2 (slT (cellsOf (slT (rwT (elT H 1) 0) 0)) 0),oa2 (slT (cellsOf (slT (rwT (elT H 1) 1) 0)) 0),oa2 (slT (cellsOf (slT (rwT (elT H 1) 2) 0)) 0)⟩,⟨0,hLq tLq H 0 0 1,hLq tI H 0 0 2,rL tLq (slT (cellsOf (slT (rwT (elT H 1) 0) 0)) 1),rL tI (slT (cellsOf (slT (rwT (elT H 1) 0) 0)) 2),rL tB (slT (cellsOf (slT (rwT (elT H 1) 0) 0)) 3),rL tB (slT (cellsOf (slT (rwT (elT H 1) 0) 0)) 4),rL tLq (slT (cellsOf (slT (rwT (elT H 1) 0) 0)) 5),rL tLq (slT (cellsOf (slT (rwT (elT H 1) 1) 0)) 1),rL tI (slT (cellsOf (slT (rwT (elT H 1) 1) 0)) 2),rL tB (slT (cellsOf (slT (rwT (elT H 1) 1) 0)) 3),rL tB (slT (cellsOf (slT (rwT (elT H 1) 1) 0)) 4),rL tLq (slT (cellsOf (slT (rwT (elT H 1) 1) 0)) 5),rL tLq (slT (cellsOf (slT (rwT (elT H 1) 2) 0)) 1),rL tI (slT (cellsOf (slT (rwT (elT H 1) 2) 0)) 2),rL tB (slT (cellsOf (slT (rwT (elT H 1) 2) 0)) 3),rL tB (slT (cellsOf (slT (rwT (elT H 1) 2) 0)) 4),rL tLq (slT (cellsOf (slT (rwT (elT H 1) 2) 0)) 5)⟩)⟩,⟨sUq::sUq::sPq 0::ru2 25 (.s (.o (.sl 1 0 (some 0) (some 3)))::.s (.o (.lit .i64 3))::.s (.o (.lit .i64 1))::ru2 17 []),[⟨0,3,true,some [[.o .val,.c 1 (nL tLq),.c 1 (nL tI)]]⟩,⟨91,2,true,some [[.fn 100056 [.o .val,.c 1 (nL tLq),.c 1 (nL tI),.c 1 (nL tB),.c 1 (nL tB),.c 1 (nL tLq)],.o (.lit .i64 35)],[.fn 100057 [.o .val,.c 1 (nL tLq),.c 1 (nL tI),.c 1 (nL tB),.c 1 (nL tB),.c 1 (nL tLq)],.o (.lit .i64 30)],[.fn 100058 [.o .val,.c 1 (nL tLq),.c 1 (nL tI),.c 1 (nL tB),.c 1 (nL tB),.c 1 (nL tLq)],.o (.lit .i64 34)]]⟩],λa H=>(⟨oa2 (slT (rwT (elT H 0) 0) 0),oa2 (slT (cellsOf (slT (rwT (elT H 1) 0) 0)) 0),oa2 (slT (cellsOf (slT (rwT (elT H 1) 1) 0)) 0),oa2 (slT (cellsOf (slT (rwT (elT H 1) 2) 0)) 0)⟩,⟨1,hLq tLq H 0 0 1,hLq tI H 0 0 2,rL tLq (slT (cellsOf (slT (rwT (elT H 1) 0) 0)) 1),rL tI (slT (cellsOf (slT (rwT (elT H 1) 0) 0)) 2),rL tB (slT (cellsOf (slT (rwT (elT H 1) 0) 0)) 3),rL tB (slT (cellsOf (slT (rwT (elT H 1) 0) 0)) 4),rL tLq (slT (cellsOf (slT (rwT (elT H 1) 0) 0)) 5),rL tLq (slT (cellsOf (slT (rwT (elT H 1) 1) 0)) 1),rL tI (slT (cellsOf (slT (rwT (elT H 1) 1) 0)) 2),rL tB (slT (cellsOf (slT (rwT (elT H 1) 1) 0)) 3),rL tB (slT (cellsOf (slT (rwT (elT H 1) 1) 0)) 4),rL tLq (slT (cellsOf (slT (rwT (elT H 1) 1) 0)) 5),rL tLq (slT (cellsOf (slT (rwT (elT H 1) 2) 0)) 1),rL tI (slT (cellsOf (slT (rwT (elT H 1) 2) 0)) 2),rL tB (slT (cellsOf (slT (rwT (elT H 1) 2) 0)) 3),rL tB (slT (cellsOf (slT (rwT (elT H 1) 2) 0)) 4),rL tLq (slT (cellsOf (slT (rwT (elT H 1) 2) 0)) 5)⟩)⟩,⟨sUq::sUq::sPq 0::ru2 25 (.s (.o (.sl 1 0 (some 0) (some 3)))::.s (.o (.lit .i64 3))::.s (.o (.lit .i64 2))::ru2 17 []),[⟨0,3,true,some [[.o .val,.c 1 (nL tLq),.c 1 (nL tI)]]⟩,⟨91,2,true,some [[.fn 100056 [.o .val,.c 1 (nL tLq),.c 1 (nL tI),.c 1 (nL tB),.c 1 (nL tB),.c 1 (nL tLq)],.o (.lit .i64 35)],[.fn 100057 [.o .val,.c 1 (nL tLq),.c 1 (nL tI),.c 1 (nL tB),.c 1 (nL tB),.c 1 (nL tLq)],.o (.lit .i64 30)],[.fn 100058 [.o .val,.c 1 (nL tLq),.c 1 (nL tI),.c 1 (nL tB),.c 1 (nL tB),.c 1 (nL tLq)],.o (.lit .i64 34)]]⟩],λa H=>(⟨oa2 (slT (rwT (elT H 0) 0) 0),oa2 (slT (cellsOf (slT (rwT (elT H 1) 0) 0)) 0),oa2 (slT (cellsOf (slT (rwT (elT H 1) 1) 0)) 0),oa2 (slT (cellsOf (slT (rwT (elT H 1) 2) 0)) 0)⟩,⟨2,hLq tLq H 0 0 1,hLq tI H 0 0 2,rL tLq (slT (cellsOf (slT (rwT (elT H 1) 0) 0)) 1),rL tI (slT (cellsOf (slT (rwT (elT H 1) 0) 0)) 2),rL tB (slT (cellsOf (slT (rwT (elT H 1) 0) 0)) 3),rL tB (slT (cellsOf (slT (rwT (elT H 1) 0) 0)) 4),rL tLq (slT (cellsOf (slT (rwT (elT H 1) 0) 0)) 5),rL tLq (slT (cellsOf (slT (rwT (elT H 1) 1) 0)) 1),rL tI (slT (cellsOf (slT (rwT (elT H 1) 1) 0)) 2),rL tB (slT (cellsOf (slT (rwT (elT H 1) 1) 0)) 3),rL tB (slT (cellsOf (slT (rwT (elT H 1) 1) 0)) 4),rL tLq (slT (cellsOf (slT (rwT (elT H 1) 1) 0)) 5),rL tLq (slT (cellsOf (slT (rwT (elT H 1) 2) 0)) 1),rL tI (slT (cellsOf (slT (rwT (elT H 1) 2) 0)) 2),rL tB (slT (cellsOf (slT (rwT (elT H 1) 2) 0)) 3),rL tB (slT (cellsOf (slT (rwT (elT H 1) 2) 0)) 4),rL tLq (slT (cellsOf (slT (rwT (elT H 1) 2) 0)) 5)⟩)⟩,⟨sUq::sUq::sPq 0::ru2 25 (.s (.o (.sl 1 0 (some 0) (some 3)))::.s (.o (.lit .i64 3))::.s (.o (.lit .i64 3))::ru2 17 []),[⟨0,3,true,some [[.o .val,.c 1 (nL tLq),.c 1 (nL tI)]]⟩,⟨91,2,true,some [[.fn 100056 [.o .val,.c 1 (nL tLq),.c 1 (nL tI),.c 1 (nL tB),.c 1 (nL tB),.c 1 (nL tLq)],.o (.lit .i64 35)],[.fn 100057 [.o .val,.c 1 (nL tLq),.c 1 (nL tI),.c 1 (nL tB),.c 1 (nL tB),.c 1 (nL tLq)],.o (.lit .i64 30)],[.fn 100058 [.o .val,.c 1 (nL tLq),.c 1 (nL tI),.c 1 (nL tB),.c 1 (nL tB),.c 1 (nL tLq)],.o (.lit .i64 34)]]⟩],λa H=>(⟨oa2 (slT (rwT (elT H 0) 0) 0),oa2 (slT (cellsOf (slT (rwT (elT H 1) 0) 0)) 0),oa2 (slT (cellsOf (slT (rwT (elT H 1) 1) 0)) 0),oa2 (slT (cellsOf (slT (rwT (elT H 1) 2) 0)) 0)⟩,⟨3,hLq tLq H 0 0 1,hLq tI H 0 0 2,rL tLq (slT (cellsOf (slT (rwT (elT H 1) 0) 0)) 1),rL tI (slT (cellsOf (slT (rwT (elT H 1) 0) 0)) 2),rL tB (slT (cellsOf (slT (rwT (elT H 1) 0) 0)) 3),rL tB (slT (cellsOf (slT (rwT (elT H 1) 0) 0)) 4),rL tLq (slT (cellsOf (slT (rwT (elT H 1) 0) 0)) 5),rL tLq (slT (cellsOf (slT (rwT (elT H 1) 1) 0)) 1),rL tI (slT (cellsOf (slT (rwT (elT H 1) 1) 0)) 2),rL tB (slT (cellsOf (slT (rwT (elT H 1) 1) 0)) 3),rL tB (slT (cellsOf (slT (rwT (elT H 1) 1) 0)) 4),rL tLq (slT (cellsOf (slT (rwT (elT H 1) 1) 0)) 5),rL tLq (slT (cellsOf (slT (rwT (elT H 1) 2) 0)) 1),rL tI (slT (cellsOf (slT (rwT (elT H 1) 2) 0)) 2),rL tB (slT (cellsOf (slT (rwT (elT H 1) 2) 0)) 3),rL tB (slT (cellsOf (slT (rwT (elT H 1) 2) 0)) 4),rL tLq (slT (cellsOf (slT (rwT (elT H 1) 2) 0)) 5)⟩)⟩],Z6,[(none,λp s=>⟨[i 35],[]⟩),(none,λp s=>⟨[i 30],[]⟩),(none,λp s=>⟨[i 34],[]⟩),(some 0,λp s=>upq (Bb9 p s) [(31,b false)])],Lc5⟩
theorem Lc6:mb3.Ok:=Lo.ok [mb2.pr] (by kernel_rfl) (.cons Lc4 .nil) rfl (.cons (λa H=>by kernel_rfl) (.cons (λa H=>by kernel_rfl) (.cons (λa H=>by kernel_rfl) (.cons (λa H=>by kernel_rfl) .nil)))) λp s=>(.sel (Nat.beq s.ph 3) (.of @Ya9 (λF _ _ _ _ _=>by unfold Ya9;(repeat' apply j6 (f:=F))<;>rfl) (by kernel_rfl)) (.sel (Nat.beq s.ph 2) (.of @qa3 (λF _ _ _ _ _=>by unfold qa3;(repeat' apply j6 (f:=F))<;>rfl) (by kernel_rfl)) (.sel (Nat.beq s.ph 1) (.of @qa2 (λF _ _ _ _ _=>by unfold qa2;(repeat' apply j6 (f:=F))<;>rfl) (by kernel_rfl)) (.of @qa1 (λF _ _ _ _ _=>by unfold qa1;(repeat' apply j6 (f:=F))<;>rfl) (by kernel_rfl)))))
def La6(x:Prt)(y:Pce):ROq:=let y1:=(⟨x.nm,rt tLq x.cl,rt tI x.wt⟩:Prt);let y0:=(⟨rt tB y.su,rt tB y.to,rt tLq y.cu⟩:Pce);let t1:=(Ea8 y1 y0);let t2:=(lp (Z6 (⟨x.nm,x.nm,x.nm,x.nm⟩:E0)) (⟨0,rt tLq x.cl,rt tI x.wt,rt tLq x.cl,rt tI x.wt,rt tB y.su,rt tB y.to,rt tLq y.cu,rt tLq x.cl,rt tI x.wt,rt tB y.su,rt tB y.to,rt tLq y.cu,rt tLq x.cl,rt tI x.wt,rt tB y.su,rt tB y.to,rt tLq y.cu⟩:o6));(sl ((okE tLq x.cl)&&((okE tI x.wt)&&true)) (sl ((okE tB y.su)&&((okE tB y.to)&&((okE tLq y.cu)&&true))) (sl (Ea9 y1 y0) (sl (t1 != 0) (some (i t1,[])) (sl ((cnE tLq x.cl)&&((cnE tI x.wt)&&((cnE tLq x.cl)&&((cnE tI x.wt)&&((cnE tB y.su)&&((cnE tB y.to)&&((cnE tLq y.cu)&&((cnE tLq x.cl)&&((cnE tI x.wt)&&((cnE tB y.su)&&((cnE tB y.to)&&((cnE tLq y.cu)&&((cnE tLq x.cl)&&((cnE tI x.wt)&&((cnE tB y.su)&&((cnE tB y.to)&&((cnE tLq y.cu)&&true))))))))))))))))) (sl (Nat.beq t2.1 1) (some (i 35,[])) (sl (Nat.beq t2.1 2) (some (i 30,[])) (sl (Nat.beq t2.1 3) (some (i 34,[])) (sl (Nat.beq t2.1 4) (some (i 0,[])) none)))) none)) none) none) none)
def Z1(x:Prt)(y:Pce):Int:=ba8 (one r1I) (La6 x y)
def H9(x:Prt)(y:Pce):Bool:=okO (one r1I) (La6 x y)
def Ab6:Sum:=Aa5 cJ cO (λx y=>.guard (H9 x y) (.ret ((one r1I).enc (Z1 x y),[])))
theorem Zb8:g9 prog G 22 Ab6:=Sb2 (bd b22 Vc4) (one r1I) (o:=La6) λx y=>Ia8 (.s .p (.s .p (.s .p (.s (.s .p (.b (.u mb3.ls))) .p)))) [mb3.pr] (by kernel_rfl) (.cons Lc6 .nil) (by kernel_rfl)
def oa0(cl:LPq)(su:List Bool)(j:Nat):LPq:=((List.range j).filter λk=>!gL tB su k).map (gL tLq cl)
theorem Fe1(cl:LPq)(su:List Bool)(j:Nat):oa0 cl su (j+1)=oa0 cl su j++(if gL tB su j=true then [] else [gL tLq cl j]):=by
 unfold oa0;rw[List.range_succ,Qlz,List.map_append];congr 1;have e:List.filter (λk=>!gL tB su k) [j]=if gL tB su j=true then [] else [j]:=by
  show (match !gL tB su j with | true=>j::[] | false=>[])=_
  cases gL tB su j<;>rfl
 rw[e];cases gL tB su j<;>rfl
theorem Sd7(cl:LPq)(su:List Bool)(j:Nat):(oa0 cl su j).length<=j:=by
 unfold oa0;rw[Qln];exact Nat.le_trans (List.length_filter_le _ _) (by simp)
theorem Bc0{cl:LPq}{su:List Bool}{j:Nat}(hj:j<=cl.length){q:PLq}(h:q∈oa0 cl su j):q∈cl:=by
 unfold oa0 at h;obtain⟨k,hk,rfl⟩:=List.mem_map.1 h
 have:=Qld.1 (List.mem_filter.1 hk).1
 exact N7 tLq (by omega)
theorem ue1{n:Nat}{q:PLq}{su to:List Bool}{cu:LPq}(h:n<su.length):Ua0 ⟨(n:Int),q,su,to,cu⟩=⟨1,!gL tB su n⟩:=by
 unfold Ua0 Fa3;simp only[Int.toNat_natCast];rw[bt (g8 h)]
structure RLf(l:LPq)(su to:List Bool)(cu:LPq)(j:Nat)(s:p8):Prop where
 le:j<=l.length
 ix:s.K3=(j:Int)
 ph:s.ph=phL (oa0 l su j)
 c1:s.I0=su
 c2:s.L5=to
 c3:s.J1=cu
 n:s.ns5=(oa0 l su j).length
 e:s.eh1=bL tLq (oa0 l su j)
theorem Fe2(l:LPq)(su to:List Bool)(cu:LPq)(hl:l.length<=1000000)(hs:su.length=l.length) :
  ∃t s,lp (ea8 ⟨l,(l.length:Int)⟩) ⟨0,0,su,to,cu,0,[]⟩=(t,s)/\RLf l su to cu l.length s/\t=phL (oa0 l su l.length)+1:=by
 refine Oa4 (step:=ea8 ⟨l,(l.length:Int)⟩) (mk:=λ_ (s:p8)=>s) l.length (RLf l su to cu) (λt s=>RLf l su to cu l.length s/\t=phL (oa0 l su l.length)+1) (by omega)
  (λj s hj hi=>?_) (λj s hj hi=>?_) 0 _ ⟨Qlv _,rfl,rfl,rfl,rfl,rfl,rfl,rfl⟩
 ·obtain⟨_,h2,h3,h6,h7,h8,h4,h5⟩:=hi;obtain⟨ph,is6,c1,c2,c3,ns5,eh0⟩:=s
  simp only at h2 h3 h4 h5 h6 h7 h8
  subst h2 h3 h4 h5 h6 h7 h8;have hw1:W ((j:Int)+1)=((j+1:Nat):Int):=u7 hj (by omega)
  have hgx:inB (j:Int) l.length=true:=g8 hj;have hlen:=Sd7 l c1 j;have hjs:j<c1.length:=by rw[hs];exact hj
  have hnx:∃s,ea8 ⟨l,(l.length:Int)⟩ ⟨phL (oa0 l c1 j),(j:Int),c1,c2,c3,(oa0 l c1 j).length,bL tLq (oa0 l c1 j)⟩=.next s/\RLf l c1 c2 c3 (j+1) s:=by
   have hm:=Fe1 l c1 j
   rcases na8 (oa0 l c1 j) with⟨h0,hn⟩|h1
   ·rw[h0];refine⟨⟨phL (oa0 l c1 (j+1)),((j+1:Nat):Int),c1,c2,c3,(oa0 l c1 (j+1)).length,bL tLq (oa0 l c1 (j+1))⟩,?_,⟨hj,rfl,rfl,rfl,rfl,rfl,rfl,rfl⟩⟩;show L3 Stp.next Stp.exit Stp.fail _ _=_;simp only[L3,Int.toNat_natCast,i6,l4,Qlb,ue1 hjs,hw1,hgx,f0];rw[btD (n7 hj),hm,hn,bt (show Nat.beq 1 1=true from rfl)]
    cases gL tB c1 j<;>rfl
   ·rw[h1];refine⟨⟨phL (oa0 l c1 (j+1)),((j+1:Nat):Int),c1,c2,c3,(oa0 l c1 (j+1)).length,bL tLq (oa0 l c1 (j+1))⟩,?_,⟨hj,rfl,rfl,rfl,rfl,rfl,rfl,rfl⟩⟩;show L4 Stp.next Stp.exit Stp.fail _ _=_;simp only[L4,Int.toNat_natCast,i6,l4,Qlb,ue1 hjs,hw1,hgx,f0];rw[btD (n7 hj),hm,bt (show Nat.beq 1 1=true from rfl),bt (ce5 _ (by omega)),Me3]
    cases gL tB c1 j with
    |true =>
     simp only[Bool.not_true,B6,if_true,List.append_nil,h1]
    |false =>
     simp only[Bool.not_false,f0,Bool.false_eq_true,if_false,fc5,Qla,List.length_singleton]
  obtain⟨s,e1,e2⟩:=hnx;rw[e1];exact .nx ⟨s,rfl,e2⟩
 ·have hje:j=l.length:=by have:=hi.le;omega
  subst hje;have hi':=hi;obtain⟨_,h2,h3,h6,h7,h8,h4,h5⟩:=hi;obtain⟨ph,is6,c1,c2,c3,ns5,eh0⟩:=s
  simp only at h2 h3 h4 h5 h6 h7 h8
  subst h2 h3 h4 h5 h6 h7 h8
  rcases na8 (oa0 l c1 l.length) with⟨h0,hn⟩|h1
  ·refine⟨1,?_,hi',by rw[h0]⟩
   rw[h0];show L3 Stp.next Stp.exit Stp.fail _ _=_;simp only[L3];rw[bfD (B8 (Qlg _))]
  ·refine⟨2,?_,hi',by rw[h1]⟩
   rw[h1];show L4 Stp.next Stp.exit Stp.fail _ _=_;simp only[L4];rw[bfD (B8 (Qlg _))]
theorem of0(l:LPq)(su to:List Bool)(cu:LPq)(hl:l.length<=1000000)(hs:su.length=l.length) :
  (oa0 l su l.length=[]/\qa0 ⟨l,su,to,cu⟩=⟨1,su,to,cu,0,[]⟩)\/(oa0 l su l.length≠[]/\qa0 ⟨l,su,to,cu⟩=⟨2,su,to,cu,(oa0 l su l.length).length,bL tLq (oa0 l su l.length)⟩):=by
 obtain⟨t,s,h1,h2,h3⟩:=Fe2 l su to cu hl hs;unfold qa0 ga2;simp only[i6,l4,Qlb,f0,h1,h2.c1,h2.c2,h2.c3]
 rcases na8 (oa0 l su l.length) with⟨hz,hnl⟩|hp1
 ·rw[h3,hz];exact .inl ⟨hnl,rfl⟩
 ·rw[h3,hp1,h2.n,h2.e];exact .inr ⟨λe=>(by rw[e] at hp1;cases hp1),rfl⟩
def Ed1(x:Prt)(y:Pce):LPq:=if (Eb3 x y != 0)=true then [] else oa0 x.cl y.su x.cl.length
theorem Ne5{x:Prt}{y:Pce}(hx:Jok x)(hy:Pok y)(hxn:∀q∈x.cl,q≠[]):Rd (one (r1L tLq)) (mb1 x y) (λr=>r=Ed1 x y):=by
 have n11:Nat.beq 1 1=true:=rfl;have n21:Nat.beq 2 1=false:=rfl;have n22:Nat.beq 2 2=true:=rfl;have hj:Jok ⟨x.nm,x.cl,x.wt⟩:=⟨hx.cl,hx.wt,hx.pl⟩;have hp:Pok ⟨y.su,y.to,y.cu⟩:=⟨hy.su,hy.to,hy.cu,hy.cl⟩;have f1:=Dd3 hj hp;have f2:=Dd4 hj hp;unfold mb1 Ed1;simp only[i6,A5,l4,Qlb,f0,f1,f2];rw[show Eb3 ⟨x.nm,x.cl,x.wt⟩ ⟨y.su,y.to,y.cu⟩=Eb3 x y from rfl]
 cases hf:(Eb3 x y != 0) with
 |true=>rw[f0,if_pos rfl];exact⟨_,[],rfl,Kf0 _,rfl⟩
 |false =>
  rw[B6,if_neg (show ¬ false=true by decide)]
  obtain⟨_,hs,_⟩:=Dd8 (by simpa using hf)
  have k4:na0 []=[]:=Uc9 (l:=[]) (by simp) (by simp) (by simp)
  have k5:ea6 []=true:=Vc0 (l:=[]) (by simp) (by simp) (by simp)
  rcases of0 x.cl y.su y.to y.cu hx.cl hs with⟨h0,h1⟩|⟨h0,h1⟩
  ·rw[h1,h0];simp only[n11,f0,k4,k5];exact⟨_,[],rfl,if6 tLq [],rfl⟩
  ·have hl:=Sd7 x.cl y.su x.cl.length;have hlc:=hx.cl;have k6:=Uc9 (l:=oa0 x.cl y.su x.cl.length) (by omega) (λq hq=>hx.pl q (Bc0 (Qlp _) hq)) (λq hq=>hxn q (Bc0 (Qlp _) hq))
   have k7:=Vc0 (l:=oa0 x.cl y.su x.cl.length) (by omega) (λq hq=>hx.pl q (Bc0 (Qlp _) hq)) (λq hq=>hxn q (Bc0 (Qlp _) hq))
   rw[h1];simp only[n21,n22,f0,B6,Xe4 tLq (oa0 x.cl y.su x.cl.length) rfl,Ee6 tLq (oa0 x.cl y.su x.cl.length) rfl,k6,k7];exact⟨_,_,rfl,if6 tLq _,rfl⟩
theorem de2{x:Prt}{y:Pce}(hx:Jok x)(hy:Pok y)(hxn:∀q∈x.cl,q≠[]):Wa1 x y=Ed1 x y:=(Ne5 hx hy hxn).p
theorem de3{x:Prt}{y:Pce}(hx:Jok x)(hy:Pok y)(hxn:∀q∈x.cl,q≠[]):Ha8 x y=true:=(Ne5 hx hy hxn).g
def Dc3(x:Prt)(y:Pce)(k:Nat):Bool:=gL tI x.wt k==1&&!Wa0 (gL tLq x.cl k) y.cu
def Vc5(x:Prt)(y:Pce)(k:Nat):Bool:=gL tI x.wt k==1&&gL tB y.to k
def ed1(x:Prt)(y:Pce)(k:Nat):Bool:=gL tI x.wt k==2&&!gL tB y.su k
def Ed2(x:Prt)(y:Pce):Int:=if (Eb3 x y != 0)=true then Eb3 x y else if (List.range x.cl.length).any (Dc3 x y)=true then 35
 else if (List.range x.cl.length).any (Vc5 x y)=true then 30 else if (List.range x.cl.length).any (ed1 x y)=true then 34 else 0
theorem Xe6{x:Prt}{y:Pce}(hx:Jok x)(hy:Pok y){k:Nat}(hk:k<x.cl.length)(hw:x.wt.length=x.cl.length):za8 ⟨x.nm,x.cl,x.wt,y.su,y.to,y.cu,(k:Int)⟩=⟨1,Dc3 x y k⟩:=by
 have hc:=hx.pl _ (N7 tLq hk);unfold za8 aa8 Dc3;simp only[Int.toNat_natCast,i6,A5,Uc2 hc hy.cu hy.cl,Uc3 hc hy.cu hy.cl,f0];rw[bt (g8 (show k<x.wt.length by omega)),bt (g8 hk)]
 cases gL tI x.wt k==1<;>rfl
theorem Xe7{x:Prt}{y:Pce}{k:Nat}(hk:k<x.cl.length)(hw:x.wt.length=x.cl.length)(ht:y.to.length=x.cl.length):Aa1 ⟨x.nm,x.cl,x.wt,y.su,y.to,y.cu,(k:Int)⟩=⟨1,Vc5 x y k⟩:=by
 unfold Aa1 aa9 Vc5;simp only[Int.toNat_natCast];rw[bt (g8 (show k<x.wt.length by omega)),bt (g8 (show k<y.to.length by omega))]
 cases gL tI x.wt k==1<;>rfl
theorem of1{x:Prt}{y:Pce}{k:Nat}(hk:k<x.cl.length)(hw:x.wt.length=x.cl.length)(ht:y.su.length=x.cl.length):Ia1 ⟨x.nm,x.cl,x.wt,y.su,y.to,y.cu,(k:Int)⟩=⟨1,ed1 x y k⟩:=by
 unfold Ia1 ka5 ed1;simp only[Int.toNat_natCast];rw[bt (g8 (show k<x.wt.length by omega)),bt (g8 (show k<y.su.length by omega))]
 cases gL tI x.wt k==2<;>rfl
def VP(x:Prt)(y:Pce):C5:=⟨(x.cl.length:Int),x.nm,x.cl,x.wt,x.nm,x.cl,x.wt,y.su,y.to,y.cu,x.nm,x.cl,x.wt,y.su,y.to,y.cu,x.nm,x.cl,x.wt,y.su,y.to,y.cu,x.nm,x.cl,x.wt,y.su,y.to,y.cu⟩
theorem Df9{x:Prt}{y:Pce}(hx:Jok x)(hy:Pok y)(hw:x.wt.length=x.cl.length):∃k,lp (J0 (VP x y)) ⟨0,0⟩=(if (List.range x.cl.length).any (Dc3 x y)=true then 1 else 2,(⟨0,((k:Nat):Int)⟩:l0)):=by
 have hxc:=hx.cl;exact cd9 (step:=J0 (VP x y)) (mk:=λk=>(⟨0,(k:Int)⟩:l0)) x.cl.length (Dc3 x y) 1 2 (by omega)
  (λj hj=>by
   unfold VP;show V1 Stp.next Stp.exit Stp.fail _ _=_;simp only[V1,i6,l4,Qlb,Xe6 hx hy hj hw,u7 hj (show x.cl.length<=4611686018427387904 by omega),f0]
   rw[btD (n7 hj),bt (show Nat.beq 1 1=true from rfl)])
  (by
   unfold VP;show V1 Stp.next Stp.exit Stp.fail _ _=_;simp only[V1];rw[bfD (B8 (Qlg _))])
theorem Ef0{x:Prt}{y:Pce}(hx:Jok x)(hw:x.wt.length=x.cl.length)(ht:y.to.length=x.cl.length):∃k,lp (J0 (VP x y)) ⟨1,0⟩=(if (List.range x.cl.length).any (Vc5 x y)=true then 3 else 4,(⟨1,((k:Nat):Int)⟩:l0)):=by
 have hxc:=hx.cl;exact cd9 (step:=J0 (VP x y)) (mk:=λk=>(⟨1,(k:Int)⟩:l0)) x.cl.length (Vc5 x y) 3 4 (by omega)
  (λj hj=>by
   unfold VP;show V2 Stp.next Stp.exit Stp.fail _ _=_;simp only[V2,i6,l4,Qlb,Xe7 hj hw ht,u7 hj (show x.cl.length<=4611686018427387904 by omega),f0]
   rw[btD (n7 hj),bt (show Nat.beq 1 1=true from rfl)])
  (by
   unfold VP;show V2 Stp.next Stp.exit Stp.fail _ _=_;simp only[V2];rw[bfD (B8 (Qlg _))])
theorem Ef1{x:Prt}{y:Pce}(hx:Jok x)(hw:x.wt.length=x.cl.length)(ht:y.su.length=x.cl.length):∃k,lp (J0 (VP x y)) ⟨2,0⟩=(if (List.range x.cl.length).any (ed1 x y)=true then 5 else 6,(⟨2,((k:Nat):Int)⟩:l0)):=by
 have hxc:=hx.cl;exact cd9 (step:=J0 (VP x y)) (mk:=λk=>(⟨2,(k:Int)⟩:l0)) x.cl.length (ed1 x y) 5 6 (by omega)
  (λj hj=>by
   unfold VP;show V4 Stp.next Stp.exit Stp.fail _ _=_;simp only[V4,i6,l4,Qlb,of1 hj hw ht,u7 hj (show x.cl.length<=4611686018427387904 by omega),f0]
   rw[btD (n7 hj),bt (show Nat.beq 1 1=true from rfl)])
  (by
   unfold VP;show V4 Stp.next Stp.exit Stp.fail _ _=_;simp only[V4];rw[bfD (B8 (Qlg _))])
def VS(x:Prt)(y:Pce)(n:Nat):o6:=⟨n,x.cl,x.wt,x.cl,x.wt,y.su,y.to,y.cu,x.cl,x.wt,y.su,y.to,y.cu,x.cl,x.wt,y.su,y.to,y.cu⟩
theorem Uf0{x:Prt}{y:Pce}(hx:Jok x)(hy:Pok y)(hw:x.wt.length=x.cl.length)(hs:y.su.length=x.cl.length)(ht:y.to.length=x.cl.length) :
  (lp (Z6 ⟨x.nm,x.nm,x.nm,x.nm⟩) (VS x y 0)).1=if (List.range x.cl.length).any (Dc3 x y)=true then 1
   else if (List.range x.cl.length).any (Vc5 x y)=true then 2 else if (List.range x.cl.length).any (ed1 x y)=true then 3 else 4:=by
 obtain⟨k0,h0⟩:=Df9 hx hy hw;obtain⟨k1,h1⟩:=Ef0 (y:=y) hx hw ht;obtain⟨k2,h2⟩:=Ef1 (y:=y) hx hw hs;unfold VP at h0 h1 h2;have q:∀n:Nat,Nat.beq n n=true:=λn=>Nat.beq_refl n
 refine tc0 (step := Z6 ⟨x.nm, x.nm, x.nm, x.nm⟩) (I := fun m s => (m = 3 ∧ s = VS x y 0) ∨ (m = 2 ∧ s = VS x y 1 ∧ (List.range x.cl.length).any (Dc3 x y) = false) ∨ (m = 1 ∧ s = VS x y 2 ∧ (List.range x.cl.length).any (Dc3 x y) = false ∧ (List.range x.cl.length).any (Vc5 x y) = false) ∨
   (m=0/\s=VS x y 3/\(List.range x.cl.length).any (Dc3 x y)=false/\(List.range x.cl.length).any (Vc5 x y)=false/\(List.range x.cl.length).any (ed1 x y)=false))
  (Q:=λt _=>t=if (List.range x.cl.length).any (Dc3 x y)=true then 1 else if (List.range x.cl.length).any (Vc5 x y)=true then 2 else if (List.range x.cl.length).any (ed1 x y)=true then 3 else 4)
  (λm s hi=>?_) 3 (VS x y 0) (by decide) (.inl ⟨rfl,rfl⟩)
 rcases hi with⟨rfl,rfl⟩|⟨rfl,rfl,e0⟩|⟨rfl,rfl,e0,e1⟩|⟨rfl,rfl,e0,e1,e2⟩
 ·have hst : Z6 ⟨x.nm, x.nm, x.nm, x.nm⟩ (VS x y 0) = sl ((List.range x.cl.length).any (Dc3 x y)) (.exit 1) (.next (VS x y 1)) := by
   unfold VS;show qa1 Stp.next Stp.exit Stp.fail _ _=_;simp only[qa1,i6,l4,Qlb,f0,h0];cases (List.range x.cl.length).any (Dc3 x y)<;>rfl
  rw[hst];cases e0:(List.range x.cl.length).any (Dc3 x y) with
  |true=>exact .inl ⟨1,rfl,by rw[if_pos rfl]⟩
  |false=>exact .inr ⟨_,2,rfl,rfl,.inr (.inl ⟨rfl,rfl,rfl⟩)⟩
 ·have hst : Z6 ⟨x.nm, x.nm, x.nm, x.nm⟩ (VS x y 1) = sl ((List.range x.cl.length).any (Vc5 x y)) (.exit 2) (.next (VS x y 2)) := by
   unfold VS;show qa2 Stp.next Stp.exit Stp.fail _ _=_;simp only[qa2,i6,l4,Qlb,f0,h1];cases (List.range x.cl.length).any (Vc5 x y)<;>rfl
  rw[hst,e0];cases e1:(List.range x.cl.length).any (Vc5 x y) with
  |true=>exact .inl ⟨2,rfl,by rw[if_neg (by decide),if_pos rfl]⟩
  |false=>exact .inr ⟨_,1,rfl,rfl,.inr (.inr (.inl ⟨rfl,rfl,rfl,rfl⟩))⟩
 ·have hst : Z6 ⟨x.nm, x.nm, x.nm, x.nm⟩ (VS x y 2) = sl ((List.range x.cl.length).any (ed1 x y)) (.exit 3) (.next (VS x y 3)) := by
   unfold VS;show qa3 Stp.next Stp.exit Stp.fail _ _=_;simp only[qa3,i6,l4,Qlb,f0,h2];cases (List.range x.cl.length).any (ed1 x y)<;>rfl
  rw[hst,e0,e1];cases e2:(List.range x.cl.length).any (ed1 x y) with
  |true=>exact .inl ⟨3,rfl,by rw[if_neg (by decide),if_neg (by decide),if_pos rfl]⟩
  |false=>exact .inr ⟨_,0,rfl,rfl,.inr (.inr (.inr ⟨rfl,rfl,rfl,rfl,rfl⟩))⟩
 ·refine .inl ⟨4,rfl,?_⟩;rw[e0,e1,e2];rfl
theorem Ed3{x:Prt}{y:Pce}(hx:Jok x)(hy:Pok y):La6 x y=some (i (Ed2 x y),[]):=by
 have hj:Jok ⟨x.nm,x.cl,x.wt⟩:=⟨hx.cl,hx.wt,hx.pl⟩;have hp:Pok ⟨y.su,y.to,y.cu⟩:=⟨hy.su,hy.to,hy.cu,hy.cl⟩;have f1:=Dd3 hj hp;have f2:=Dd4 hj hp;unfold La6 Ed2;simp only[i6,A5,l4,Qlb,f0,f1,f2];rw[show Eb3 ⟨x.nm,x.cl,x.wt⟩ ⟨y.su,y.to,y.cu⟩=Eb3 x y from rfl]
 cases hf:(Eb3 x y != 0) with
 |true=>rfl
 |false =>
  rw[B6,if_neg (show ¬ false=true by decide)]
  obtain⟨hx0,hs,ht,_⟩:=Dd8 (by simpa using hf)
  obtain⟨_,_,hw,_⟩:=Sd6 hx0;have h:=Uf0 hx hy hw hs ht;unfold VS at h;rw[h];cases (List.range x.cl.length).any (Dc3 x y)<;>cases (List.range x.cl.length).any (Vc5 x y)<;>cases (List.range x.cl.length).any (ed1 x y)<;>rfl
theorem Fb4{x:Prt}{y:Pce}(hx:Jok x)(hy:Pok y):Z1 x y=Ed2 x y:=by unfold Z1;rw[Ed3 hx hy];rfl
theorem Fb5{x:Prt}{y:Pce}(hx:Jok x)(hy:Pok y):H9 x y=true:=by unfold H9;rw[Ed3 hx hy];rfl
def vc7:List (Nat×Sum):=[(43,jc7),(36,Jc8),(67,zd3),(40,xd7)]
theorem de4:i9 prog G vc7:=⟨ad5,hd7,oe3,ne5,trivial⟩
structure sa7 where
 is7:Int
 bs8:Bool
 K3:Int
 I7:ByteArray
 (Td0 Td1:List Int)
 Oe5:ByteArray
structure N9 where
 ph:Nat
 (is9 s8:Int)
 D9:List Int
 W7:Int
 Aa3:Nat
 eh4:List (List c7)
def vc8(p:sa7)(s:N9):St:=⟨.unk::.unk::.ptr 0 0 0 0::.ptr 1 0 0 0::.unk::.ptr 2 0 0 0::.ptr 3 0 0 0::i p.is7::b p.bs8::i s.is9::i p.K3::i s.s8::ra 161 [],[⟨0,3,[[.v (.string p.I7),.v (.slice none 0 0),.v (.slice none 0 0)]],true,false,0⟩,⟨0,2,[[eL tI p.Td0,eL tI p.Td1]],true,false,0⟩,⟨0,2,[[eL tI s.D9,i s.W7]],true,false,0⟩,⟨0,0,[[.v (.string p.Oe5),.v (.slice none 0 0),.v (.slice none 0 0)]],true,false,0⟩]⟩
def vc9(p:sa7)(s:N9):St:=⟨.unk::.unk::.ptr 0 0 0 0::.ptr 1 0 0 0::.unk::.ptr 2 0 0 0::.ptr 3 0 0 0::i p.is7::b p.bs8::i s.is9::i p.K3::i s.s8::ra 161 [],[⟨0,3,[[.v (.string p.I7),.v (.slice none 0 0),.v (.slice none 0 0)]],true,false,0⟩,⟨0,2,[[eL tI p.Td0,eL tI p.Td1]],true,false,0⟩,⟨0,2,[[eL tI s.D9,i s.W7]],true,false,0⟩,⟨0,0,[[.v (.string p.Oe5),.sl 4 0 s.Aa3 0,.v (.slice none 0 0)]],true,false,0⟩,⟨35,1,s.eh4,true,false,0⟩]⟩
def Jd8(p:sa7)(s:N9):St:=(sel (Nat.beq s.ph 1) (vc9 p s) (vc8 p s))
def ea9{α:Type}(k:N9->α)(e:Nat->α)(z:α)(p:sa7)(s:N9):α:=let y1:=(rt tI s.D9);let t1:=(s9 ⟨4,y1,s.W7⟩);let y0:=(W (s.is9+(W (1+t1.is0))));let t2:=(eb1 (⟨s.is9,0,0⟩:V3) (⟨y0,3,p.K3⟩:V3));let t3:=(eb1 (⟨s.is9,3,0⟩:V3) (⟨y0,6,p.K3⟩:V3));(sl (decide (s.s8<p.is7)) (sl ((cnE tI s.D9)&&true) (sl (Nat.beq t1.alt 1) (sl p.bs8 (k ⟨1,y0,W (s.s8+1),y1,t1.l6,2,[[(.tree 4 6 (λk=>d9 [[i 1,i 0,i 0,i t2.s7],[i (-1),i 0,i 0,i t2.Eb5],[i 0,i 1,i 0,i t2.Eb6],[i 0,i (-1),i 0,i t2.Eb7],[i 0,i 0,i 1,i t2.Eb8],[i 0,i 0,i (-1),i t2.Eb9]] (0+k)))],[(.tree 4 6 (λk=>d9 [[i 1,i 0,i 0,i t3.s7],[i (-1),i 0,i 0,i t3.Eb5],[i 0,i 1,i 0,i t3.Eb6],[i 0,i (-1),i 0,i t3.Eb7],[i 0,i 0,i 1,i t3.Eb8],[i 0,i 0,i (-1),i t3.Eb9]] (0+k)))]]⟩) (k ⟨1,y0,W (s.s8+1),y1,t1.l6,1,[[(.tree 4 6 (λk=>d9 [[i 1,i 0,i 0,i t2.s7],[i (-1),i 0,i 0,i t2.Eb5],[i 0,i 1,i 0,i t2.Eb6],[i 0,i (-1),i 0,i t2.Eb7],[i 0,i 0,i 1,i t2.Eb8],[i 0,i 0,i (-1),i t2.Eb9]] (0+k)))]]⟩)) z) z) (e 1))
def fa0{α:Type}(k:N9->α)(e:Nat->α)(z:α)(p:sa7)(s:N9):α:=let y1:=(rt tI s.D9);let t1:=(s9 ⟨4,y1,s.W7⟩);let y0:=(W (s.is9+(W (1+t1.is0))));let t2:=(eb1 (⟨s.is9,0,0⟩:V3) (⟨y0,3,p.K3⟩:V3));let t3:=(eb1 (⟨s.is9,3,0⟩:V3) (⟨y0,6,p.K3⟩:V3));(sl (decide (s.s8<p.is7)) (sl ((cnE tI s.D9)&&true) (sl (Nat.beq t1.alt 1) (sl (Nat.beq s.Aa3 (len s.eh4)&&Nat.ble ((s.Aa3+1)*24) room) (sl p.bs8 (sl (Nat.beq (s.Aa3+1) (len (app s.eh4 [[(.tree 4 6 (λk=>d9 [[i 1,i 0,i 0,i t2.s7],[i (-1),i 0,i 0,i t2.Eb5],[i 0,i 1,i 0,i t2.Eb6],[i 0,i (-1),i 0,i t2.Eb7],[i 0,i 0,i 1,i t2.Eb8],[i 0,i 0,i (-1),i t2.Eb9]] (0+k)))]]))&&Nat.ble (((s.Aa3+1)+1)*24) room) (k ⟨1,y0,W (s.s8+1),y1,t1.l6,(s.Aa3+1)+1,(app (app s.eh4 [[(.tree 4 6 (λk=>d9 [[i 1,i 0,i 0,i t2.s7],[i (-1),i 0,i 0,i t2.Eb5],[i 0,i 1,i 0,i t2.Eb6],[i 0,i (-1),i 0,i t2.Eb7],[i 0,i 0,i 1,i t2.Eb8],[i 0,i 0,i (-1),i t2.Eb9]] (0+k)))]]) [[(.tree 4 6 (λk=>d9 [[i 1,i 0,i 0,i t3.s7],[i (-1),i 0,i 0,i t3.Eb5],[i 0,i 1,i 0,i t3.Eb6],[i 0,i (-1),i 0,i t3.Eb7],[i 0,i 0,i 1,i t3.Eb8],[i 0,i 0,i (-1),i t3.Eb9]] (0+k)))]])⟩) z) (k ⟨1,y0,W (s.s8+1),y1,t1.l6,s.Aa3+1,(app s.eh4 [[(.tree 4 6 (λk=>d9 [[i 1,i 0,i 0,i t2.s7],[i (-1),i 0,i 0,i t2.Eb5],[i 0,i 1,i 0,i t2.Eb6],[i 0,i (-1),i 0,i t2.Eb7],[i 0,i 0,i 1,i t2.Eb8],[i 0,i 0,i (-1),i t2.Eb9]] (0+k)))]])⟩)) z) z) z) (e 2))
def ca1(p:sa7)(s:N9):Stp N9:=(sel (Nat.beq s.ph 1) (fa0 .next .exit .fail p s) (ea9 .next .exit .fail p s))
def gc6:Lo sa7 N9:=⟨En vc7,0,Of6,[1,1,1,1,1,1,1,1,1,0,1,4,4],[2,3,5,6,7,8,9,10,11],.p,[⟨sUq::sUq::sPq 0::sPq 1::sUq::sPq 2::sPq 3::sIq::sBq::sIq::sIq::sIq::ru2 161 [],[⟨0,3,true,some [[.o .val,.o .nil,.o .nil]]⟩,⟨0,2,true,some [[.c 1 (nL tI),.c 1 (nL tI)]]⟩,⟨0,2,true,some [[.c 1 (nL tI),.o (.int .i64)]]⟩,⟨0,0,true,some [[.o .val,.o .nil,.o .nil]]⟩],λa H=>(⟨aIq a 7,aBq a 8,aIq a 10,oa2 (slT (rwT (elT H 0) 0) 0),hLq tI H 1 0 0,hLq tI H 1 0 1,oa2 (slT (rwT (elT H 3) 0) 0)⟩,⟨0,aIq a 9,aIq a 11,hLq tI H 2 0 0,hIq H 2 0 1,0,[]⟩)⟩,⟨sUq::sUq::sPq 0::sPq 1::sUq::sPq 2::sPq 3::sIq::sBq::sIq::sIq::sIq::ru2 161 [],[⟨0,3,true,some [[.o .val,.o .nil,.o .nil]]⟩,⟨0,2,true,some [[.c 1 (nL tI),.c 1 (nL tI)]]⟩,⟨0,2,true,some [[.c 1 (nL tI),.o (.int .i64)]]⟩,⟨0,0,true,some [[.o .val,.o (.sl 4 0 (some 0) none),.o .nil]]⟩,⟨35,1,true,none⟩],λa H=>(⟨aIq a 7,aBq a 8,aIq a 10,oa2 (slT (rwT (elT H 0) 0) 0),hLq tI H 1 0 0,hLq tI H 1 0 1,oa2 (slT (rwT (elT H 3) 0) 0)⟩,⟨1,aIq a 9,aIq a 11,hLq tI H 2 0 0,hIq H 2 0 1,slN (slT (rwT (elT H 3) 0) 1),elT H 4⟩)⟩],ca1,[(some 2,λp s=>upq (vc8 p s) [(56,i s.s8),(57,i p.is7),(58,b (decide (s.s8<p.is7)))]),(some 2,λp s=>upq (vc9 p s) [(56,i s.s8),(57,i p.is7),(58,b (decide (s.s8<p.is7)))])],Jd8⟩
theorem Jd9:gc6.OkM:=Lo.okM [] (by kernel_rfl) .nil rfl (.cons (λa H=>by kernel_rfl) (.cons (λa H=>by kernel_rfl) .nil)) λp s=>(.sel (Nat.beq s.ph 1) (.of @fa0 (λF _ _ _ _ _=>by unfold fa0;(repeat' apply j6 (f:=F))<;>rfl) (by kernel_rfl)) (.of @ea9 (λF _ _ _ _ _=>by unfold ea9;(repeat' apply j6 (f:=F))<;>rfl) (by kernel_rfl)))
structure R8 where
 (I7 Wc2:ByteArray)
 O0:Nat
structure A1 where
 ph:Nat
 La7:Int
 D9:List Int
 W7:Int
 eh3:List (List c7)
 Ca6:Nat
 eh4:List (List c7)
def wc0(p:R8)(s:A1):St:=⟨.unk::.unk::.ptr 0 0 0 0::ra 3 (.ptr 1 0 0 0::ra 10 (.ptr 2 0 0 0::i s.La7::ra 154 [])),[⟨0,3,[[.v (.string p.I7),.v (.slice none 0 0),.v (.slice none 0 0)]],true,false,0⟩,⟨0,0,[[.v (.string p.Wc2),.v (.slice none 0 0),.v (.slice none 0 0)]],true,false,0⟩,⟨0,2,[[eL tI s.D9,i s.W7]],true,false,0⟩]⟩
def wc1(p:R8)(s:A1):St:=⟨.unk::.unk::.ptr 0 0 0 0::ra 3 (.ptr 1 0 0 0::ra 10 (.ptr 2 0 0 0::i s.La7::ra 154 [])),[⟨0,3,[[.v (.string p.I7),.v (.slice none 0 0),.v (.slice none 0 0)]],true,false,0⟩,⟨0,0,[[.v (.string p.Wc2),.sl 3 0 p.O0 0,.v (.slice none 0 0)]],true,false,0⟩,⟨0,2,[[eL tI s.D9,i s.W7]],true,false,0⟩,⟨35,1,s.eh3,true,false,0⟩]⟩
def wc2(p:R8)(s:A1):St:=⟨.unk::.unk::.ptr 0 0 0 0::ra 3 (.ptr 1 0 0 0::ra 10 (.ptr 2 0 0 0::i s.La7::ra 154 [])),[⟨0,3,[[.v (.string p.I7),.v (.slice none 0 0),.v (.slice none 0 0)]],true,false,0⟩,⟨0,0,[[.v (.string p.Wc2),.sl 3 0 p.O0 0,.sl 4 0 s.Ca6 0]],true,false,0⟩,⟨0,2,[[eL tI s.D9,i s.W7]],true,false,0⟩,⟨35,1,s.eh3,true,false,0⟩,⟨3,1,s.eh4,true,false,0⟩]⟩
def wc3(p:R8)(s:A1):St:=⟨.unk::.unk::.ptr 0 0 0 0::ra 3 (.ptr 1 0 0 0::ra 10 (.ptr 2 0 0 0::i s.La7::ra 154 [])),[⟨0,3,[[.v (.string p.I7),.v (.slice none 0 0),.v (.slice none 0 0)]],true,false,0⟩,⟨0,0,[[.v (.string p.Wc2),.v (.slice none 0 0),.sl 3 0 s.Ca6 0]],true,false,0⟩,⟨0,2,[[eL tI s.D9,i s.W7]],true,false,0⟩,⟨3,1,s.eh3,true,false,0⟩]⟩
def Kd0(p:R8)(s:A1):St:=(sel (Nat.beq s.ph 3) (wc3 p s) (sel (Nat.beq s.ph 2) (wc2 p s) (sel (Nat.beq s.ph 1) (wc1 p s) (wc0 p s))))
def Lb3{α:Type}(k:A1->α)(e:Nat->α)(z:α)(p:R8)(s:A1):α:=let t1:=(s9 ⟨4,rt tI s.D9,s.W7⟩);let y0:=(d9 [[i 2],[i 1],[i 3],[i 2]] (0+t1.is0.toNat));(sl (decide (s.La7<0)) (sl ((cnE tI s.D9)&&true) (sl (Nat.beq t1.alt 1) (sl (inB t1.is0 4) (sl ((Nat.ble 1 (len y0))&&(Na9 [CK.int .i64] y0)) (k ⟨3,W (s.La7+1),rt tI s.D9,t1.l6,[[i (toI (hdA y0))]],1,[]⟩) z) z) z) z) (e 1))
def Ua2{α:Type}(k:A1->α)(e:Nat->α)(z:α)(p:R8)(s:A1):α:=let t1:=(s9 ⟨4,rt tI s.D9,s.W7⟩);let y0:=(d9 [[i 2],[i 1],[i 3],[i 2]] (0+t1.is0.toNat));(sl (decide (s.La7<(↑p.O0:Int))) (sl ((cnE tI s.D9)&&true) (sl (Nat.beq t1.alt 1) (sl (inB t1.is0 4) (sl ((Nat.ble 1 (len y0))&&(Na9 [CK.int .i64] y0)) (k ⟨2,W (s.La7+1),rt tI s.D9,t1.l6,s.eh3,1,[[i (toI (hdA y0))]]⟩) z) z) z) z) (e 2))
def va1{α:Type}(k:A1->α)(e:Nat->α)(z:α)(p:R8)(s:A1):α:=let t1:=(s9 ⟨4,rt tI s.D9,s.W7⟩);let y0:=(d9 [[i 2],[i 1],[i 3],[i 2]] (0+t1.is0.toNat));(sl (decide (s.La7<(↑p.O0:Int))) (sl ((cnE tI s.D9)&&true) (sl (Nat.beq t1.alt 1) (sl (inB t1.is0 4) (sl ((Nat.ble 1 (len y0))&&(Na9 [CK.int .i64] y0)) (sl (Nat.beq s.Ca6 (len s.eh4)&&Nat.ble ((s.Ca6+1)*8) room) (k ⟨2,W (s.La7+1),rt tI s.D9,t1.l6,s.eh3,s.Ca6+1,app s.eh4 [[i (toI (hdA y0))]]⟩) z) z) z) z) z) (e 3))
def Lb4{α:Type}(k:A1->α)(e:Nat->α)(z:α)(p:R8)(s:A1):α:=let t1:=(s9 ⟨4,rt tI s.D9,s.W7⟩);let y0:=(d9 [[i 2],[i 1],[i 3],[i 2]] (0+t1.is0.toNat));(sl (decide (s.La7<0)) (sl ((cnE tI s.D9)&&true) (sl (Nat.beq t1.alt 1) (sl (inB t1.is0 4) (sl ((Nat.ble 1 (len y0))&&(Na9 [CK.int .i64] y0)) (sl (Nat.beq s.Ca6 (len s.eh3)&&Nat.ble ((s.Ca6+1)*8) room) (k ⟨3,W (s.La7+1),rt tI s.D9,t1.l6,app s.eh3 [[i (toI (hdA y0))]],s.Ca6+1,[]⟩) z) z) z) z) z) (e 4))
def ma0(p:R8)(s:A1):Stp A1:=(sel (Nat.beq s.ph 3) (Lb4 .next .exit .fail p s) (sel (Nat.beq s.ph 2) (va1 .next .exit .fail p s) (sel (Nat.beq s.ph 1) (Ua2 .next .exit .fail p s) (Lb3 .next .exit .fail p s))))
def gc7:Lo R8 A1:=⟨En vc7,0,Of6,[1,1,1,1,1,1,1,1,1,1,1,1,0,1,4,4],[2,6,17,18],.p,[⟨sUq::sUq::sPq 0::ru2 3 (sPq 1::ru2 10 (sPq 2::sIq::ru2 154 [])),[⟨0,3,true,some [[.o .val,.o .nil,.o .nil]]⟩,⟨0,0,true,some [[.o .val,.o .nil,.o .nil]]⟩,⟨0,2,true,some [[.c 1 (nL tI),.o (.int .i64)]]⟩],λa H=>(⟨oa2 (slT (rwT (elT H 0) 0) 0),oa2 (slT (rwT (elT H 1) 0) 0),0⟩,⟨0,aIq a 18,hLq tI H 2 0 0,hIq H 2 0 1,[],0,[]⟩)⟩,⟨sUq::sUq::sPq 0::ru2 3 (sPq 1::ru2 10 (sPq 2::sIq::ru2 154 [])),[⟨0,3,true,some [[.o .val,.o .nil,.o .nil]]⟩,⟨0,0,true,some [[.o .val,.o (.sl 3 0 (some 0) none),.o .nil]]⟩,⟨0,2,true,some [[.c 1 (nL tI),.o (.int .i64)]]⟩,⟨35,1,true,none⟩],λa H=>(⟨oa2 (slT (rwT (elT H 0) 0) 0),oa2 (slT (rwT (elT H 1) 0) 0),slN (slT (rwT (elT H 1) 0) 1)⟩,⟨1,aIq a 18,hLq tI H 2 0 0,hIq H 2 0 1,elT H 3,0,[]⟩)⟩,⟨sUq::sUq::sPq 0::ru2 3 (sPq 1::ru2 10 (sPq 2::sIq::ru2 154 [])),[⟨0,3,true,some [[.o .val,.o .nil,.o .nil]]⟩,⟨0,0,true,some [[.o .val,.o (.sl 3 0 (some 0) none),.o (.sl 4 0 (some 0) none)]]⟩,⟨0,2,true,some [[.c 1 (nL tI),.o (.int .i64)]]⟩,⟨35,1,true,none⟩,⟨3,1,true,none⟩],λa H=>(⟨oa2 (slT (rwT (elT H 0) 0) 0),oa2 (slT (rwT (elT H 1) 0) 0),slN (slT (rwT (elT H 1) 0) 1)⟩,⟨2,aIq a 18,hLq tI H 2 0 0,hIq H 2 0 1,elT H 3,slN (slT (rwT (elT H 1) 0) 2),elT H 4⟩)⟩,⟨sUq::sUq::sPq 0::ru2 3 (sPq 1::ru2 10 (sPq 2::sIq::ru2 154 [])),[⟨0,3,true,some [[.o .val,.o .nil,.o .nil]]⟩,⟨0,0,true,some [[.o .val,.o .nil,.o (.sl 3 0 (some 0) none)]]⟩,⟨0,2,true,some [[.c 1 (nL tI),.o (.int .i64)]]⟩,⟨3,1,true,none⟩],λa H=>(⟨oa2 (slT (rwT (elT H 0) 0) 0),oa2 (slT (rwT (elT H 1) 0) 0),0⟩,⟨3,aIq a 18,hLq tI H 2 0 0,hIq H 2 0 1,elT H 3,slN (slT (rwT (elT H 1) 0) 2),[]⟩)⟩],ma0,[(some 4,λp s=>upq (wc0 p s) [(155,i s.La7),(156,.ptr 1 0 1 0),(157,.v (.slice none 0 0)),(158,i 0),(159,b (decide (s.La7<0)))]),(some 4,λp s=>upq (wc1 p s) [(155,i s.La7),(156,.ptr 1 0 1 0),(157,.sl 3 0 p.O0 0),(158,i (↑p.O0:Int)),(159,b (decide (s.La7<(↑p.O0:Int))))]),(some 4,λp s=>upq (wc2 p s) [(155,i s.La7),(156,.ptr 1 0 1 0),(157,.sl 3 0 p.O0 0),(158,i (↑p.O0:Int)),(159,b (decide (s.La7<(↑p.O0:Int))))]),(some 4,λp s=>upq (wc3 p s) [(155,i s.La7),(156,.ptr 1 0 1 0),(157,.v (.slice none 0 0)),(158,i 0),(159,b (decide (s.La7<0)))])],Kd0⟩
theorem Kd1:gc7.OkM:=Lo.okM [] (by kernel_rfl) .nil rfl (.cons (λa H=>by kernel_rfl) (.cons (λa H=>by kernel_rfl) (.cons (λa H=>by kernel_rfl) (.cons (λa H=>by kernel_rfl) .nil)))) λp s=>(.sel (Nat.beq s.ph 3) (.of @Lb4 (λF _ _ _ _ _=>by unfold Lb4;(repeat' apply j6 (f:=F))<;>rfl) (by kernel_rfl)) (.sel (Nat.beq s.ph 2) (.of @va1 (λF _ _ _ _ _=>by unfold va1;(repeat' apply j6 (f:=F))<;>rfl) (by kernel_rfl)) (.sel (Nat.beq s.ph 1) (.of @Ua2 (λF _ _ _ _ _=>by unfold Ua2;(repeat' apply j6 (f:=F))<;>rfl) (by kernel_rfl)) (.of @Lb3 (λF _ _ _ _ _=>by unfold Lb3;(repeat' apply j6 (f:=F))<;>rfl) (by kernel_rfl)))))
def Ne6(x:L2)(t17:Nat×N9):ROq:=let y11:=((cnE tI t17.2.D9)&&true);let y10:=(rt tI (rt tI x.v));let y6:=(t17.2.Aa3+1);let y5:=(rt tI t17.2.D9);let y3:=((.agg [(.v (.string ⟨#[112]⟩)),.v (.slice none 0 0),.v (.slice none 0 0)]),[]);let t9:=(lp (ma0 (⟨⟨#[]⟩,⟨#[112]⟩,0⟩:R8)) (⟨0,0,y10,0,[],0,[]⟩:A1));let a4:=((cnE tI (rt tI x.v))&&true);let t18:=(s9 ⟨4,y5,t17.2.W7⟩);let t27:=(lp (ma0 (⟨⟨#[]⟩,⟨#[112]⟩,t17.2.Aa3⟩:R8)) (⟨1,0,y10,0,t17.2.eh4,0,[]⟩:A1));let a3:=(λk=>d9 t27.2.eh3 (0+k));let a8:=(λk=>d9 t9.2.eh3 (0+k));let a11:=(rt tI y5);let t19:=(s9 ⟨0,a11,t18.l6⟩);let t20:=(s9 ⟨4,rt tI a11,t19.l6⟩);let t21:=(s9 ⟨(↑t17.2.Aa3:Int),a11,t18.l6⟩);let y7:=(inB t21.is0 t17.2.Aa3);let t22:=(s9 ⟨4,rt tI a11,t21.l6⟩);let t23:=(Jb5 (⟨(⟨0,1,1⟩:V3),W (2+t22.is0)⟩:Pln));let a5:=(d9 t17.2.eh4 (0+t21.is0.toNat));let a0:=(o7 (toG (hdA (j7 a5 0))) (List.range (toN (hdA (j7 a5 0)))));let y8:=(Nat.beq 0 0&&Nat.ble ((0+(len a0))*32) room);let y2:=((0+(len a0))+1);let y4:=(Nat.beq (0+(len a0)) (len (app [] a0))&&Nat.ble (y2*32) room);let y1:=(app (app [] a0) [[i t23.n.x,i t23.n.y,i t23.n.z,i t23.b]]);let y0:=(app (app [] a0) [[i 0,i 1,i 1,i (W (2+t22.is0))]]);let t24:=(Ib1 (slR tP y0 0 y2));let t25:=(Ib1 (slR tP y1 0 y2));let t26:=(lp (ma0 (⟨⟨#[]⟩,⟨#[112]⟩,y6⟩:R8)) (⟨1,0,y10,0,(app (setAt t17.2.eh4 (0+t21.is0.toNat) (T1 a5 0 [(.tree 4 y2 (λk=>d9 y0 (0+k)))])) [[(.tree 4 y2 (λk=>d9 y1 (0+k)))]]),0,[]⟩:A1));let a9:=((Nat.blt (0+t21.is0.toNat) (len t17.2.eh4))&&(Nat.ble (0+1) (len a5)));let y9:=(a9&&(Na9 [CK.sl 4] (j7 a5 0)));let a14:=(λk=>d9 t27.2.eh4 (0+k));let w0:ROq:=(sl a4 (sl (Nat.beq t27.1 1) (some y3) (sl (Nat.beq t27.1 2) (some ((.agg [(.v (.string ⟨#[112]⟩)),.tree 1 t17.2.Aa3 a3,.v (.slice none 0 0)]),[])) (sl (Nat.beq t27.1 3) (some ((.agg [(.v (.string ⟨#[112]⟩)),.tree 1 t17.2.Aa3 a3,.tree 1 t27.2.Ca6 a14]),[])) (sl (Nat.beq t27.1 4) (some ((.agg [(.v (.string ⟨#[112]⟩)),.v (.slice none 0 0),.tree 1 t27.2.Ca6 a3]),[])) none)))) none);(sl (Nat.beq t17.1 1) (sl y11 (sl (Nat.beq t18.alt 1) (sl (t18.is0==3) (sl ((cnE tI y5)&&true) (sl (Nat.beq t19.alt 1) (sl ((cnE tI a11)&&true) (sl (Nat.beq t20.alt 1) none none) none) none) none) (sl a4 (sl (Nat.beq t9.1 1) (some y3) (sl (Nat.beq t9.1 2) (some ((.agg [(.v (.string ⟨#[112]⟩)),.tree 1 0 a8,.v (.slice none 0 0)]),[])) (sl (Nat.beq t9.1 3) (some ((.agg [(.v (.string ⟨#[112]⟩)),.tree 1 0 a8,(.tree 1 t9.2.Ca6 (λk=>d9 t9.2.eh4 (0+k)))]),[])) (sl (Nat.beq t9.1 4) (some ((.agg [(.v (.string ⟨#[112]⟩)),.v (.slice none 0 0),.tree 1 t9.2.Ca6 a8]),[])) none)))) none)) none) none) (sl (Nat.beq t17.1 2) (sl y11 (sl (Nat.beq t18.alt 1) (sl (t18.is0==3) (sl (decide ((↑t17.2.Aa3:Int)<6)) (sl ((cnE tI y5)&&true) (sl (Nat.beq t21.alt 1) (sl ((cnE tI a11)&&true) (sl (Nat.beq t22.alt 1) (sl y7 (sl y9 (sl y8 (sl y4 (sl y7 (sl y9 (sl y8 (sl y4 (sl (okS tP y0 0 y2) (sl (Ib2 (slR tP y0 0 y2)) (sl t24 (sl (okS tP y1 0 y2) (sl (Ib2 (slR tP y1 0 y2)) (sl t25 (sl y7 (sl a9 (sl (Nat.beq t17.2.Aa3 (len (setAt t17.2.eh4 (0+t21.is0.toNat) (T1 a5 0 [(.tree 4 y2 (λk=>d9 y0 (0+k)))])))&&Nat.ble (y6*24) room) (sl a4 (sl (Nat.beq t26.1 1) (some y3) (sl (Nat.beq t26.1 2) (some ((.agg [(.v (.string ⟨#[112]⟩)),(.tree 1 y6 (λk=>d9 t26.2.eh3 (0+k))),.v (.slice none 0 0)]),[])) (sl (Nat.beq t26.1 3) (some ((.agg [(.v (.string ⟨#[112]⟩)),(.tree 1 y6 (λk=>d9 t26.2.eh3 (0+k))),(.tree 1 t26.2.Ca6 (λk=>d9 t26.2.eh4 (0+k)))]),[])) (sl (Nat.beq t26.1 4) (some ((.agg [(.v (.string ⟨#[112]⟩)),.v (.slice none 0 0),(.tree 1 t26.2.Ca6 (λk=>d9 t26.2.eh3 (0+k)))]),[])) none)))) none) none) none) none) w0) none) none) w0) none) none) none) none) none) none) none) none) none) none) none) none) none) none) w0) w0) none) none) none))
def Lb5(x:L2):ROq:=let y2:=(rt tI (rt tI x.u));let t1:=(s9 ⟨3,rt tI x.u,0⟩);let t2:=(s9 ⟨3,y2,t1.l6⟩);let a7:=(rt tI y2);let y1:=((cnE tI x.u)&&((cnE tI x.v)&&((cnE tI (rt tI a7))&&true)));let t3:=(s9 ⟨3,a7,t2.l6⟩);let t4:=(s9 ⟨3,rt tI a7,t3.l6⟩);let y0:=(⟨0,W ((-6)+t3.is0),0,rt tI (rt tI a7),t4.l6,0,[]⟩:N9);let t5:=(lp (ca1 (⟨W (2+t1.is0),decide ((W (2+t1.is0))<4),W (2+t4.is0),⟨#[]⟩,rt tI x.u,rt tI x.v,⟨#[112]⟩⟩:sa7)) y0);let t17:=(lp (ca1 (⟨W (2+t1.is0),false,W (2+t4.is0),⟨#[]⟩,rt tI x.u,rt tI x.v,⟨#[112]⟩⟩:sa7)) y0);(sl ((cnE tI x.u)&&true) (sl (Nat.beq t1.alt 1) (sl ((cnE tI (rt tI x.u))&&true) (sl (Nat.beq t2.alt 1) (sl (t2.is0==2) (sl ((cnE tI y2)&&true) (sl (Nat.beq t3.alt 1) (sl ((cnE tI a7)&&true) (sl (Nat.beq t4.alt 1) (sl y1 (Ne6 x t5) none) none) none) none) none) (sl ((cnE tI y2)&&true) (sl (Nat.beq t3.alt 1) (sl ((cnE tI a7)&&true) (sl (Nat.beq t4.alt 1) (sl y1 (Ne6 x t17) none) none) none) none) none)) none) none) none) none)
def gc8(x:L2):Prt:=ba8 (one r1J) (Lb5 x)
def Lc7(x:L2):Bool:=okO (one r1J) (Lb5 x)
def Ed4:Sum:=ga4 c2L (λx=>.guard (Lc7 x) (.ret ((one r1J).enc (gc8 x),[])))
theorem ue2:g9 prog G 31 Ed4:=db8 (bd b31 de4) (one r1J) (o:=Lb5) λx=>Od9 (.s .p (.s .p (.s .p (.s .p (.s .p (.s .p (.s .p (.s .p (.s .p (.s (.s .p (.b (.u gc6.lsM))) (.s .p (.s .p (.s (.s .p (.b (.u gc7.lsM))) .p))))))))))))) [gc6.prM,gc7.prM] (by kernel_rfl) (.cons Jd9 (.cons Kd1 .nil)) (by kernel_rfl)
structure Ef2 where
 og3:List (List Int)
 I7:ByteArray
 n5:LPq
 w6:List Int
structure Ef3 where
 ph:Nat
 is6:Int
 ns5:Nat
 eh1:List (List c7)
structure Kf4 where
 (B0 l6 B1:Int)
 (Wc2 dg9:ByteArray)
structure Kf5 where
 ph:Nat
 is7:Int
 Ff2:Nat
 eh3:List (List c7)
 Ff3:Nat
 eh4:List (List c7)
structure Xe8 where
 (B0 l6 B1:Int)
 (F7 Ff3:Nat)
 (eh3 eh4:List (List c7))
structure Xe9 where
 (ph Ff2:Nat)
 eh5:List (List c7)
def de5:List (Nat×Sum):=[(36,Jc8)]
theorem Kd2:i9 prog G de5:=⟨hd7,trivial⟩
def wc4(x:Int)(y:Int):ROq:=let t1:=(eb1 (⟨x,0,0⟩:V3) (⟨y,2,2⟩:V3));(some (.sl 0 0 6 0,[⟨66,4,[[i 1,i 0,i 0,i t1.s7],[i (-1),i 0,i 0,i t1.Eb5],[i 0,i 1,i 0,i t1.Eb6],[i 0,i (-1),i 0,i t1.Eb7],[i 0,i 0,i 1,i t1.Eb8],[i 0,i 0,i (-1),i t1.Eb9]],true,false,0⟩]))
def ba0(x:Int)(y:Int):PLq:=ba8 (one (r1L tP)) (wc4 x y)
def W6(x:Int)(y:Int):Bool:=okO (one (r1L tP)) (wc4 x y)
def jd4:Sum:=Aa5 cI cI (λx y=>.guard (W6 x y) (.ret ((one (r1L tP)).enc (ba0 x y),[])))
theorem de6:g9 prog G 32 jd4:=Sb2 (bd b32 Kd2) (one (r1L tP)) (o:=wc4) λx y=>B7 (by kernel_rfl)
def jd5:List (Nat×Sum):=[]
theorem de7:i9 prog G jd5:=trivial
structure mb4 where
 vs2:ByteArray
 Vf0:Int
 (I0 L5:List Bool)
 J1:LPq
structure sa8 where
 nc3:Int
def Gc5(p:mb4)(s:sa8):St:=⟨.unk::.unk::.v (.string p.vs2)::.ptr 0 0 0 0::ra 24 (i p.Vf0::i s.nc3::ra 25 []),[⟨0,3,[[eL tB p.I0,eL tB p.L5,eL tLq p.J1]],true,false,0⟩]⟩
def Ua3{α:Type}(k:sa8->α)(e:Nat->α)(z:α)(p:mb4)(s:sa8):α:=let y0:=(inB s.nc3 (ByteArray.size p.vs2));(sl (decide (s.nc3<p.Vf0)) (sl (inB s.nc3 (List.length p.I0)) (sl y0 (sl (!((gL tB p.I0 s.nc3.toNat)==((sAt p.vs2 s.nc3)==115))) (e 1) (sl (inB s.nc3 (List.length p.L5)) (sl y0 (sl (!((gL tB p.L5 s.nc3.toNat)==((sAt p.vs2 s.nc3) != 46))) (e 1) (k ⟨W (s.nc3+1)⟩)) z) z)) z) z) (e 2))
def bb7(p:mb4)(s:sa8):Stp sa8:=Ua3 .next .exit .fail p s
def gc9:Lo mb4 sa8:=⟨En jd5,0,Xf5,[1,1,0,1,4,4],[2,3,28,29],.p,[⟨sUq::sUq::.s (.o .val)::sPq 0::ru2 24 (sIq::sIq::ru2 25 []),[⟨0,3,true,some [[.c 1 (nL tB),.c 1 (nL tB),.c 1 (nL tLq)]]⟩],λa H=>(⟨oa2 (slT a 2),aIq a 28,hLq tB H 0 0 0,hLq tB H 0 0 1,hLq tLq H 0 0 2⟩,⟨aIq a 29⟩)⟩],bb7,[(none,λp s=>⟨[b false],[]⟩),(some 0,λp s=>upq (Gc5 p s) [(30,b (decide (s.nc3<p.Vf0)))])],Gc5⟩
theorem Kd3:gc9.Ok:=Lo.ok [] (by kernel_rfl) .nil rfl (.cons (λa H=>by kernel_rfl) .nil) λp s=>(.of @Ua3 (λF _ _ _ _ _=>by unfold Ua3;(repeat' apply j6 (f:=F))<;>rfl) (by kernel_rfl))
def Lb6(x:Pce)(y:Int)(z:ByteArray):ROq:=let t1:=(lp (bb7 (⟨z,(↑(List.length x.su):Int),rt tB x.su,rt tB x.to,rt tLq x.cu⟩:mb4)) (⟨0⟩:sa8));(sl (y != 0) (some (b false,[])) (sl ((↑(List.length x.su):Int) != (↑(ByteArray.size z):Int)) (some (b false,[])) (sl ((↑(List.length x.to):Int) != (↑(ByteArray.size z):Int)) (some (b false,[])) (sl ((cnE tB x.su)&&((cnE tB x.to)&&((cnE tLq x.cu)&&true))) (sl (Nat.beq t1.1 1) (some (b false,[])) (sl (Nat.beq t1.1 2) (some (b true,[])) none)) none))))
def Ua4(x:Pce)(y:Int)(z:ByteArray):Bool:=ba8 (one r1B) (Lb6 x y z)
def Ua5(x:Pce)(y:Int)(z:ByteArray):Bool:=okO (one r1B) (Lb6 x y z)
def Ed5:Sum:=Wd1 cO cI cG (λx y z=>.guard (Ua5 x y z) (.ret ((one r1B).enc (Ua4 x y z),[])))
theorem ue3:g9 prog G 33 Ed5:=Wf2 (bd b33 de7) (one r1B) (o:=Lb6) λx y z=>Ia8 (.s .p (.s .p (.s (.s .p (.b (.u gc9.ls))) .p))) [gc9.pr] (by kernel_rfl) (.cons Kd3 .nil) (by kernel_rfl)
def od2:List (Nat×Sum):=[(32,jd4),(12,Ub9),(15,uc1),(19,Vb1),(33,Ed5),(22,Ab6),(25,gc3),(24,uc4)]
theorem ed2:i9 prog G od2:=⟨de6,uc0,Tc6,vc0,ue3,Zb8,Gc4,nd7,trivial⟩
def Ua6  : ROq:=let y18:=(W6 1 4);let y17:=(W6 3 5);let t1:=(ba0 0 2);let y14:=(⟨⟨#[]⟩,[rt tP t1,rt tP t1],[1,2]⟩:Prt);let t2:=(ba0 2 4);let y10:=((okE tP t2)&&true);let t3:=(ba0 4 6);let y12:=((okE tP t1)&&((okE tP t2)&&((okE tP t3)&&true)));let y8:=(⟨⟨#[]⟩,[rt tP t1,rt tP t2,rt tP t3],[1,2]⟩:Prt);let y0:=(⟨⟨#[]⟩,[rt tP t1,rt tP t2,rt tP t3],[1,2,3]⟩:Prt);let t4:=(Ba5 y0);let t5:=(Ba5 y8);let t6:=(Ba5 y14);let t7:=(fb5 y0);let y1:=(⟨rt tB t7.su,rt tB t7.to,rt tLq t7.cu⟩:Pce);let y24:=(Ua5 y1 0 ⟨#[46,46,46]⟩);let t8:=(ba0 3 5);let y16:=(la9 y0 y1 [rt tP t2] [rt tP t8]);let y11:=((okE tP t8)&&true);let t9:=(la8 y0 y1 [rt tP t2] [rt tP t8]);let y4:=(⟨rt tB t9.1.su,rt tB t9.1.to,rt tLq t9.1.cu⟩:Pce);let y23:=(Ua5 y4 t9.2 ⟨#[46,115,116]⟩);let t10:=(ba0 2 3);let y13:=(la9 y0 y1 [rt tP t10,rt tP t8] []);let t11:=(la8 y0 y1 [rt tP t10,rt tP t8] []);let y5:=(⟨rt tB t11.1.su,rt tB t11.1.to,rt tLq t11.1.cu⟩:Pce);let y21:=(Ua5 y5 t11.2 ⟨#[46,115,116]⟩);let t12:=(ba0 1 4);let y22:=(la9 y0 y1 [rt tP t12] []);let y15:=(la9 y0 y1 [rt tP t2] [rt tP t12]);let y9:=((okE tP t12)&&true);let t13:=(la8 y0 y1 [rt tP t2] [rt tP t12]);let y2:=(⟨rt tB t13.1.su,rt tB t13.1.to,rt tLq t13.1.cu⟩:Pce);let y19:=(H9 y0 y2);let y6:=(Ua5 y2 t13.2 ⟨#[116,115,46]⟩);let t14:=(la8 y0 y1 [rt tP t12] []);let y3:=(⟨rt tB t14.1.su,rt tB t14.1.to,rt tLq t14.1.cu⟩:Pce);let y20:=(H9 y0 y3);let y7:=(Ua5 y3 t14.2 ⟨#[116,115,46]⟩);let t15:=(Ua4 y1 0 ⟨#[46,46,46]⟩);let t16:=(Z1 y0 y1);let t17:=(Ua4 y4 t9.2 ⟨#[46,115,116]⟩);let t18:=(Z1 y0 y4);let t19:=(Ua4 y5 t11.2 ⟨#[46,115,116]⟩);let t20:=(Z1 y0 y5);let t21:=(Ua4 y2 t13.2 ⟨#[116,115,46]⟩);let t22:=(Z1 y0 y2);let t23:=(Ua4 y3 t14.2 ⟨#[116,115,46]⟩);let t24:=(Z1 y0 y3);let t25:=(Wa1 y0 y1);let t26:=(Ta2 (rt tLq t25) [rt tP t1,rt tP t2,rt tP t3]);let t27:=(Wa1 y0 y4);let t28:=(Ta2 (rt tLq t27) [rt tP t1,rt tP t3]);let a0:=(y12&&(true&&true));let a1:=((okE tB t13.1.su)&&((okE tB t13.1.to)&&((okE tLq t13.1.cu)&&true)));let a2:=((okE tB t14.1.su)&&((okE tB t14.1.to)&&((okE tLq t14.1.cu)&&true)));let a3:=((okE tB t7.su)&&((okE tB t7.to)&&((okE tLq t7.cu)&&true)));let a4:=((okE tB t9.1.su)&&((okE tB t9.1.to)&&((okE tLq t9.1.cu)&&true)));let a5:=((okE tB t11.1.su)&&((okE tB t11.1.to)&&((okE tLq t11.1.cu)&&true)));let w0:ROq:=(sl a1 (sl y6 (sl t21 (sl a0 (sl a1 (sl y19 (sl (t22==30) (sl a2 (sl y7 (sl t23 (sl a0 (sl a2 (sl y20 (some (b false,[])) none) none) none) (some (b false,[]))) none) none) (some (b false,[]))) none) none) none) (some (b false,[]))) none) none);let w1:ROq:=(sl a1 (sl y6 (sl t21 (sl a0 (sl a1 (sl y19 (sl (t22==30) (sl a2 (sl y7 (sl t23 (sl a0 (sl a2 (sl y20 (sl (t6==13) (some (b false,[])) (some (b false,[]))) none) none) none) (sl (t6==13) (some (b false,[])) (some (b false,[])))) none) none) (sl (t6==13) (some (b false,[])) (some (b false,[])))) none) none) none) (sl (t6==13) (some (b false,[])) (some (b false,[])))) none) none);let w2:ROq:=(sl a0 (sl (Sa8 y0) (sl y17 (sl a0 (sl a3 (sl y10 (sl y11 (sl y16 (sl (W6 2 3) (sl y17 (sl a0 (sl a3 (sl ((okE tP t10)&&y11) (sl y13 (sl y18 (sl a0 (sl a3 (sl y10 (sl y9 (sl y15 (sl y18 (sl a0 (sl a3 (sl y9 (sl y22 (sl a3 (sl y24 (sl t15 (sl a0 (sl a3 (sl (H9 y0 y1) (sl (t16==34) (sl a4 (sl y23 (sl t17 (sl a0 (sl a4 (sl (H9 y0 y4) (sl (t18==0) (sl a5 (sl y21 (sl t19 (sl ((↑(List.length t11.1.cu):Int)==2) (sl a0 (sl a5 (sl (H9 y0 y5) w0 none) none) none) w0) w0) none) none) w0) none) none) none) w0) none) none) w0) none) none) none) w0) none) none) none) none) none) none) none) none) none) none) none) none) none) none) none) none) none) none) none) none) none) none) none) none) none) none) none);let w3:ROq:=(sl (t6==13) (sl (t20==0) (some (b false,[])) (some (b false,[]))) (some (b false,[])));(sl (W6 0 2) (sl (W6 2 4) (sl (W6 4 6) (sl a0 (sl (Ba6 y0) (sl (t4==0) (sl a0 (sl (Ba6 y8) (sl (t5==1) (sl (((okE tP t1)&&((okE tP t1)&&true))&&(true&&true)) (sl (Ba6 y14) (sl a0 (sl (Sa8 y0) (sl y17 (sl a0 (sl a3 (sl y10 (sl y11 (sl y16 (sl (W6 2 3) (sl y17 (sl a0 (sl a3 (sl ((okE tP t10)&&y11) (sl y13 (sl y18 (sl a0 (sl a3 (sl y10 (sl y9 (sl y15 (sl y18 (sl a0 (sl a3 (sl y9 (sl y22 (sl a3 (sl y24 (sl t15 (sl a0 (sl a3 (sl (H9 y0 y1) (sl (t16==34) (sl a4 (sl y23 (sl t17 (sl a0 (sl a4 (sl (H9 y0 y4) (sl (t18==0) (sl a5 (sl y21 (sl t19 (sl ((↑(List.length t11.1.cu):Int)==2) (sl a0 (sl a5 (sl (H9 y0 y5) (sl a1 (sl y6 (sl t21 (sl a0 (sl a1 (sl y19 (sl (t22==30) (sl a2 (sl y7 (sl t23 (sl a0 (sl a2 (sl y20 (sl (t6==13) (sl (t20==0) (sl (t24==35) (sl a0 (sl a3 (sl (Ha8 y0 y1) (sl (okE tLq t25) (sl y12 (sl (Ta3 (rt tLq t25) [rt tP t1,rt tP t2,rt tP t3]) (sl t26 (sl a0 (sl a4 (sl (Ha8 y0 y4) (sl (okE tLq t27) (sl ((okE tP t1)&&((okE tP t3)&&true)) (sl (Ta3 (rt tLq t27) [rt tP t1,rt tP t3]) (some (b t28,[])) none) none) none) none) none) none) (some (b false,[]))) none) none) none) none) none) none) (some (b false,[]))) (some (b false,[]))) (some (b false,[]))) none) none) none) w3) none) none) w3) none) none) none) w3) none) none) none) none) none) w1) w1) none) none) w1) none) none) none) w1) none) none) w1) none) none) none) w1) none) none) none) none) none) none) none) none) none) none) none) none) none) none) none) none) none) none) none) none) none) none) none) none) none) none) none) none) none) w2) none) none) w2) none) none) none) none) none)
def mb5  : Bool:=ba8 (one r1B) Ua6
def mb6  : Bool:=okO (one r1B) Ua6
def wc5:Sum:=ye8  (.guard mb6 (.ret ((one r1B).enc mb5,[])))
theorem od3:g9 prog G 9 wc5:=eg0 (bd b9 ed2) (one r1B) (o:=Ua6) (B7 (by kernel_rfl))
def Vc6(x:PLq)(y:LPq):LPq×Int :=
 if chk x != 0 then ([],chk x) else if schk y != 0 then ([],schk y) else match Ee2 Me7 x y with
  |some r=>(r,0)
  |none=>([],9)
theorem of2:qb7=Vc6:=by
 funext x y;unfold qb7 Vc6;rw[We6]<;>rfl
def de8(x:LPq)(y:PLq):Bool×Int:=((Vc6 y x).2==0&&((Vc6 y x).1.length:Int)==0,(Vc6 y x).2)
theorem Ye0:ia6=de8:=by
 funext x y;unfold ia6 de8;rw[of2]
def suG(C cl:LPq)(su:List Bool)(j:Nat):Bool×Int:=if gL tB su j=true then (true,0) else de8 (Z2 C (gL tLq cl j)) (gL tLq cl j)
theorem dg4:suJ=suG:=by
 funext C cl su j;unfold suJ suG;rw[Ye0]
def Kf6(z w cl C:LPq)(su to:List Bool):Pce×Int :=
 match (List.range cl.length).find? λj=>(suG C cl su j).2 != 0 with
 |some j=>(vc1,(suG C cl su j).2)
 |none=>(⟨(List.range cl.length).map λk=>(suG C cl su k).1,(List.range cl.length).map (toJ z w cl to),C⟩,0)
def of3(x:Prt)(y:Pce)(z w:LPq):Pce×Int :=
 if (Eb3 x y != 0)=true then (vc1,Eb3 x y) else if (Cc4 (z++w) != 0)=true then (vc1,Cc4 (z++w)) else if (y.cu.length:Int)+(z.length:Int)>24 then (vc1,2)
 else Kf6 z w x.cl (y.cu++z) y.su y.to
theorem Vc7:Lb1=of3:=by
 funext x y z w;unfold Lb1 of3 jd3 Kf6;rw[dg4]<;>rfl
def isC(x:Pce)(z:ByteArray)(j:Nat):Bool:=!(gL tB x.su j==(sAt z (j:Int)==115))||!(gL tB x.to j==(sAt z (j:Int) != 46))
theorem dg5{x:Pce}{z:ByteArray}(h1:x.su.length=z.size)(h2:x.to.length=z.size)(hz:z.size<=1000000):Lb6 x 0 z=some (b (!(List.range z.size).any (isC x z)),[]):=by
 obtain⟨k,hk⟩:=cd9 (step:=bb7 ⟨z,(x.su.length:Int),x.su,x.to,x.cu⟩) (mk:=λj=>(⟨(j:Int)⟩:sa8)) x.su.length (isC x z) 1 2 (by omega)
  (λj hj=>by
   simp only[bb7,Ua3,Int.toNat_natCast,u7 hj (show x.su.length<=4611686018427387904 by omega),isC]
   rw[btD (n7 hj),bt (g8 hj),bt (g8 (show j<z.size by omega)),bt (g8 (show j<x.to.length by omega)),bt (g8 (show j<z.size by omega))]
   cases gL tB x.su j==(sAt z (j:Int)==115)<;>cases gL tB x.to j==(sAt z (j:Int) != 46)<;>rfl)
  (by simp only[bb7,Ua3];rw[bfD (B8 (Qlg _))])
 unfold Lb6;simp only[i6,l4,Qlb,f0];rw[show (⟨0⟩:sa8)=⟨((0:Nat):Int)⟩ from rfl,hk,h1,h2]
 rw[show ((0:Int) != 0)=false from rfl,show (((z.size:Nat):Int) != (z.size:Int))=false by simp]
 simp only[B6];cases (List.range z.size).any (isC x z)<;>rfl
theorem of4{x:Pce}{z:ByteArray}(h1:x.su.length=z.size)(h2:x.to.length=z.size)(hz:z.size<=1000000)(h:(List.range z.size).any (isC x z)=false):Ua4 x 0 z=true/\Ua5 x 0 z=true:=by
 unfold Ua4 Ua5;rw[dg5 h1 h2 hz,h];exact⟨rfl,rfl⟩
def bk(a c:Int):PLq:=bx a 0 0 c 2 2
def exP:Prt:=⟨⟨#[]⟩,[bk 0 2,bk 2 4,bk 4 6],[1,2,3]⟩
def exQ:Prt:=⟨⟨#[]⟩,[bk 0 2,bk 2 4,bk 4 6],[1,2]⟩
def exR:Prt:=⟨⟨#[]⟩,[bk 0 2,bk 0 2],[1,2]⟩
def ps(a c d e f g:Bool)(l:LPq):Pce:=⟨[a,c,d],[e,f,g],l⟩
theorem kb:(ba0 0 2=bk 0 2/\W6 0 2=true)/\(ba0 2 4=bk 2 4/\W6 2 4=true)/\(ba0 4 6=bk 4 6/\W6 4 6=true)/\(ba0 3 5=bk 3 5/\W6 3 5=true)/\(ba0 2 3=bk 2 3/\W6 2 3=true) /\
  (ba0 1 4=bk 1 4/\W6 1 4=true):=by refine⟨⟨?_,?_⟩,⟨?_,?_⟩,⟨?_,?_⟩,⟨?_,?_⟩,⟨?_,?_⟩,?_,?_⟩<;>kernel_rfl
theorem kc1:uc5 exP=0:=by kernel_rfl
theorem kc2:uc5 exQ=1:=by kernel_rfl
theorem kc3:uc5 exR=13:=by kernel_rfl
theorem ka1:Lb1 exP (ps false false false false false false []) [bk 2 4] [bk 3 5]=(ps false true false false true true [bk 2 4],0):=by rw[Vc7];kernel_rfl
theorem ka2:Lb1 exP (ps false false false false false false []) [bk 2 3,bk 3 5] []=(ps false true false false true true [bk 2 3,bk 3 5],0):=by rw[Vc7];kernel_rfl
theorem ka3:Lb1 exP (ps false false false false false false []) [bk 2 4] [bk 1 4]=(ps false true false true true false [bk 2 4],0):=by rw[Vc7];kernel_rfl
theorem ka4:Lb1 exP (ps false false false false false false []) [bk 1 4] []=(ps false true false true true false [bk 1 4],0):=by rw[Vc7];kernel_rfl
theorem kv1:Ed2 exP (ps false false false false false false [])=34:=by kernel_rfl
theorem kv2:Ed2 exP (ps false true false false true true [bk 2 4])=0:=by kernel_rfl
theorem kv3:Ed2 exP (ps false true false false true true [bk 2 3,bk 3 5])=0:=by kernel_rfl
theorem kv4:Ed2 exP (ps false true false true true false [bk 2 4])=30:=by kernel_rfl
theorem kv5:Ed2 exP (ps false true false true true false [bk 1 4])=35:=by kernel_rfl
theorem kl1:Ed1 exP (ps false false false false false false [])=[bk 0 2,bk 2 4,bk 4 6]:=by kernel_rfl
theorem kl2:Ed1 exP (ps false true false false true true [bk 2 4])=[bk 0 2,bk 4 6]:=by kernel_rfl
theorem ki1:(List.range 3).any (isC (ps false false false false false false []) ⟨#[46,46,46]⟩)=false:=by kernel_rfl
theorem ki2(l:LPq):(List.range 3).any (isC (ps false true false false true true l) ⟨#[46,115,116]⟩)=false:=by kernel_rfl
theorem ki3(l:LPq):(List.range 3).any (isC (ps false true false true true false l) ⟨#[116,115,46]⟩)=false:=by kernel_rfl
theorem de9(a c:Int):(bk a c).length=6:=rfl
theorem Ne7(a c:Int):bk a c≠[]:=by intro h;have:=congrArg List.length h;simp[de9] at this
theorem fa1:Jok exP:=⟨by show 3<=_;omega,by show 3<=_;omega,λc hc=>by
 have:c.length=6:=by
  simp only[exP,Qlk,Qlj,or_false] at hc
  rcases hc with rfl|rfl|rfl<;>rfl
 omega⟩
theorem of5:Jok exQ:=⟨by show 3<=_;omega,by show 2<=_;omega,fa1.pl⟩
theorem of6:Jok exR:=⟨by show 2<=_;omega,by show 2<=_;omega,λc hc=>by
 have:c.length=6:=by
  simp only[exR,Qlk,Qlj,or_false] at hc
  rcases hc with rfl|rfl<;>rfl
 omega⟩
theorem ee0:∀q∈exP.cl,q≠[]:=λc hc=>by
 simp only[exP,Qlk,Qlj,or_false] at hc
 rcases hc with rfl|rfl|rfl<;>exact Ne7 _ _
theorem ue4(a c d e f g:Bool){l:LPq}(h1:l.length<=1000000)(h2:∀q∈l,q.length<=1000000):Pok (ps a c d e f g l):=⟨by show 3<=_;omega,by show 3<=_;omega,h1,h2⟩
theorem bk1(a c:Int):(∀q∈[bk a c],q.length<=1000000)/\∀q∈[bk a c],q≠[]:=⟨λq hq=>by rw[Qlc.1 hq,de9];decide,λq hq=>by rw[Qlc.1 hq];exact Ne7 _ _⟩
theorem bk2(a c d e:Int):(∀q∈[bk a c,bk d e],q.length<=1000000)/\∀q∈[bk a c,bk d e],q≠[]:=by
 constructor<;>intro q hq<;>simp only[Qlk,Qlj,or_false] at hq<;>rcases hq with rfl | rfl
 ·rw[de9];decide
 ·rw[de9];decide
 ·exact Ne7 _ _
 ·exact Ne7 _ _
theorem Ed6:∀q∈([]:LPq),q.length<=1000000:=by simp
theorem jd6:∀q∈([]:LPq),q≠[]:=by simp
theorem jd7:Ua6=some (b true,[]):=by
 obtain⟨⟨b1,b2⟩,⟨b3,b4⟩,⟨b5,b6⟩,⟨b7,b8⟩,⟨b9,b10⟩,b11,b12⟩:=kb;have c1:=(Dd2 fa1).trans kc1;have c1':=ce8 fa1;have c2:=(Dd2 of5).trans kc2;have c2':=ce8 of5;have c3:=(Dd2 of6).trans kc3;have c3':=ce8 of6;have n1:fb5 exP=ps false false false false false false []:=Kf2 fa1.cl;have n1':Sa8 exP=true:=Kf3 fa1.cl;have x0:Pok (ps false false false false false false []):=ue4 _ _ _ _ _ _ (by simp) Ed6
 have x1:Pok (ps false true false false true true [bk 2 4]):=ue4 _ _ _ _ _ _ (by simp) (bk1 2 4).1
 have x2:Pok (ps false true false false true true [bk 2 3,bk 3 5]):=ue4 _ _ _ _ _ _ (by simp) (bk2 2 3 3 5).1
 have x3:Pok (ps false true false true true false [bk 2 4]):=ue4 _ _ _ _ _ _ (by simp) (bk1 2 4).1
 have x4:Pok (ps false true false true true false [bk 1 4]):=ue4 _ _ _ _ _ _ (by simp) (bk1 1 4).1
 have a1:=(Vc2 (z:=[bk 2 4]) (w:=[bk 3 5]) fa1 x0 (by simp) (by simp) (bk1 2 4).1 (bk1 3 5).1 jd6 (bk1 2 4).2).trans ka1
 have a1':=Vc3 (z:=[bk 2 4]) (w:=[bk 3 5]) fa1 x0 (by simp) (by simp) (bk1 2 4).1 (bk1 3 5).1 jd6 (bk1 2 4).2
 have a2:=(Vc2 (z:=[bk 2 3,bk 3 5]) (w:=[]) fa1 x0 (by simp) (by simp) (bk2 2 3 3 5).1 Ed6 jd6 (bk2 2 3 3 5).2).trans ka2
 have a2':=Vc3 (z:=[bk 2 3,bk 3 5]) (w:=[]) fa1 x0 (by simp) (by simp) (bk2 2 3 3 5).1 Ed6 jd6 (bk2 2 3 3 5).2
 have a3:=(Vc2 (z:=[bk 2 4]) (w:=[bk 1 4]) fa1 x0 (by simp) (by simp) (bk1 2 4).1 (bk1 1 4).1 jd6 (bk1 2 4).2).trans ka3
 have a3':=Vc3 (z:=[bk 2 4]) (w:=[bk 1 4]) fa1 x0 (by simp) (by simp) (bk1 2 4).1 (bk1 1 4).1 jd6 (bk1 2 4).2
 have a4:=(Vc2 (z:=[bk 1 4]) (w:=[]) fa1 x0 (by simp) (by simp) (bk1 1 4).1 Ed6 jd6 (bk1 1 4).2).trans ka4
 have a4':=Vc3 (z:=[bk 1 4]) (w:=[]) fa1 x0 (by simp) (by simp) (bk1 1 4).1 Ed6 jd6 (bk1 1 4).2
 have v1:=(Fb4 fa1 x0).trans kv1;have v1':=Fb5 fa1 x0;have v2:=(Fb4 fa1 x1).trans kv2;have v2':=Fb5 fa1 x1;have v3:=(Fb4 fa1 x2).trans kv3;have v3':=Fb5 fa1 x2;have v4:=(Fb4 fa1 x3).trans kv4;have v4':=Fb5 fa1 x3;have v5:=(Fb4 fa1 x4).trans kv5;have v5':=Fb5 fa1 x4;have l1:=(de2 fa1 x0 ee0).trans kl1;have l1':=de3 fa1 x0 ee0;have l2:=(de2 fa1 x1 ee0).trans kl2;have l2':=de3 fa1 x1 ee0;have i1:=of4 (x:=ps false false false false false false []) (z:=⟨#[46,46,46]⟩) rfl rfl (by show 3<=_;omega) ki1
 have i2:=of4 (x:=ps false true false false true true [bk 2 4]) (z:=⟨#[46,115,116]⟩) rfl rfl (by show 3<=_;omega) (ki2 _)
 have i3:=of4 (x:=ps false true false false true true [bk 2 3,bk 3 5]) (z:=⟨#[46,115,116]⟩) rfl rfl (by show 3<=_;omega) (ki2 _)
 have i4:=of4 (x:=ps false true false true true false [bk 2 4]) (z:=⟨#[116,115,46]⟩) rfl rfl (by show 3<=_;omega) (ki3 _)
 have i5:=of4 (x:=ps false true false true true false [bk 1 4]) (z:=⟨#[116,115,46]⟩) rfl rfl (by show 3<=_;omega) (ki3 _)
 have s1:=Cd9 (x:=[bk 0 2,bk 2 4,bk 4 6]) (by simp) fa1.pl
 have s1':=Dd0 (x:=[bk 0 2,bk 2 4,bk 4 6]) (by simp) fa1.pl
 have s2:=Cd9 (x:=[bk 0 2,bk 4 6]) (by simp) (bk2 0 2 4 6).1
 have s2':=Dd0 (x:=[bk 0 2,bk 4 6]) (by simp) (bk2 0 2 4 6).1
 unfold exP at c1 c1' n1 n1' a1 a1' a2 a2' a3 a3' a4 a4' v1 v1' v2 v2' v3 v3' v4 v4' v5 v5' l1 l1' l2 l2';unfold exQ at c2 c2';unfold exR at c3 c3';unfold ps at n1 a1 a1' a2 a2' a3 a3' a4 a4' v1 v1' v2 v2' v3 v3' v4 v4' v5 v5' l1 l1' l2 l2' i1 i2 i3 i4 i5;unfold Ua6;simp only[b1,b2,b3,b4,b5,b6,b7,b8,b9,b10,b11,b12,i6,A5,Qlb,f0,c1,c1',c2,c2',c3,c3',n1,n1',a1,a1',a2,a2',a3,a3',a4,a4',v1,v1',v2,v2',v3,v3',v4,v4',v5,v5',l1,l1',l2,l2',i1.1,i1.2,i2.1,i2.2,i3.1,i3.2,i4.1,i4.2,i5.1,i5.2,s1,s1',s2,s2'];rfl
theorem Fe3:mb5=true:=by unfold mb5;rw[jd7];rfl
theorem Fe4:mb6=true:=by unfold mb6;rw[jd7];rfl
theorem ee1{c:PLq}{p:Pln}{q:Pln}:q∈c++[p]++ws↔q∈c++ws\/q=p:=by
 simp only[Qle,Qlc];constructor
 ·rintro ((h|h)|h)
  ·exact .inl (.inl h)
  ·exact .inr h
  ·exact .inl (.inr h)
 ·rintro ((h|h)|h)
  ·exact .inl (.inl h)
  ·exact .inr h
  ·exact .inl (.inr h)
theorem Ne8{c:PLq}{p:Pln}{z:Pt}:Ins (c++[p]++ws) z↔Ins (c++ws) z/\0<rmZ p z:=by
 constructor
 ·intro h;exact⟨h.mono λq hq=>ee1.2 (.inl hq),h.h p (ee1.2 (.inr rfl))⟩
 ·rintro⟨h1,h2⟩;refine⟨h1.w,λq hq=>?_⟩
  rcases ee1.1 hq with h|rfl
  ·exact h1.h q h
  ·exact h2
theorem Fe5{c:PLq}{s:LPq}(h:c∈s):Cov s c:=λhf _ hz=>⟨c,h,hf,hz⟩
structure HvF(c:PLq)(p q:Pln):Prop where
 a:nf0 [c] [c++[p],c++[V0 p]]=(true,0)
 a':nf0 [c++[p],c++[V0 p]] [c]=(true,0)
 h:ia6 [c++[p]] c=(!ful (c++[V0 p]),0)
 h':ia6 [c++[V0 p]] c=(!ful (c++[p]),0)
 s:nf0 [c++[V0 p],c++[p]++[q],c++[p]++[V0 q]] [c++[p],c++[V0 p]]=(true,0)
 v:ia6 [c++[V0 p],c++[p]++[q],c++[p]++[V0 q]] c=(true,0)
 d:apart (c++[p]) (c++[V0 p])=true
theorem of7{n:V3}{d:Int}(hn:[n.x,n.y,n.z].all (smb 4608)=true)(hg:g3 n=1)(h1:-2097152<=d)(h2:d<=2097152):okp ⟨n,d⟩=true:=by
 unfold okp;rw[hn,hg];simp only[List.all_cons,List.all_nil,Bool.and_true,Qlt,Bool.and_eq_true,beq_self_eq_true,true_and,qd5];exact⟨h1,h2⟩
theorem ed3{x y z u v w:Int}{p:Pln}:p∈bx x y z u v w↔p=⟨⟨1,0,0⟩,u⟩\/p=⟨⟨-1,0,0⟩,-x⟩\/p=⟨⟨0,1,0⟩,v⟩\/p=⟨⟨0,-1,0⟩,-y⟩\/p=⟨⟨0,0,1⟩,w⟩\/p=⟨⟨0,0,-1⟩,-z⟩:=by
 simp only[bx,Qlk,Qlj,or_false]
theorem gf0{x y z u v w:Int}(h1:-2000<=x/\x<=2000)(h2:-2000<=y/\y<=2000)(h3:-2000<=z/\z<=2000)(h4:-2000<=u/\u<=2000)(h5:-2000<=v/\v<=2000)(h6:-2000<=w/\w<=2000):∀p∈bx x y z u v w,okp p=true:=λp hp=>by
 rcases ed3.1 hp with rfl|rfl|rfl|rfl|rfl|rfl<;>exact of7 (by decide) (by decide) (by omega) (by omega)
theorem Ed7{x y z u v w:Int}(h1:-2000<=x/\x<=2000)(h2:-2000<=y/\y<=2000)(h3:-2000<=z/\z<=2000)(h4:-2000<=u/\u<=2000)(h5:-2000<=v/\v<=2000)(h6:-2000<=w/\w<=2000):(chk (bx x y z u v w)==0)=true:=by
 rw[beq_iff_eq,ab9];exact⟨by rw[ce7];decide,gf0 h1 h2 h3 h4 h5 h6⟩
theorem Uf1{p:Pln}:p∈ws↔p=⟨⟨1,0,0⟩,24⟩\/p=⟨⟨-1,0,0⟩,24⟩\/p=⟨⟨0,1,0⟩,24⟩\/p=⟨⟨0,-1,0⟩,24⟩\/p=⟨⟨0,0,1⟩,24⟩\/p=⟨⟨0,0,-1⟩,24⟩:=by
 simp only[ws,Qlk,Qlj,or_false]
theorem Uf2{x y z u v w:Int}(h1:-24<=x/\x<u/\u<=24)(h2:-24<=y/\y<v/\v<=24)(h3:-24<=z/\z<w/\w<=24):ful (bx x y z u v w)=true:=by
 refine Z0.2 ⟨Ed7 (by omega) (by omega) (by omega) (by omega) (by omega) (by omega),⟨x+u,y+v,z+w,2⟩,by show (0:Int)<2;decide,λp hp=>?_⟩
 rcases Qle.1 hp with hp|hp
 ·rcases ed3.1 hp with rfl|rfl|rfl|rfl|rfl|rfl<;>(unfold rmZ;simp only;omega)
 ·rcases Uf1.1 hp with rfl|rfl|rfl|rfl|rfl|rfl<;>(unfold rmZ;simp only;omega)
theorem ue5{a c:PLq}(ha:(chk a==0)=true)(hc:(chk c==0)=true){p q:Pln}(hp:p∈a)(hq:q∈c)(h:∀z:Pt,0<z.pw->0<rmZ p z->0<rmZ q z->False):apart a c=true :=
 (Va8 ha hc).2 λz h1 h2=>h z h1.w (h1.h p (Qli _ hp)) (h2.h q (Qli _ hq))
theorem of8{a a' c c':PLq}(ha:(chk a==0)=true)(hc:(chk c==0)=true)(ha':(chk a'==0)=true)(hc':(chk c'==0)=true)(h1:∀p∈a,p∈a')(h2:∀p∈c,p∈c')(h:apart a c=true):apart a' c'=true :=
 (Va8 ha' hc').2 λz k1 k2=>(Va8 ha hc).1 h z (k1.mono λp hp=>(Qle.1 hp).elim (λe=>Qli _ (h1 p e)) λe=>Qlx _ e)
  (k2.mono λp hp=>(Qle.1 hp).elim (λe=>Qli _ (h2 p e)) λe=>Qlx _ e)
def Prw(l:LPq):Prop:=∀j k,j<k->k<l.length->apart (gL tLq l j) (gL tLq l k)=true
theorem rd0{α:Type}(t:Ty α)(l:List α)(c:α){k:Nat}(h:k<l.length):gL t (l++[c]) k=gL t l k:=by
 simp only[gL,Qll];rw[List.getElem?_append_left h]
theorem Ne9{α:Type}(t:Ty α)(l:List α)(c:α):gL t (l++[c]) l.length=c:=by
 simp[gL,Qll]
theorem Prw.app{l:LPq}(h:Prw l){c:PLq}(hc:∀q∈l,apart q c=true):Prw (l++[c]):=by
 intro j k hjk hk;rw[Qla,List.length_singleton] at hk;by_cases e:k<l.length
 ·rw[rd0 _ _ _ e,rd0 _ _ _ (by omega)]
  exact h j k hjk e
 ·have:k=l.length:=by omega
  subst this;rw[Ne9,rd0 _ _ _ hjk];exact hc _ (N7 _ hjk)
theorem Prw.nil:Prw []:=λj k _ hk=>absurd hk (Nat.not_lt_zero _)
structure Rw(h X:Int)(l:LPq):Prop where
 p:Prw l
 c:∀q∈l,∃a c y,q=bx a y 0 c (y+3) h/\-6<=a/\a<c/\c<=X/\(y=0\/y=3)
theorem Rw.nil(h X:Int):Rw h X []:=⟨.nil,λq hq=>by cases hq⟩
theorem Rw.add{h X a c y:Int}{l:LPq}(r:Rw h X l)(hh:2<=h/\h<=4)(hX:-6<=X/\X<=20)(hc:X<c/\c<=24)(ha:a=X)(hy:y=0\/y=3):Prw (l++[bx a y 0 c (y+3) h]):=by
 refine r.p.app λq hq=>?_
 obtain⟨a',c',y',rfl,h1,h2,h3,h4⟩:=r.c q hq;refine ue5 (p:=⟨⟨1,0,0⟩,c'⟩) (q:=⟨⟨-1,0,0⟩,-a⟩) (Ed7 (by omega) (by omega) (by omega) (by omega) (by omega) (by omega)) (Ed7 (by omega) (by omega) (by omega) (by omega) (by omega) (by omega)) (ed3.2 (by simp)) (ed3.2 (by simp)) λz h0 k1 k2=>?_
 have:(a-c')*z.pw<0:=by
  unfold rmZ at k1 k2
  simp only at k1 k2
  have e:(a-c')*z.pw=a*z.pw-c'*z.pw:=Int.sub_mul _ _ _;have e2:-a*z.pw=-(a*z.pw):=Int.neg_mul _ _;rw[e2] at k2;rw[e];omega
 have:0<=(a-c')*z.pw:=Int.mul_nonneg (by omega) (by omega)
 omega
theorem Rw.one{h X c:Int}{l:LPq}(r:Rw h X l)(hh:2<=h/\h<=4)(hX:-6<=X/\X<=20)(hc:X<c/\c<=24):Rw h c (l++[bx X 0 0 c 3 h]) :=
 ⟨r.add (y:=0) hh hX hc rfl (.inl rfl),λq hq=>by
  rcases Qle.1 hq with hq|hq
  ·obtain⟨a',c',y',h0,h1,h2,h3,h4⟩:=r.c q hq;exact⟨a',c',y',h0,h1,h2,by omega,h4⟩
  ·rw[Qlc.1 hq];exact⟨X,c,0,rfl,by omega,by omega,by omega,.inl rfl⟩⟩
theorem Rw.two{h X c:Int}{l:LPq}(r:Rw h X l)(hh:2<=h/\h<=4)(hX:-6<=X/\X<=20)(hc:X<c/\c<=24):Rw h c ((l++[bx X 0 0 c 3 h])++[bx X 3 0 c 6 h]):=by
 have r1:=r.one hh hX hc;refine⟨r1.p.app λq hq=>?_,λq hq=>?_⟩
 ·rcases Qle.1 hq with hq|hq
  ·have h2:=r.add (y:=3) hh hX hc rfl (.inr rfl);obtain⟨k,hk,rfl⟩:=Qlm hq
   have:=h2 k l.length hk (by simp)
   rw[Ne9,rd0 _ _ _ hk,Ya0 tLq hk] at this;exact this
  ·rw[Qlc.1 hq];refine ue5 (p:=⟨⟨0,1,0⟩,3⟩) (q:=⟨⟨0,-1,0⟩,-3⟩) (Ed7 (by omega) (by omega) (by omega) (by omega) (by omega) (by omega)) (Ed7 (by omega) (by omega) (by omega) (by omega) (by omega) (by omega)) (ed3.2 (by simp)) (ed3.2 (by simp)) λz h0 k1 k2=>?_
   unfold rmZ at k1 k2
   simp only at k1 k2
   omega
 ·rcases Qle.1 hq with hq|hq
  ·exact r1.c q hq
  ·rw[Qlc.1 hq];exact⟨X,c,3,rfl,by omega,by omega,by omega,.inr rfl⟩
structure Mcl(l:LPq):Prop where
 n1:2<=l.length
 n2:l.length<=6
 p:Prw l
 f:∀q∈l,ful q=true
 k:∀q∈l,6<=q.length/\q.length<=7
theorem Rw.mcl{h X:Int}{l:LPq}(r:Rw h X l)(hh:2<=h/\h<=4)(hX:X<=24)(h1:2<=l.length)(h2:l.length<=6):Mcl l :=
 ⟨h1,h2,r.p,λq hq=>by
  obtain⟨a',c',y',rfl,h1,h2,h3,h4⟩:=r.c q hq;exact Uf2 (by omega) (by omega) (by omega),λq hq=>by
  obtain⟨a',c',y',rfl,h1,h2,h3,h4⟩:=r.c q hq;rw[ce7]
  omega⟩
theorem of9{α:Type}(t:Ty α)(l:List α)(c:α){j k:Nat}(h:j<l.length):gL t (l.set j c) k=if k=j then c else gL t l k:=by
 simp only[gL,Qll,List.getElem?_set];by_cases e:j=k
 ·subst e;simp[h]
 ·rw[if_neg e,if_neg (λe'=>e e'.symm)]
theorem Mcl.cut{l:LPq}(m:Mcl l)(h6:l.length<6)(hk:∀q∈l,q.length=6){p:Pln}(hp:okp p=true){j:Nat}(hj:j<l.length)
  (f1:ful (gL tLq l j++[p])=true) (f2:ful (gL tLq l j++[V0 p])=true):Mcl (l.set j (gL tLq l j++[p])++[gL tLq l j++[V0 p]]):=by
 have hc:=λk (h:k<l.length)=>(Z0.1 (m.f _ (N7 tLq h))).1
 have hl:=hk _ (N7 tLq hj);have k1:=(Z0.1 f1).1;have k2:=(Z0.1 f2).1;have ap:∀k,k<l.length->k≠j->∀q:Pln,(chk (gL tLq l j++[q])==0)=true->apart (gL tLq l k) (gL tLq l j++[q])=true/\apart (gL tLq l j++[q]) (gL tLq l k)=true:=by
  intro k hk' hkj q hq;have h0:apart (gL tLq l k) (gL tLq l j)=true:=by
   rcases Nat.lt_or_gt_of_ne hkj with h|h
   ·exact m.p k j h hj
   ·rw[Kb7];exact m.p j k h hk'
  have h1:apart (gL tLq l k) (gL tLq l j++[q])=true:=of8 (hc k hk') (hc j hj) (hc k hk') hq (λ_ h=>h) (λ_ h=>Qli _ h) h0
  exact⟨h1,by rw[Kb7];exact h1⟩
 refine⟨by rw[Qla,Qlh];have:=m.n1;simp;omega,by rw[Qla,Qlh];simp;omega,?_,?_,?_⟩
 ·refine Prw.app (λi k hik hkl=>?_) λq hq=>?_
  ·rw[Qlh] at hkl;rw[of9 tLq l _ hj,of9 tLq l _ hj];by_cases e1:i=j
   ·rw[if_pos e1,if_neg (by omega)]
    exact (ap k hkl (by omega) p k1).2
   ·by_cases e2:k=j
    ·rw[if_neg e1,if_pos e2];exact (ap i (by omega) e1 p k1).1
    ·rw[if_neg e1,if_neg e2];exact m.p i k hik hkl
  ·obtain⟨i,hi,rfl⟩:=Qlm hq;rw[Qlh] at hi;rw[List.getElem_set];by_cases e:j=i
   ·rw[if_pos e];refine (Va8 k1 k2).2 λz z1 z2=>?_
    have a1:=(Ne8.1 z1).2;have a2:=(Ne8.1 z2).2;rw[za3] at a2;omega
   ·rw[if_neg e]
    have:=(ap i hi (λe'=>e e'.symm) (V0 p) k2).1
    rw[Ya0 tLq hi] at this;exact this
 ·intro q hq
  rcases Qle.1 hq with hq|hq
  ·rcases Qlu hq with h|rfl
   ·exact m.f q h
   ·exact f1
  ·rw[Qlc.1 hq];exact f2
 ·intro q hq
  rcases Qle.1 hq with hq|hq
  ·rcases Qlu hq with h|rfl
   ·exact m.k q h
   ·rw[Qla,hl,List.length_singleton];decide
  ·rw[Qlc.1 hq,Qla,hl,List.length_singleton];decide
structure Mp(x:Prt):Prop where
 c:Mcl x.cl
 w:x.wt.length=x.cl.length
 o:∀n∈x.wt,n=1\/n=2\/n=3
theorem Mp.jok{x:Prt}(m:Mp x):Jok x:=⟨by have:=m.c.n2;omega,by have:=m.c.n2;have:=m.w;omega,λc hc=>by have:=(m.c.k c hc).2;omega⟩
theorem Mp.ne{x:Prt}(m:Mp x):∀q∈x.cl,q≠[]:=λq hq e=>by
 have:=(m.c.k q hq).1
 rw[e] at this
 simp at this
theorem Mp.chk{x:Prt}(m:Mp x):uc5 x=0:=by
 have h1:=m.c.n1;have h2:=m.c.n2;unfold uc5;rw[if_neg (by omega),if_neg (by omega),if_neg (by rw[m.w];simp),if_neg,if_neg]
 ·intro h;obtain⟨j,hj,hb⟩:=Qlf.1 h;have hj:=Qld.1 hj;unfold te4 at hb;rw[m.c.f _ (N7 tLq hj)] at hb;simp only[Bool.not_true,Bool.false_or] at hb;obtain⟨k,hk,hb⟩:=Qlf.1 hb;rw[m.c.p k j (Qld.1 hk) hj] at hb;cases hb
 ·intro h;obtain⟨n,hn,hb⟩:=Qlf.1 h
  rcases m.o n hn with rfl|rfl|rfl<;>revert hb<;>decide
theorem rd1(lo hi:V3):eb1 lo hi=⟨hi.x,W (0-lo.x),hi.y,W (0-lo.y),hi.z,W (0-lo.z)⟩:=rfl
theorem dg6(x y z u v w:Int):bL tP (bx x y z u v w)=[[i 1,i 0,i 0,i u],[i (-1),i 0,i 0,i (-x)],[i 0,i 1,i 0,i v],[i 0,i (-1),i 0,i (-y)],[i 0,i 0,i 1,i w],[i 0,i 0,i (-1),i (-z)]]:=rfl
theorem ee2(x y z u v w:Int):c7.tree 4 6 (λk=>d9 [[i 1,i 0,i 0,i u],[i (-1),i 0,i 0,i (-x)],[i 0,i 1,i 0,i v],[i 0,i (-1),i 0,i (-y)],[i 0,i 0,i 1,i w],[i 0,i 0,i (-1),i (-z)]] (0+k))=cpA (bx x y z u v w):=by
 rw[<- dg6];exact de1 (bx x y z u v w)
def ue6(t:Bool):Nat:=if t=true then 2 else 1
structure RPa(n:Nat)(t:Bool)(h:Int)(u:List Int)(j:Nat)(s:N9)(O:LPq):Prop where
 le:j<=n
 ph:s.ph=phL O
 r:Rw h s.is9 O
 x:-6<=s.is9/\s.is9<=-4+4*(j:Int)
 ix:s.s8=(j:Int)
 u:s.D9=u
 d:0<=s.W7/\s.W7<=100+(j:Int)
 n:s.Aa3=O.length
 e:s.eh4=cpR O
 l:O.length=ue6 t*j
theorem Ed8{n:Nat}{t:Bool}{h:Int}{nm nm2:ByteArray}{u u' v':List Int}(hn:n<=4)(hh:2<=h/\h<=4){x d:Int}(hx:-6<=x/\x<=-4)(hd:0<=d/\d<=100) :
  ∃s O,lp (ca1 ⟨(n:Int),t,h,nm,u',v',nm2⟩) ⟨0,x,0,u,d,0,[]⟩=(phL O+1,s)/\RPa n t h u n s O:=by
 suffices key:∃tt s,lp (ca1 ⟨(n:Int),t,h,nm,u',v',nm2⟩) ⟨0,x,0,u,d,0,[]⟩=(tt,s)/\∃O,tt=phL O+1/\RPa n t h u n s O by
  obtain⟨tt,s,h1,O,h2,h3⟩:=key;exact⟨s,O,by rw[h1,h2],h3⟩
 refine Oa4 (step:=ca1 ⟨(n:Int),t,h,nm,u',v',nm2⟩) (mk:=λ_ (s:N9)=>s) n (λj s=>∃O,RPa n t h u j s O) (λtt s=>∃O,tt=phL O+1/\RPa n t h u n s O) (by omega)
  (λj s hj hi=>?_) (λj s hj hi=>?_) 0 ⟨0,x,0,u,d,0,[]⟩ ⟨[],⟨Qlv _,rfl,.nil _ _,by show -6<=x/\x<=_;omega,rfl,rfl,by show 0<=d/\d<=_;omega,rfl,rfl,by simp⟩⟩
 ·obtain⟨O,hi⟩:=hi;obtain⟨_,h2,h3,⟨h4,h4'⟩,h5,h6,⟨h7,h7'⟩,h8,h9,h10⟩:=hi;obtain⟨ph,is9,s8,lI,ih,nh,eh⟩:=s
  simp only at h2 h3 h4 h4' h5 h6 h7 h7' h8 h9 h10
  subst h2 h5 h6 h8 h9;obtain⟨v,d',e1,e2,e3,e4,e5⟩:=Db5 4 lI ih h7 (by omega) (by decide) (by decide)
  have hw1:W ((j:Int)+1)=((j+1:Nat):Int):=u7 hj (by omega)
  have hw2:W (1+v)=1+v:=Ka7 (by omega) (by omega)
  have hw3:W (is9+(1+v))=is9+(1+v):=Ka7 (by omega) (by omega)
  have hw4:W (0-is9)=-is9:=by rw[Ka7 (by omega) (by omega)];omega
  have hw5:W (0-0)=-0:=rfl;have hw6:W (0-3)=-3:=rfl;have hO:O.length<=8:=by rw[h10];unfold ue6;split<;>omega
  have q11:Nat.beq 1 1=true:=rfl;have hr1:Rw h (is9+(1+v)) (O++[bx is9 0 0 (is9+(1+v)) 3 h]):=h3.one hh (by omega) (by omega)
  have hr2:Rw h (is9+(1+v)) ((O++[bx is9 0 0 (is9+(1+v)) 3 h])++[bx is9 3 0 (is9+(1+v)) 6 h]):=h3.two hh (by omega) (by omega)
  cases t with
  |false =>
   have hl:(O++[bx is9 0 0 (is9+(1+v)) 3 h]).length=ue6 false*(j+1):=by rw[Qla,h10];unfold ue6;simp
   have fin:RPa n false h lI (j+1) ⟨phL (O++[bx is9 0 0 (is9+(1+v)) 3 h]),is9+(1+v),((j+1:Nat):Int),lI,d',(O++[bx is9 0 0 (is9+(1+v)) 3 h]).length,cpR (O++[bx is9 0 0 (is9+(1+v)) 3 h])⟩ (O++[bx is9 0 0 (is9+(1+v)) 3 h]) :=
    ⟨hj,rfl,hr1,by show -6<=is9+(1+v)/\is9+(1+v)<=-4+4*((j+1:Nat):Int);omega,rfl,rfl,by show 0<=d'/\d'<=100+((j+1:Nat):Int);omega,rfl,rfl,hl⟩
   have hst:ca1 ⟨(n:Int),false,h,nm,u',v',nm2⟩ ⟨phL O,is9,(j:Int),lI,ih,O.length,cpR O⟩=.next ⟨phL (O++[bx is9 0 0 (is9+(1+v)) 3 h]),is9+(1+v),((j+1:Nat):Int),lI,d',(O++[bx is9 0 0 (is9+(1+v)) 3 h]).length,cpR (O++[bx is9 0 0 (is9+(1+v)) 3 h])⟩:=by
    rw[fc5,Qla,List.length_singleton,<- Ac9]
    rcases na8 O with⟨hz,hn⟩|h1
    ·rw[hz];show ea9 Stp.next Stp.exit Stp.fail _ _=_;simp only[ea9,i6,l4,Qlb,e1,rd1,hw1,hw2,hw3,hw4,hw5,hw6,ee2,f0,B6,q11];rw[btD (by omega),hn]
     rfl
    ·rw[h1];show fa0 Stp.next Stp.exit Stp.fail _ _=_;simp only[fa0,i6,l4,Qlb,e1,rd1,hw1,hw2,hw3,hw4,hw5,hw6,ee2,f0,B6,q11];rw[btD (by omega),bt (Dd5 _ (by omega))]
   show Nx (ca1 ⟨(n:Int),false,h,nm,u',v',nm2⟩ ⟨phL O,is9,(j:Int),lI,ih,O.length,cpR O⟩) _ _;rw[hst];exact .nx ⟨_,rfl,_,fin⟩
  |true =>
   have hl:((O++[bx is9 0 0 (is9+(1+v)) 3 h])++[bx is9 3 0 (is9+(1+v)) 6 h]).length=ue6 true*(j+1):=by rw[Qla,Qla,h10];unfold ue6;simp;omega
   have fin:RPa n true h lI (j+1) ⟨phL ((O++[bx is9 0 0 (is9+(1+v)) 3 h])++[bx is9 3 0 (is9+(1+v)) 6 h]),is9+(1+v),((j+1:Nat):Int),lI,d',((O++[bx is9 0 0 (is9+(1+v)) 3 h])++[bx is9 3 0 (is9+(1+v)) 6 h]).length,cpR ((O++[bx is9 0 0 (is9+(1+v)) 3 h])++[bx is9 3 0 (is9+(1+v)) 6 h])⟩ ((O++[bx is9 0 0 (is9+(1+v)) 3 h])++[bx is9 3 0 (is9+(1+v)) 6 h]) :=
    ⟨hj,rfl,hr2,by show -6<=is9+(1+v)/\is9+(1+v)<=-4+4*((j+1:Nat):Int);omega,rfl,rfl,by show 0<=d'/\d'<=100+((j+1:Nat):Int);omega,rfl,rfl,hl⟩
   have hst:ca1 ⟨(n:Int),true,h,nm,u',v',nm2⟩ ⟨phL O,is9,(j:Int),lI,ih,O.length,cpR O⟩=.next ⟨phL ((O++[bx is9 0 0 (is9+(1+v)) 3 h])++[bx is9 3 0 (is9+(1+v)) 6 h]),is9+(1+v),((j+1:Nat):Int),lI,d',((O++[bx is9 0 0 (is9+(1+v)) 3 h])++[bx is9 3 0 (is9+(1+v)) 6 h]).length,cpR ((O++[bx is9 0 0 (is9+(1+v)) 3 h])++[bx is9 3 0 (is9+(1+v)) 6 h])⟩:=by
    rw[fc5,Qla,Qla,List.length_singleton,List.length_singleton,<- Ac9,<- Ac9]
    rcases na8 O with⟨hz,hn⟩|h1
    ·rw[hz];show ea9 Stp.next Stp.exit Stp.fail _ _=_;simp only[ea9,i6,l4,Qlb,e1,rd1,hw1,hw2,hw3,hw4,hw5,hw6,ee2,f0,B6,q11];rw[btD (by omega),hn]
     rfl
    ·rw[h1];show fa0 Stp.next Stp.exit Stp.fail _ _=_;simp only[fa0,i6,l4,Qlb,e1,rd1,hw1,hw2,hw3,hw4,hw5,hw6,ee2,f0,B6,q11];rw[btD (by omega),bt (Dd5 _ (by omega)),bt]
     rw[Ac9]
     have:=Dd5 (O++[bx is9 0 0 (is9+(1+v)) 3 h]) (by rw[Qla];simp;omega)
     rw[Qla,List.length_singleton] at this;exact this
   show Nx (ca1 ⟨(n:Int),true,h,nm,u',v',nm2⟩ ⟨phL O,is9,(j:Int),lI,ih,O.length,cpR O⟩) _ _;rw[hst];exact .nx ⟨_,rfl,_,fin⟩
 ·obtain⟨O,hi⟩:=hi;have hje:j=n:=by have:=hi.le;omega
  subst hje;have hi':=hi;obtain⟨_,h2,h3,h4,h5,h6,h7,h8,h9,h10⟩:=hi;obtain⟨ph,is9,s8,lI,ih,nh,eh⟩:=s
  simp only at h2 h3 h4 h5 h6 h7 h8 h9 h10
  subst h2 h5 h6 h8 h9
  rcases na8 O with⟨hz,hn⟩|h1
  ·refine⟨1,?_,O,by rw[hz],hi'⟩
   rw[hz];show ea9 Stp.next Stp.exit Stp.fail _ _=_;simp only[ea9];rw[bfD (B8 (Qlg _))]
  ·refine⟨2,?_,O,by rw[h1],hi'⟩
   rw[h1];show fa0 Stp.next Stp.exit Stp.fail _ _=_;simp only[fa0];rw[bfD (B8 (Qlg _))]
structure RPw(n:Nat)(u:List Int)(E:List (List c7))(j:Nat)(s:A1)(V:List Int):Prop where
 le:j<=n
 ph:s.ph=if j=0 then 1 else 2
 ix:s.La7=(j:Int)
 u:s.D9=u
 d:0<=s.W7/\s.W7<=(j:Int)
 e3:s.eh3=E
 n:s.Ca6=j
 e4:s.eh4=bL tI V
 l:V.length=j
 o:∀v∈V,v=1\/v=2\/v=3
theorem Ed9{n:Nat}{u:List Int}{E:List (List c7)}{nm nm2:ByteArray}(hn:1<=n/\n<=1000) :
  ∃s V,lp (ma0 ⟨nm,nm2,n⟩) ⟨1,0,u,0,E,0,[]⟩=(3,s)/\RPw n u E n s V:=by
 suffices key:∃tt s,lp (ma0 ⟨nm,nm2,n⟩) ⟨1,0,u,0,E,0,[]⟩=(tt,s)/\∃V,tt=3/\RPw n u E n s V by
  obtain⟨tt,s,h1,V,h2,h3⟩:=key;exact⟨s,V,by rw[h1,h2],h3⟩
 refine Oa4 (step:=ma0 ⟨nm,nm2,n⟩) (mk:=λ_ (s:A1)=>s) n (λj s=>∃V,RPw n u E j s V) (λtt s=>∃V,tt=3/\RPw n u E n s V) (by omega)
  (λj s hj hi=>?_) (λj s hj hi=>?_) 0 ⟨1,0,u,0,E,0,[]⟩ ⟨[],⟨Qlv _,rfl,rfl,rfl,⟨Int.le_refl _,Int.le_refl _⟩,rfl,rfl,rfl,rfl,by simp⟩⟩
 ·obtain⟨V,hi⟩:=hi;obtain⟨_,h2,h3,h4,⟨h5,h5'⟩,h6,h7,h8,h9,h10⟩:=hi;obtain⟨ph,is,lI,ih,e3,nh,e4⟩:=s
  simp only at h2 h3 h4 h5 h5' h6 h7 h8 h9 h10
  subst h2 h3 h4 h6 h7 h8;obtain⟨v,d',w1,w2,w3,w4,w5⟩:=Db5 4 lI ih h5 (by omega) (by decide) (by decide)
  have hw1:W ((nh:Int)+1)=((nh+1:Nat):Int):=u7 hj (by omega)
  have q11:Nat.beq 1 1=true:=rfl;obtain⟨m,rfl⟩:∃m:Nat,v=(m:Int):=⟨v.toNat,by omega⟩
  have hm:m<4:=by omega
  have hin:inB (m:Int) 4=true:=g8 hm;have hrow:∃k:Int,d9 [[i 2],[i 1],[i 3],[i 2]] (0+m)=[i k]/\(k=1\/k=2\/k=3):=by
   match m,hm with
   |0,_=>exact⟨2,rfl,by simp⟩
   |1,_=>exact⟨1,rfl,by simp⟩
   |2,_=>exact⟨3,rfl,by simp⟩
   |3,_=>exact⟨2,rfl,by simp⟩
  obtain⟨k,hk,hko⟩:=hrow;have g:((Nat.ble 1 (len [i k]))&&(Na9 [CK.int .i64] [i k]))=true:=rfl;have t:toI (hdA [i k])=k:=rfl;have fin:RPw n lI e3 (nh+1) ⟨2,((nh+1:Nat):Int),lI,d',e3,nh+1,bL tI (V++[k])⟩ (V++[k]) :=
   ⟨hj,by rw[if_neg (by omega)],rfl,rfl,by show 0<=d'/\d'<=((nh+1:Nat):Int);omega,rfl,rfl,rfl,by rw[Qla,h9];rfl,λx hx=>by
    rcases Qle.1 hx with hx|hx
    ·exact h10 x hx
    ·rw[Qlc.1 hx];exact hko⟩
  have hst:ma0 ⟨nm,nm2,n⟩ ⟨if nh=0 then 1 else 2,(nh:Int),lI,ih,e3,nh,bL tI V⟩=.next ⟨2,((nh+1:Nat):Int),lI,d',e3,nh+1,bL tI (V++[k])⟩:=by
   by_cases h0:nh=0
   ·rw[if_pos h0];have hV:V=[]:=List.length_eq_zero_iff.1 (by omega)
    show Ua2 Stp.next Stp.exit Stp.fail _ _=_;simp only[Ua2,i6,l4,Qlb,w1,Int.toNat_natCast,hk,hin,g,t,hw1,f0,q11];rw[btD (n7 hj),hV,h0];rfl
   ·rw[if_neg h0];show va1 Stp.next Stp.exit Stp.fail _ _=_;simp only[va1,i6,l4,Qlb,w1,Int.toNat_natCast,hk,hin,g,t,hw1,f0,q11];rw[btD (n7 hj),bt,show app (bL tI V) [[i k]]=bL tI (V++[k]) from ob4 tI V [k]]
    rw[ja7,h9,Nat.beq_refl,Qlt,Nat.ble_eq];unfold room;omega
  show Nx (ma0 ⟨nm,nm2,n⟩ ⟨if nh=0 then 1 else 2,(nh:Int),lI,ih,e3,nh,bL tI V⟩) _ _
  rw[hst];exact .nx ⟨_,rfl,_,fin⟩
 ·obtain⟨V,hi⟩:=hi;have hje:j=n:=by have:=hi.le;omega
  subst hje;refine⟨3,?_,V,rfl,hi⟩;obtain⟨_,h2,h3,h4,h5,h6,h7,h8,h9,h10⟩:=hi;obtain⟨ph,is,lI,ih,e3,nh,e4⟩:=s
  simp only at h2 h3 h4 h5 h6 h7 h8 h9 h10
  subst h2 h3 h4 h6 h7 h8;rw[if_neg (by omega)]
  show va1 Stp.next Stp.exit Stp.fail _ _=_;simp only[va1];rw[bfD (B8 (Qlg _))]
theorem Uf3{nm:ByteArray}{c w:c7}{cl:LPq}{wt:List Int}(h2:CR tLq c cl)(h3:CR tI w wt):(one r1J).rd (.agg [.v (.string nm),c,w],[])=some ⟨nm,cl,wt⟩:=by
 show Option.rec (motive:=λ_=>Option Prt) none (λp=>Bool.rec (motive:=λ_=>Option Prt) none (some (tJ.rd p)) (tJ.ok p)) ((freezeCells [] [.v (.string nm),c,w]).map (·.1))=_
 rw[fz3 (show freezeCell [] (.v (.string nm))=some (.v (.string nm),[]) from rfl) h2.fz h3.fz]
 show Bool.rec (motive:=λ_=>Option Prt) none (some (tJ.rd [.v (.string nm),c,w])) (Bool.and (tMq.ok [c]) (Bool.and ((tLs tI).ok [w]) true))=_
 rw[h2.ok,h3.ok];show some (Prt.mk nm (rL tLq c) (rL tI w))=_;rw[h2.rd,h3.rd]
theorem CR.cp(l:LPq){n:Nat}(h:n=l.length):CR tLq (.tree 1 n (λk=>d9 (cpR l) (0+k))) l:=by
 subst h;exact .tree tLq (de0 l).2 (de0 l).1
theorem pf0{v:List Int}{O:LPq}{s:A1}{V:List Int}(hm:Mcl O)(h:RPw O.length v (cpR O) O.length s V) :
  Rd (one r1J) (some ((.agg [(.v (.string ⟨#[112]⟩)),(.tree 1 O.length (λk=>d9 s.eh3 (0+k))),(.tree 1 s.Ca6 (λk=>d9 s.eh4 (0+k)))]),[])) Mp:=by
 rw[h.e3,h.e4];exact⟨_,_,rfl,Uf3 (.cp O rfl) (.bL tI V (by rw[h.n,h.l])),hm,h.l,h.o⟩
theorem Ef4(c:PLq):o7 (toG (cpA c)) (List.range (toN (cpA c)))=bL tP c:=by
 show o7 (λk=>d9 (bL tP c) k) (List.range c.length)=bL tP c
 conv=>rhs;rw[<- Pc3]
 rw[l9,l9];exact Qls λk hk=>fa9 tP (Qld.1 hk)
theorem Oe0(c:PLq)(p:Pln):app (bL tP c) [[i p.n.x,i p.n.y,i p.n.z,i p.b]]=bL tP (c++[p]):=ob4 tP c [p]
theorem Uf4(l:LPq)(k:Nat)(c:PLq):setAt (cpR l) k [cpA c]=cpR (l.set k c):=by
 unfold cpR;exact ud4 (λc=>[cpA c]) l k c
theorem ue7{n:Nat}{t:Bool}{h:Int}{u:List Int}{s:N9}{O:LPq}(x:L2)(r:RPa n t h u n s O)(hn:n<=4)(hh:2<=h/\h<=4)(h1:2<=O.length)(h2:O.length<=6):Rd (one r1J) (Ne6 x (2,s)) Mp:=by
 obtain⟨_,_,hr,hx,_,_,hd,hnh,he,_⟩:=r;obtain⟨ph,is9,s8,lI,ih,nh,eh⟩:=s
 simp only at hr hx hd hnh he
 subst hnh he;have hm:Mcl O:=hr.mcl hh (by omega) h1 h2
 obtain⟨v6,d6,e6,p6,q6,r6,_⟩:=Db5 4 lI ih hd.1 (by omega) (by decide) (by decide)
 obtain⟨vk,dk,ek,pk,qk,rk,_⟩:=Db5 (O.length:Int) lI d6 (by omega) (by omega) (by omega) (by omega)
 obtain⟨vb,db,eb,pb,qb,rb,_⟩:=Db5 4 lI dk (by omega) (by omega) (by decide) (by decide)
 obtain⟨s1,V,hw,hW⟩:=Ed9 (u:=x.v) (E:=cpR O) (nm:=⟨#[]⟩) (nm2:=⟨#[112]⟩) (n:=O.length) ⟨by omega,by omega⟩
 have F:=pf0 hm hW;have q11:Nat.beq 1 1=true:=rfl;have q21:Nat.beq 2 1=false:=rfl;have q22:Nat.beq 2 2=true:=rfl;have q31:Nat.beq 3 1=false:=rfl;have q32:Nat.beq 3 2=false:=rfl;have q33:Nat.beq 3 3=true:=rfl;unfold Ne6;simp only[i6,l4,Qlb,q11,q21,q22,f0,B6,e6];refine Rd.sl (λ_=>?_) (λ_=>?_)
 ·refine Rd.sl (λh6=>?_) (λ_=>?_)
  ·have h6:(O.length:Int)<6:=by simpa using h6
   obtain⟨k,rfl⟩:∃k:Nat,vk=(k:Int):=⟨vk.toNat,by omega⟩
   have hk:k<O.length:=by omega
   have hw3:W (2+vb)=2+vb:=Ka7 (by omega) (by omega)
   have hmem:=N7 tLq hk;have hl6:(gL tLq O k).length=6:=by
    obtain⟨a,c,y,h0,_⟩:=hr.c _ hmem;rw[h0,ce7]
   have hp:okp ⟨⟨0,1,1⟩,2+vb⟩=true:=of7 (by decide) (by decide) (by omega) (by omega)
   have hfl:Jb5 ⟨⟨0,1,1⟩,2+vb⟩=V0 ⟨⟨0,1,1⟩,2+vb⟩:=lf9 (ad8 hp);have hrow:d9 (cpR O) k=[cpA (gL tLq O k)]:=ce9 hk;have hd0:hdA (j7 [cpA (gL tLq O k)] 0)=cpA (gL tLq O k):=rfl;have hck:Na9 [CK.sl 4] (j7 [cpA (gL tLq O k)] 0)=true:=rfl;have hbl:Nat.blt k (len (cpR O))=true:=by rw[Ne1,Nat.blt_eq];exact hk
   have hle1:Nat.ble (0+1) (len [cpA (gL tLq O k)])=true:=rfl;have hrm:∀m:Nat,m<=100->Nat.ble (m*32) room=true:=λm hm=>by rw[Nat.ble_eq];unfold room;omega
   have a1:app (bL tP (gL tLq O k)) [[i 0,i 1,i 1,i (2+vb)]]=bL tP (gL tLq O k++[⟨⟨0,1,1⟩,2+vb⟩]):=Oe0 _ ⟨⟨0,1,1⟩,2+vb⟩;have a2:app (bL tP (gL tLq O k)) [[i (V0 ⟨⟨0,1,1⟩,2+vb⟩).n.x,i (V0 ⟨⟨0,1,1⟩,2+vb⟩).n.y,i (V0 ⟨⟨0,1,1⟩,2+vb⟩).n.z,i (V0 ⟨⟨0,1,1⟩,2+vb⟩).b]]=bL tP (gL tLq O k++[V0 ⟨⟨0,1,1⟩,2+vb⟩]):=Oe0 _ _;have L1:∀p:Pln,(gL tLq O k).length+1=(gL tLq O k++[p]).length:=λp=>by rw[Qla];rfl
   have s1':∀p:Pln,slR tP (bL tP (gL tLq O k++[p])) 0 ((gL tLq O k).length+1)=gL tLq O k++[p]:=λp=>by rw[L1 p];exact Ic5 tP _
   have s2':∀p:Pln,okS tP (bL tP (gL tLq O k++[p])) 0 ((gL tLq O k).length+1)=true:=λp=>by rw[L1 p];exact Ic6 tP _
   have c1:∀p:Pln,c7.tree 4 ((gL tLq O k).length+1) (λj=>d9 (bL tP (gL tLq O k++[p])) (0+j))=cpA (gL tLq O k++[p]):=λp=>by rw[L1 p];exact de1 _
   have f1:=Ke3 (c:=gL tLq O k++[⟨⟨0,1,1⟩,2+vb⟩]) (by rw[Qla,hl6];simp)
   have f2:=Ke4 (c:=gL tLq O k++[⟨⟨0,1,1⟩,2+vb⟩]) (by rw[Qla,hl6];simp)
   have f3:=Ke3 (c:=gL tLq O k++[V0 ⟨⟨0,1,1⟩,2+vb⟩]) (by rw[Qla,hl6];simp)
   have f4:=Ke4 (c:=gL tLq O k++[V0 ⟨⟨0,1,1⟩,2+vb⟩]) (by rw[Qla,hl6];simp)
   have sp:∀y:c7,T1 [cpA (gL tLq O k)] 0 [y]=[y]:=λy=>rfl
   have hin:inB (k:Int) O.length=true:=g8 hk;simp only[ek,eb,q11,f0,Int.toNat_natCast,Qlr,hrow,hd0,hck,hin,hw3,hfl,Ef4,Dd6,a1,a2,ja7,Nat.beq_refl,hbl,show Nat.ble 1 (len [cpA (gL tLq O k)])=true from rfl,Qlb]
   simp only[Qlr] at c1;simp only[hrm _ (show (gL tLq O k).length<=100 by omega),hrm _ (show (gL tLq O k).length+1<=100 by omega),s1',s2',c1,f1,f2,f3,f4,sp,Uf4,Ac9,f0,Qlb]
   refine Rd.sl (λg1=>?_) (λ_=>?_)
   ·refine Rd.sl (λg2=>?_) (λ_=>?_)
    ·have m2:=hm.cut (by omega) (λq hq=>by obtain⟨a,c,y,h0,_⟩:=hr.c _ hq;rw[h0,ce7]) hp hk g1 g2
     have e1:O.length+1=(O.set k (gL tLq O k++[⟨⟨0,1,1⟩,2+vb⟩])++[gL tLq O k++[V0 ⟨⟨0,1,1⟩,2+vb⟩]]).length:=by rw[Qla,Qlh];rfl
     obtain⟨s3,V3,hw3,hW3⟩:=Ed9 (u:=x.v) (E:=cpR (O.set k (gL tLq O k++[⟨⟨0,1,1⟩,2+vb⟩])++[gL tLq O k++[V0 ⟨⟨0,1,1⟩,2+vb⟩]])) (nm:=⟨#[]⟩) (nm2:=⟨#[112]⟩) (n:=(O.set k (gL tLq O k++[⟨⟨0,1,1⟩,2+vb⟩])++[gL tLq O k++[V0 ⟨⟨0,1,1⟩,2+vb⟩]]).length) ⟨by omega,by omega⟩
     have F3:=pf0 m2 hW3;have hroom:(Nat.beq O.length (len (cpR (O.set k (gL tLq O k++[⟨⟨0,1,1⟩,2+vb⟩]))))&&Nat.ble ((O.length+1)*24) room)=true:=by
      have:=Dd5 (O.set k (gL tLq O k++[⟨⟨0,1,1⟩,2+vb⟩])) (by rw[Qlh];omega)
      rw[Qlh] at this;exact this
     rw[hroom,e1,hw3];simp only[Qlr] at F3;exact F3
    ·rw[hw];simp only[Qlr] at F;exact F
   ·rw[hw];simp only[Qlr] at F;exact F
  ·rw[hw];exact F
 ·rw[hw];exact F
theorem Oe1(x:L2):Rd (one r1J) (Lb5 x) Mp:=by
 obtain⟨v1,d1,e1,p1,q1,r1,r1'⟩:=Db5 3 x.u 0 (by decide) (by decide) (by decide) (by decide)
 obtain⟨v2,d2,e2,p2,q2,r2,r2'⟩:=Db5 3 x.u d1 (by omega) (by omega) (by decide) (by decide)
 obtain⟨v3,d3,e3,p3,q3,r3,r3'⟩:=Db5 3 x.u d2 (by omega) (by omega) (by decide) (by decide)
 obtain⟨v4,d4,e4,p4,q4,r4,r4'⟩:=Db5 3 x.u d3 (by omega) (by omega) (by decide) (by decide)
 obtain⟨n,hn⟩:∃n:Nat,2+v1=(n:Int):=⟨(2+v1).toNat,by omega⟩
 have w1:W (2+v1)=(n:Int):=by rw[Ka7 (by omega) (by omega)];exact hn
 have w4:W (2+v4)=2+v4:=Ka7 (by omega) (by omega)
 have w3:W (-6+v3)=-6+v3:=Ka7 (by omega) (by omega)
 have q11:Nat.beq 1 1=true:=rfl;unfold Lb5;simp only[i6,l4,Qlb,f0,e1,e2,e3,e4,w1,w3,w4,q11];refine Rd.sl (λ_=>?_) (λ_=>?_)
 ·obtain⟨s,O,h1,h2⟩:=Ed8 (n:=n) (t:=decide ((n:Int)<4)) (h:=2+v4) (nm:=⟨#[]⟩) (nm2:=⟨#[112]⟩) (u:=x.u) (u':=x.u) (v':=x.v) (x:=-6+v3) (d:=d4) (by omega) (by omega) (by omega) (by omega)
  have hl:=h2.l;have h3:2<=O.length/\O.length<=6:=by
   rw[hl];unfold ue6;by_cases h4:(n:Int)<4
   ·rw[decide_eq_true h4,if_pos rfl];omega
   ·rw[decide_eq_false h4,if_neg (by decide)];omega
  rcases na8 O with⟨_,h0⟩|h0
  ·rw[h0] at h3;simp at h3
  ·rw[h1,h0];exact ue7 x h2 (by omega) (by omega) h3.1 h3.2
 ·obtain⟨s,O,h1,h2⟩:=Ed8 (n:=n) (t:=false) (h:=2+v4) (nm:=⟨#[]⟩) (nm2:=⟨#[112]⟩) (u:=x.u) (u':=x.u) (v':=x.v) (x:=-6+v3) (d:=d4) (by omega) (by omega) (by omega) (by omega)
  have hl:=h2.l;have h3:2<=O.length/\O.length<=6:=by
   rw[hl];unfold ue6;rw[if_neg (by decide)]
   omega
  rcases na8 O with⟨_,h0⟩|h0
  ·rw[h0] at h3;simp at h3
  ·rw[h1,h0];exact ue7 x h2 (by omega) (by omega) h3.1 h3.2
theorem Uf5(x:L2):Mp (gc8 x):=(Oe1 x).p
theorem Uf6(x:L2):Lc7 x=true:=(Oe1 x).g
theorem Fd0{c:PLq}(hf:ful c=true):apart c c=false:=by
 obtain⟨hc,x,hx⟩:=Z0.1 hf;cases h:apart c c with
 |false=>rfl
 |true=>exact ((Va8 hc hc).1 h x hx hx).elim
open Classical in
theorem Ef5{c:PLq}(hf:ful c=true)(hl:c.length<=12):ia6 [c] c=(true,0):=by
 have hc:=(Z0.1 hf).1;obtain⟨r,hm,_⟩:=Rd8 (c:=c) (s:=[c]) (by omega) (by simp) (λq hq=>by rw[Qlc.1 hq];exact hl)
 rw[(Cd6 hc (ce6 (by simp) (by simpa using hc)) hm).1,decide_eq_true (Fe5 (by simp))]
open Classical in
theorem pf1{c:PLq}(hf:ful c=true)(hl:c.length<=12):ia6 [] c=(false,0):=by
 obtain⟨hc,x,hx⟩:=Z0.1 hf;obtain⟨r,hm,_⟩:=Rd8 (c:=c) (s:=[]) (by omega) (by simp) (by simp)
 rw[(Cd6 hc (ce6 (by simp) (by simp)) hm).1,decide_eq_false]
 intro h;obtain⟨q,hq,_⟩:=h hf x hx.inr;cases hq
theorem Mcl.ap{l:LPq}(m:Mcl l){j k:Nat}(hj:j<l.length)(hk:k<l.length):apart (gL tLq l j) (gL tLq l k)=!(j==k):=by
 rcases Nat.lt_trichotomy j k with h|h|h
 ·rw[m.p j k h hk,show (j==k)=false by simp;omega];rfl
 ·subst h;rw[Fd0 (m.f _ (N7 tLq hj)),show (j==j)=true by simp];rfl
 ·rw[Kb7,m.p k j h hj,show (j==k)=false by simp;omega];rfl
def wc6(n:Nat)(f:Nat->Bool)(D:LPq):Pce:=⟨(List.range n).map f,(List.range n).map f,D⟩
theorem Vc8(x:Prt):te5 x=wc6 x.cl.length (λ_=>false) []:=by
 unfold te5 wc6;congr 1
 ·refine List.ext_getElem (by simp) λk h1 h2=>by simp
 ·refine List.ext_getElem (by simp) λk h1 h2=>by simp
structure od4(l:LPq)(f:Nat->Bool)(D:LPq):Prop where
 n:D.length<=20
 d:∀q∈D,∃i,i<l.length/\f i=true/\q=gL tLq l i
theorem Oe2{s:LPq}(h:∀q∈s,chk q=0):Cc4 s=0:=by
 unfold Cc4;rw[List.find?_eq_none.2 λq hq=>by rw[h q hq];decide]
theorem Mcl.chk0{l:LPq}(m:Mcl l){q:PLq}(h:q∈l):chk q=0:=beq_iff_eq.1 (Z0.1 (m.f q h)).1
theorem od4.chk0{l:LPq}{f:Nat->Bool}{D:LPq}(m:Mcl l)(h:od4 l f D):∀q∈D,chk q=0:=λq hq=>by
 obtain⟨i,hi,_,rfl⟩:=h.d q hq;exact m.chk0 (N7 tLq hi)
theorem ee3{x:Prt}(m:Mp x){f:Nat->Bool}{D:LPq}(h:od4 x.cl f D):Eb3 x (wc6 x.cl.length f D)=0:=by
 unfold Eb3 te3 wc6;rw[m.chk];have hn:=h.n;simp only[Qln,Qlo,beq_self_eq_true,Oe2 (h.chk0 m.c),Qlt];rw[decide_eq_true (show (D.length:Int)<=24 by omega)]
 rfl
theorem Rb1{x:Prt}(m:Mp x){f:Nat->Bool}{D:LPq}(h:od4 x.cl f D):Pok (wc6 x.cl.length f D):=by
 have h2:=m.c.n2;have hn:=h.n;refine⟨?_,?_,?_,λq hq=>?_⟩
 ·show ((List.range x.cl.length).map f).length<=_;simp;omega
 ·show ((List.range x.cl.length).map f).length<=_;simp;omega
 ·show D.length<=_;omega
 ·obtain⟨i,hi,_,rfl⟩:=h.d q hq
  have:=(m.c.k _ (N7 tLq hi)).2
  omega
theorem Oe3{x:Prt}(m:Mp x){f:Nat->Bool}{D:LPq}(h:od4 x.cl f D):∀q∈D,q≠[]:=λq hq=>by
 obtain⟨i,hi,_,rfl⟩:=h.d q hq;exact m.ne _ (N7 tLq hi)
theorem Ef6{x:Prt}(m:Mp x){f:Nat->Bool}{D:LPq}(h:od4 x.cl f D){k:Nat}(hk:k<x.cl.length) :
  Lb1 x (wc6 x.cl.length f D) [gL tLq x.cl k] []=(wc6 x.cl.length (λi=>f i||i==k) (D++[gL tLq x.cl k]),0):=by
 have hmk:=N7 tLq hk;have hsu:∀i,i<x.cl.length->suJ (D++[gL tLq x.cl k]) x.cl ((List.range x.cl.length).map f) i=(f i||i==k,0):=λi hi=>by
  have hmi:=N7 tLq hi;unfold suJ;rw[dd8 tB _ _ hi];cases hf:f i with
  |true=>rw[if_pos rfl];rfl
  |false =>
   rw[if_neg (show ¬ false=true by decide)]
   have hD:Z2 D (gL tLq x.cl i)=[]:=by
    unfold Z2;rw[Qlw];intro q hq;obtain⟨i',hi',hf',rfl⟩:=h.d q hq;rw[m.c.ap hi' hi,show (i'==i)=false by simp;intro e;rw[e,hf] at hf';cases hf']
    decide
   have hm:Z2 (D++[gL tLq x.cl k]) (gL tLq x.cl i)=if (i==k)=true then [gL tLq x.cl k] else []:=by
    unfold Z2 at *
    rw[Qlz,hD,List.nil_append,List.filter_cons,m.c.ap hk hi];by_cases e:i=k
    ·subst e;simp
    ·rw[show (k==i)=false by simp;omega,show (i==k)=false by simp;omega]
     rfl
   rw[hm];cases e:(i==k) with
   |true =>
    have e:i=k:=by simpa using e
    subst e;rw[if_pos rfl,Ef5 (m.c.f _ hmi) (by have:=(m.c.k _ hmi).2;omega)]
    rfl
   |false =>
    rw[if_neg (by decide),pf1 (m.c.f _ hmi) (by have:=(m.c.k _ hmi).2;omega)]
    rfl
 have hto:∀i,i<x.cl.length->toJ [gL tLq x.cl k] [] x.cl ((List.range x.cl.length).map f) i=(f i||i==k):=λi hi=>by
  unfold toJ Wa0;rw[dd8 tB _ _ hi,List.any_cons,List.any_nil,m.c.ap hi hk];cases f i<;>cases i==k<;>rfl
 unfold Lb1;rw[ee3 m h,if_neg (by decide),List.append_nil,Oe2 (s:=[gL tLq x.cl k]) (λq hq=>by rw[Qlc.1 hq];exact m.c.chk0 hmk),if_neg (by decide),if_neg (by
  show ¬ ((D.length:Nat):Int)+(([gL tLq x.cl k].length:Nat):Int)>24
  have:=h.n
  simp
  omega)]
 unfold jd3;show (match (List.range x.cl.length).find? λj=>(suJ (D++[gL tLq x.cl k]) x.cl ((List.range x.cl.length).map f) j).2 != 0 with
  |some j=>(vc1,(suJ (D++[gL tLq x.cl k]) x.cl ((List.range x.cl.length).map f) j).2)
  |none=>((⟨(List.range x.cl.length).map λi=>(suJ (D++[gL tLq x.cl k]) x.cl ((List.range x.cl.length).map f) i).1,(List.range x.cl.length).map (toJ [gL tLq x.cl k] [] x.cl ((List.range x.cl.length).map f)),D++[gL tLq x.cl k]⟩:Pce),(0:Int)))=_
 have g1:(List.range x.cl.length).map (λi=>(suJ (D++[gL tLq x.cl k]) x.cl ((List.range x.cl.length).map f) i).1)=(List.range x.cl.length).map (λi=>f i||i==k):=Qls λi hi=>by rw[hsu i (Qld.1 hi)]
 have g2:(List.range x.cl.length).map (toJ [gL tLq x.cl k] [] x.cl ((List.range x.cl.length).map f))=(List.range x.cl.length).map (λi=>f i||i==k):=Qls λi hi=>hto i (Qld.1 hi)
 rw[List.find?_eq_none.2 λi hi=>by rw[hsu i (Qld.1 hi)];simp,g1,g2]
 rfl
theorem pf2{x:Prt}{f:Nat->Bool}{D:LPq}(h:od4 x.cl f D)(hn:D.length<=19){k:Nat}(hk:k<x.cl.length):od4 x.cl (λi=>f i||i==k) (D++[gL tLq x.cl k]) :=
 ⟨by rw[Qla];simp;omega,λq hq=>by
  rcases Qle.1 hq with hq|hq
  ·obtain⟨i,hi,hf,e⟩:=h.d q hq;exact⟨i,hi,by rw[hf];rfl,e⟩
  ·exact⟨k,hk,by simp,Qlc.1 hq⟩⟩
theorem ue8(l:LPq)(f:Nat->Bool):od4 l f []:=⟨by simp,λq hq=>by cases hq⟩
theorem Sd8{x:Prt}(m:Mp x){f:Nat->Bool}{D:LPq}(h:od4 x.cl f D){k:Nat}(hk:k<x.cl.length) :
  la8 x (wc6 x.cl.length f D) [gL tLq x.cl k] []=(wc6 x.cl.length (λi=>f i||i==k) (D++[gL tLq x.cl k]),0)/\la9 x (wc6 x.cl.length f D) [gL tLq x.cl k] []=true:=by
 have hmk:=N7 tLq hk;have a1:∀q∈[gL tLq x.cl k],q.length<=1000000:=λq hq=>by rw[Qlc.1 hq];have:=(m.c.k _ hmk).2;omega
 have a2:∀q∈[gL tLq x.cl k],q≠[]:=λq hq=>by rw[Qlc.1 hq];exact m.ne _ hmk
 refine⟨?_,Vc3 m.jok (Rb1 m h) (by simp) (by simp) a1 Ed6 (Oe3 m h) a2⟩
 rw[Vc2 m.jok (Rb1 m h) (by simp) (by simp) a1 Ed6 (Oe3 m h) a2,Ef6 m h hk]
theorem ue9{x:Prt}(m:Mp x){f:Nat->Bool}{D:LPq}(h:od4 x.cl f D):Ed1 x (wc6 x.cl.length f D)=((List.range x.cl.length).filter λk=>!f k).map (gL tLq x.cl):=by
 unfold Ed1;rw[ee3 m h,if_neg (by decide)]
 unfold oa0;congr 1;refine List.filter_congr λk hk=>?_
 show (!gL tB ((List.range x.cl.length).map f) k)=_;rw[dd8 tB _ _ (Qld.1 hk)]
theorem Sd9{n k:Nat}(hk:k<n):((List.range n).filter λi=>!(i==k)).length=n-1:=by
 have h:=List.Nodup.erase_eq_filter (List.nodup_range (n:=n)) k;have h2:=congrArg List.length h;rw[List.length_erase_of_mem (Qld.2 hk),Qlo] at h2;exact h2.symm
def eb2:List (Nat×Sum):=[(9,wc5),(31,Ed4),(15,uc1),(19,Vb1),(25,gc3),(22,Ab6)]
theorem Dc4:i9 prog G eb2:=⟨od3,ue2,Tc6,vc0,Gc4,Zb8,trivial⟩
structure qa4 where
 bs5:Bool
 (is7 ve2:Int)
 I7:ByteArray
 n5:LPq
 w6:List Int
 (ka7 ka8:List Bool)
 o5:LPq
structure K1 where
 Kd6:Int
def wb5(p:qa4)(s:K1):St:=⟨ra 5 (b p.bs5::.ptr 0 0 0 0::i p.is7::.ptr 1 0 0 0::ra 54 (i p.ve2::i s.Kd6::ra 82 [])),[⟨0,3,[[.v (.string p.I7),eL tLq p.n5,eL tI p.w6]],true,false,0⟩,⟨0,3,[[eL tB p.ka7,eL tB p.ka8,eL tLq p.o5]],true,false,0⟩]⟩
def ja4{α:Type}(k:K1->α)(e:Nat->α)(z:α)(p:qa4)(s:K1):α:=(sl (decide (s.Kd6<p.ve2)) (sl (inB s.Kd6 (List.length p.ka7)) (sl (!((gL tB p.ka7 s.Kd6.toNat)==(s.Kd6==p.is7))) (e 1) (sl (inB s.Kd6 (List.length p.ka8)) (sl (!((gL tB p.ka8 s.Kd6.toNat)==(s.Kd6==p.is7))) (e 1) (k ⟨W (s.Kd6+1)⟩)) z)) z) (e 2))
def ba1(p:qa4)(s:K1):Stp K1:=ja4 .next .exit .fail p s
def Za0:Lo qa4 K1:=⟨En eb2,0,pf8,[1,1,1,1,1,1,0,1,4,4],[5,6,7,8,63,64],.p,[⟨ru2 5 (sBq::sPq 0::sIq::sPq 1::ru2 54 (sIq::sIq::ru2 82 [])),[⟨0,3,true,some [[.o .val,.c 1 (nL tLq),.c 1 (nL tI)]]⟩,⟨0,3,true,some [[.c 1 (nL tB),.c 1 (nL tB),.c 1 (nL tLq)]]⟩],λa H=>(⟨aBq a 5,aIq a 7,aIq a 63,oa2 (slT (rwT (elT H 0) 0) 0),hLq tLq H 0 0 1,hLq tI H 0 0 2,hLq tB H 1 0 0,hLq tB H 1 0 1,hLq tLq H 1 0 2⟩,⟨aIq a 64⟩)⟩],ba1,[(none,λp s=>⟨[b false],[]⟩),(some 0,λp s=>upq (wb5 p s) [(65,b (decide (s.Kd6<p.ve2)))])],wb5⟩
theorem wc7:Za0.Ok:=Lo.ok [] (by kernel_rfl) .nil rfl (.cons (λa H=>by kernel_rfl) .nil) λp s=>(.of @ja4 (λF _ _ _ _ _=>by unfold ja4;(repeat' apply j6 (f:=F))<;>rfl) (by kernel_rfl))
structure qa5 where
 bs5:Bool
 (Ff4 fe0:LPq)
 Vf1:Int
 I7:ByteArray
 n5:LPq
 w6:List Int
structure K2 where
 Ff5:Bool
 Kd7:Int
 (ka7 ka8:List Bool)
 o5:LPq
def wb6(p:qa5)(s:K2):St:=⟨ra 5 (b p.bs5::.ptr 0 0 0 0::ra 4 (eL tLq p.Ff4::.ptr 1 0 0 0::b s.Ff5::ra 80 (eL tLq p.fe0::i p.Vf1::i s.Kd7::ra 50 []))),[⟨0,3,[[.v (.string p.I7),eL tLq p.n5,eL tI p.w6]],true,false,0⟩,⟨0,3,[[eL tB s.ka7,eL tB s.ka8,eL tLq s.o5]],true,false,0⟩]⟩
def ja5{α:Type}(k:K2->α)(e:Nat->α)(z:α)(p:qa5)(s:K2):α:=let y2:=(gL tLq p.fe0 s.Kd7.toNat);let y1:=(⟨p.I7,rt tLq p.n5,rt tI p.w6⟩:Prt);let y0:=(⟨rt tB s.ka7,rt tB s.ka8,rt tLq s.o5⟩:Pce);let t1:=(la8 y1 y0 [rt tP y2] []);(sl (decide (s.Kd7<p.Vf1)) (sl (inB s.Kd7 (List.length p.fe0)) (sl ((okE tLq p.n5)&&((okE tI p.w6)&&true)) (sl ((okE tB s.ka7)&&((okE tB s.ka8)&&((okE tLq s.o5)&&true))) (sl ((okE tP y2)&&true) (sl (la9 y1 y0 [rt tP y2] []) (sl (t1.2 != 0) (e 1) (sl s.Ff5 (k ⟨true,W (s.Kd7+1),t1.1.su,t1.1.to,t1.1.cu⟩) (sl (inB s.Kd7 (List.length p.w6)) (k ⟨(gL tI p.w6 s.Kd7.toNat)==1,W (s.Kd7+1),t1.1.su,t1.1.to,t1.1.cu⟩) z))) z) z) z) z) z) (e 2))
def M5(p:qa5)(s:K2):Stp K2:=ja5 .next .exit .fail p s
def Za1:Lo qa5 K2:=⟨En eb2,0,pf8,[1,1,1,1,1,1,1,1,1,1,0,1,4,4],[5,6,11,12,13,94,95,96],.p,[⟨ru2 5 (sBq::sPq 0::ru2 4 (sLq tLq::sPq 1::sBq::ru2 80 (sLq tLq::sIq::sIq::ru2 50 []))),[⟨0,3,true,some [[.o .val,.c 1 (nL tLq),.c 1 (nL tI)]]⟩,⟨0,3,true,some [[.c 1 (nL tB),.c 1 (nL tB),.c 1 (nL tLq)]]⟩],λa H=>(⟨aBq a 5,aLq tLq a 11,aLq tLq a 94,aIq a 95,oa2 (slT (rwT (elT H 0) 0) 0),hLq tLq H 0 0 1,hLq tI H 0 0 2⟩,⟨aBq a 13,aIq a 96,hLq tB H 1 0 0,hLq tB H 1 0 1,hLq tLq H 1 0 2⟩)⟩],M5,[(none,λp s=>⟨[b false],[]⟩),(some 2,λp s=>upq (wb6 p s) [(97,b (decide (s.Kd7<p.Vf1)))])],wb6⟩
theorem wc8:Za1.Ok:=Lo.ok [] (by kernel_rfl) .nil rfl (.cons (λa H=>by kernel_rfl) .nil) λp s=>(.of @ja5 (λF _ _ _ _ _=>by unfold ja5;(repeat' apply j6 (f:=F))<;>rfl) (by kernel_rfl))
def Aa2(x:LL)(y:Int):ROq:=let y11:=(⟨rt tI x.u,rt tI x.v⟩:L2);let t1:=mb5;let t2:=(gc8 y11);let y8:=((okE tLq t2.cl)&&((okE tI t2.wt)&&true));let y6:=(rt tI (rt tI t2.wt));let y5:=((okE tLq (rt tLq t2.cl))&&((okE tI (rt tI t2.wt))&&true));let y2:=(⟨t2.nm,rt tLq t2.cl,rt tI t2.wt⟩:Prt);let t3:=(fb5 y2);let y7:=(⟨rt tB t3.su,rt tB t3.to,rt tLq t3.cu⟩:Pce);let a0:=(rt tLq (rt tLq t2.cl));let y3:=(⟨t2.nm,a0,y6⟩:Prt);let t7:=(fb5 y3);let a2:=(↑(List.length t2.cl):Int);let y9:=(Int.tmod (W y) a2);let a3:=((okE tLq a0)&&((okE tI y6)&&true));let a4:=(rt tI y6);let y1:=(⟨t2.nm,rt tLq a0,a4⟩:Prt);let a6:=(gL tLq t2.cl y9.toNat);let t4:=(la8 y2 y7 [rt tP a6] []);let y4:=(⟨rt tB (rt tB t4.1.su),rt tB (rt tB t4.1.to),rt tLq (rt tLq t4.1.cu)⟩:Pce);let t5:=(lp (ba1 (⟨t1,y9,a2,t2.nm,rt tLq t2.cl,rt tI t2.wt,rt tB t4.1.su,rt tB t4.1.to,rt tLq t4.1.cu⟩:qa4)) (⟨0⟩:K1));let t6:=(Wa1 y3 y4);let y10:=(↑(List.length (rt tLq t6)):Int);let t8:=(lp (M5 (⟨t1,rt tLq t6,a0,(↑(List.length (rt tLq t2.cl)):Int),t2.nm,a0,y6⟩:qa5)) (⟨false,0,rt tB t7.su,rt tB t7.to,rt tLq t7.cu⟩:K2));let a1:=((okE tB t8.2.ka7)&&((okE tB t8.2.ka8)&&((okE tLq t8.2.o5)&&true)));let a5:=(rt tLq t8.2.o5);let y0:=(⟨rt tB t8.2.ka7,rt tB t8.2.ka8,a5⟩:Pce);let t9:=(Wa1 y1 y0);let t10:=(Z1 y1 y0);(sl mb6 (sl ((okE tI x.u)&&((okE tI x.v)&&true)) (sl (Lc7 y11) (sl (a2==0) none (sl y8 (sl (Sa8 y2) (sl (inB y9 (List.length t2.cl)) (sl y8 (sl ((okE tB t3.su)&&((okE tB t3.to)&&((okE tLq t3.cu)&&true))) (sl ((okE tP a6)&&true) (sl (la9 y2 y7 [rt tP a6] []) (sl (t4.2 != 0) (some (b false,[])) (sl ((↑(List.length t4.1.su):Int) != a2) (some (b false,[])) (sl ((↑(List.length t4.1.to):Int) != a2) (some (b false,[])) (sl ((cnE tLq t2.cl)&&((cnE tI t2.wt)&&((cnE tB t4.1.su)&&((cnE tB t4.1.to)&&((cnE tLq t4.1.cu)&&true))))) (sl (Nat.beq t5.1 1) (some (b false,[])) (sl (Nat.beq t5.1 2) (sl y5 (sl ((okE tB (rt tB t4.1.su))&&((okE tB (rt tB t4.1.to))&&((okE tLq (rt tLq t4.1.cu))&&true))) (sl (Ha8 y3 y4) (sl y5 (sl (Sa8 y3) (sl ((cnE tLq t6)&&((cnE tLq (rt tLq t2.cl))&&((cnE tLq (rt tLq t2.cl))&&((cnE tI (rt tI t2.wt))&&((cnE tB t7.su)&&((cnE tB t7.to)&&((cnE tLq t7.cu)&&true))))))) (sl (Nat.beq t8.1 1) (some (b false,[])) (sl (Nat.beq t8.1 2) (sl t8.2.Ff5 (sl t1 (sl (y10==(W ((↑(List.length a0):Int)-1))) (sl a3 (sl a1 (sl (Ha8 y1 y0) (sl ((↑(List.length t9):Int)==0) (sl a3 (sl a1 (sl (H9 y1 y0) (some (b (t10==35),[])) none) none) none) (some (b false,[]))) none) none) none) (some (b false,[]))) (some (b false,[]))) (sl t1 (sl (y10==(W ((↑(List.length a0):Int)-1))) (sl a3 (sl a1 (sl (Ha8 y1 y0) (sl ((↑(List.length t9):Int)==0) (sl a3 (sl a1 (sl (H9 y1 y0) (some (b (t10==0),[])) none) none) none) (some (b false,[]))) none) none) none) (some (b false,[]))) (some (b false,[])))) none)) none) none) none) none) none) none) none)) none)))) none) none) none) none) none) none) none)) none) none) none)
def Oa6(x:LL)(y:Int):Bool:=ba8 (one r1B) (Aa2 x y)
def Oa7(x:LL)(y:Int):Bool:=okO (one r1B) (Aa2 x y)
def Vc9:Sum:=Aa5 cZ cU (λx y=>.guard (Oa7 x y) (.ret ((one r1B).enc (Oa6 x y),[])))
theorem Lc8:g9 prog G 8 Vc9:=Sb2 (bd b8 Dc4) (one r1B) (o:=Aa2) λx y=>Ia8 (.s .p (.s .p (.s .p (.s .p (.s .p (.s .p (.s (.s .p (.b (.u Za0.ls))) (.s .p (.s .p (.s .p (.s (.s .p (.b (.u Za1.ls))) .p))))))))))) [Za0.pr,Za1.pr] (by kernel_rfl) (.cons wc7 (.cons wc8 .nil)) (by kernel_rfl)
theorem Fe6{n k:Nat}(hn:n<=1000){q:Bool}{nm:ByteArray}{cl:LPq}{wt:List Int}{D:LPq} :
  ∃j,lp (ba1 ⟨q,(k:Int),(n:Int),nm,cl,wt,(List.range n).map (·==k),(List.range n).map (·==k),D⟩) ⟨0⟩=(2,(⟨((j:Nat):Int)⟩:K1)):=by
 obtain⟨j,h⟩:=cd9 (step:=ba1 ⟨q,(k:Int),(n:Int),nm,cl,wt,(List.range n).map (·==k),(List.range n).map (·==k),D⟩) (mk:=λj=>(⟨(j:Int)⟩:K1)) n (λ_=>false) 1 2 (by omega)
  (λj hj=>by
   have e:((j:Int)==(k:Int))=(j==k):=by
    by_cases h:j=k
    ·subst h;simp
    ·rw[show ((j:Int)==(k:Int))=false by simp;omega,show (j==k)=false by simp;omega]
   simp only[ba1,ja4,Int.toNat_natCast,dd8 tB _ _ hj,e,u7 hj (show n<=4611686018427387904 by omega),Qln,Qlo]
   rw[btD (n7 hj),bt (g8 hj),bt (g8 hj)];cases (j==k)<;>rfl)
  (by simp only[ba1,ja4];rw[bfD (B8 (Qlg _))])
 refine⟨j,?_⟩;rw[show ((List.range n).any λ_=>false)=false by simp] at h
 exact h
structure RMa(x:Prt)(j:Nat)(s:K2):Prop where
 le:j<=x.cl.length
 ix:s.Kd7=(j:Int)
 k:s.Ff5=(x.wt.take j).any (·==1)
 su:s.ka7=(List.range x.cl.length).map (λi=>decide (i<j))
 to:s.ka8=(List.range x.cl.length).map (λi=>decide (i<j))
 cu:s.o5=x.cl.take j
theorem ed4{x:Prt}(m:Mp x){j:Nat}(hj:j<=x.cl.length):od4 x.cl (λi=>decide (i<j)) (x.cl.take j) :=
 ⟨by rw[List.length_take];have:=m.c.n2;omega,λq hq=>by
  obtain⟨i,hi,rfl⟩:=Qlm hq;rw[List.length_take] at hi;refine⟨i,by omega,by simp;omega,?_⟩
  rw[List.getElem_take,Ya0 tLq (by omega)]⟩
theorem Fe7{x:Prt}(m:Mp x){q:Bool}{L:LPq} :
  ∃s,lp (M5 ⟨q,L,x.cl,(x.cl.length:Int),x.nm,x.cl,x.wt⟩) ⟨false,0,List.replicate x.cl.length false,List.replicate x.cl.length false,[]⟩=(2,s)/\RMa x x.cl.length s:=by
 have hn:=m.c.n2
 suffices key:∃t s,lp (M5 ⟨q,L,x.cl,(x.cl.length:Int),x.nm,x.cl,x.wt⟩) ⟨false,0,List.replicate x.cl.length false,List.replicate x.cl.length false,[]⟩=(t,s)/\t=2/\RMa x x.cl.length s by
  obtain⟨t,s,h1,rfl,h2⟩:=key;exact⟨s,h1,h2⟩
 refine Oa4 (step:=M5 ⟨q,L,x.cl,(x.cl.length:Int),x.nm,x.cl,x.wt⟩) (mk:=λ_ (s:K2)=>s) x.cl.length (RMa x) (λt s=>t=2/\RMa x x.cl.length s) (by omega)
  (λj s hj hi=>?_) (λj s hj hi=>?_) 0 _ ⟨Qlv _,rfl,rfl,?_,?_,rfl⟩
 ·obtain⟨_,h2,h3,h4,h5,h6⟩:=hi;obtain⟨k,is,su,to,cu⟩:=s
  simp only at h2 h3 h4 h5 h6
  subst h2 h3 h4 h5 h6;obtain⟨a1,a2⟩:=Sd8 m (ed4 m (by omega:j<=x.cl.length)) hj
  have hf:(λi=>decide (i<j)||i==j)=λi=>decide (i<j+1):=by
   funext i;by_cases h:i<j
   ·rw[decide_eq_true h,decide_eq_true (by omega)];rfl
   ·by_cases h2:i=j
    ·subst h2;rw[decide_eq_true (show i<i+1 by omega)]
     simp
    ·rw[decide_eq_false h,decide_eq_false (by omega),show (i==j)=false by simp;omega];rfl
  have hw1:W ((j:Int)+1)=((j+1:Nat):Int):=u7 hj (by omega)
  rw[hf,<- ec7 tLq hj] at a1;unfold wc6 at a1 a2;have hjw:j<x.wt.length:=by rw[m.w];exact hj
  have hk:(x.wt.take (j+1)).any (·==1)=((x.wt.take j).any (·==1)||gL tI x.wt j==1):=by
   rw[ec7 tI hjw,List.any_append];simp only[List.any_cons,List.any_nil,Bool.or_false]
  have hst : M5 ⟨q, L, x.cl, (x.cl.length : Int), x.nm, x.cl, x.wt⟩ ⟨(x.wt.take j).any (· == 1), (j : Int), (List.range x.cl.length).map (fun i => decide (i < j)), (List.range x.cl.length).map (fun i => decide (i < j)), x.cl.take j⟩ =
    .next ⟨(x.wt.take (j+1)).any (·==1),((j+1:Nat):Int),(List.range x.cl.length).map (λi=>decide (i<j+1)),(List.range x.cl.length).map (λi=>decide (i<j+1)),x.cl.take (j+1)⟩:=by
   rw[hk];simp only[M5,ja5,Int.toNat_natCast,i6,A5,Qlb,a1,a2,hw1,f0];rw[btD (n7 hj),bt (g8 hj),bt (g8 hjw)];cases (x.wt.take j).any (·==1)<;>rfl
  rw[hst];exact .nx ⟨_,rfl,hj,rfl,rfl,rfl,rfl,rfl⟩
 ·have hje:j=x.cl.length:=by have:=hi.le;omega
  subst hje;refine⟨2,?_,rfl,hi⟩;obtain⟨_,h2,h3,h4,h5,h6⟩:=hi;obtain⟨k,is,su,to,cu⟩:=s
  simp only at h2 h3 h4 h5 h6
  subst h2 h3 h4 h5 h6;simp only[M5,ja5];rw[bfD (B8 (Qlg _))]
 ·have:=Vc8 x
  unfold te5 wc6 at this;injection this
 ·have:=Vc8 x
  unfold te5 wc6 at this;injection this
theorem Ef7{x:Prt}(m:Mp x):Ed2 x (wc6 x.cl.length (λi=>decide (i<x.cl.length)) x.cl)=if x.wt.any (·==1)=true then 35 else 0:=by
 have hC:=ed4 m (Qlp x.cl.length);rw[Qlq] at hC;unfold Ed2;rw[ee3 m hC,if_neg (by decide)]
 have hgw:∀k,k<x.cl.length->gL tI x.wt k∈x.wt:=λk hk=>N7 tI (by rw[m.w];exact hk)
 cases ha:x.wt.any (·==1) with
 |true =>
  rw[if_pos,if_pos rfl];obtain⟨v,hv,h1⟩:=Qlf.1 ha;obtain⟨k,hk,rfl⟩:=Qlm hv;have hk':k<x.cl.length:=by rw[<- m.w];exact hk
  refine Qlf.2 ⟨k,Qld.2 hk',?_⟩;unfold Dc3 Wa0;rw[Ya0 tI hk,h1];show (true&&!!(x.cl.any λq=>!apart (gL tLq x.cl k) q))=true
  rw[Bool.not_not,Qlt];refine Qlf.2 ⟨gL tLq x.cl k,N7 tLq hk',?_⟩;rw[Fd0 (m.c.f _ (N7 tLq hk'))];rfl
 |false =>
  have h0:∀k,k<x.cl.length->(gL tI x.wt k==1)=false:=λk hk=>by simpa using List.any_eq_false.1 ha _ (hgw k hk)
  rw[if_neg,if_neg,if_neg,if_neg (by decide)]
  ·intro h;obtain⟨k,hk,h⟩:=Qlf.1 h;have hk:=Qld.1 hk;unfold ed1 wc6 at h;rw[dd8 tB _ _ hk,decide_eq_true hk] at h
   simp at h
  ·intro h;obtain⟨k,hk,h⟩:=Qlf.1 h;unfold Vc5 at h;rw[h0 k (Qld.1 hk)] at h;cases h
  ·intro h;obtain⟨k,hk,h⟩:=Qlf.1 h;unfold Dc3 at h;rw[h0 k (Qld.1 hk)] at h;cases h
theorem ve0(x:LL)(y:Int)(hy:0<=y/\y<=255):Aa2 x y=some (b true,[]):=by
 have m:=Uf5 ⟨x.u,x.v⟩;have g:=Uf6 ⟨x.u,x.v⟩;generalize hp:gc8 ⟨x.u,x.v⟩=p at m;have hn1:=m.c.n1;have hn2:=m.c.n2;have hj:Mp ⟨p.nm,p.cl,p.wt⟩:=m;have w1:W y=y:=Ka7 (by omega) (by omega)
 obtain⟨k,hk⟩:∃k:Nat,Int.tmod y (p.cl.length:Int)=(k:Int):=⟨(Int.tmod y (p.cl.length:Int)).toNat,by have:=Int.tmod_nonneg (p.cl.length:Int) hy.1;omega⟩
 have hkl:k<p.cl.length:=by have:=Int.tmod_lt_of_pos y (show (0:Int)<(p.cl.length:Int) by omega);omega
 have n1:=Kf2 (x:=⟨p.nm,p.cl,p.wt⟩) hj.jok.cl;have n2:=Kf3 (x:=⟨p.nm,p.cl,p.wt⟩) hj.jok.cl;obtain⟨a1,a2⟩:=Sd8 hj (ue8 p.cl λ_=>false) hkl
 have c1:=pf2 (ue8 p.cl λ_=>false) (by simp) hkl (x:=p)
 rw[<- Vc8 ⟨p.nm,p.cl,p.wt⟩,List.nil_append,show (λi=>false||i==k)=λi=>i==k from by funext i;rfl] at a1
 rw[<- Vc8 ⟨p.nm,p.cl,p.wt⟩] at a2;rw[List.nil_append,show (λi=>false||i==k)=λi=>i==k from by funext i;rfl] at c1
 have l1:=de2 hj.jok (Rb1 hj c1) hj.ne;have l2:=de3 hj.jok (Rb1 hj c1) hj.ne;rw[ue9 hj c1] at l1;have ll:(((List.range p.cl.length).filter λi=>!(i==k)).map (gL tLq p.cl)).length=p.cl.length-1:=by rw[Qln,Sd9 hkl]
 have cA:=ed4 m (Qlp p.cl.length);rw[Qlq] at cA;have r1:=de2 hj.jok (Rb1 hj cA) hj.ne;have r2:=de3 hj.jok (Rb1 hj cA) hj.ne;rw[ue9 hj cA] at r1;have rl:((List.range p.cl.length).filter λi=>!decide (i<p.cl.length)).map (gL tLq p.cl)=[]:=by
  rw[Qlw.2 λi hi=>by rw[decide_eq_true (Qld.1 hi)];decide]
  rfl
 have v1:=Fb4 hj.jok (Rb1 hj cA);have v2:=Fb5 hj.jok (Rb1 hj cA);rw[show Ed2 ⟨p.nm,p.cl,p.wt⟩ _=_ from Ef7 hj] at v1
 obtain⟨j0,z0⟩:=Fe6 (n:=p.cl.length) (k:=k) (by omega) (q:=true) (nm:=p.nm) (cl:=p.cl) (wt:=p.wt) (D:=[gL tLq p.cl k])
 obtain⟨s,z1,z2⟩:=Fe7 m (q:=true) (L:=((List.range p.cl.length).filter λi=>!(i==k)).map (gL tLq p.cl))
 obtain⟨_,_,s3,s4,s5,s6⟩:=z2;rw[Qlq] at s6;have hwt:p.wt.take p.cl.length=p.wt:=by rw[<- m.w,Qlq]
 rw[hwt] at s3;have e1:((p.cl.length:Int)==0)=false:=by rw[beq_eq_false_iff_ne];omega
 have e2:((p.cl.length:Int) != (p.cl.length:Int))=false:=by simp
 have e3:W ((p.cl.length:Int)-1)=((p.cl.length-1:Nat):Int):=by rw[Ka7 (by omega) (by omega)];omega
 have e4:((0:Int) != 0)=false:=rfl;have q11:Nat.beq 2 1=false:=rfl;have q22:Nat.beq 2 2=true:=rfl;unfold te5 at n1 a1 a2;unfold wc6 at a1 l1 l2 r1 r2 v1 v2;unfold Aa2;simp only[i6,A5,l4,Qlb,f0,Fe4,Fe3,g,hp,w1,hk,e1,B6,n1,n2,g8 hkl,Int.toNat_natCast,a1,a2,e4,Qln,Qlo,e2,z0,q11,q22,l1,l2,z1,s3,s4,s5,s6,r1,r2,rl,v1,v2,Sd9 hkl,e3];cases p.wt.any (·==1)<;>simp<;>rfl
theorem qf0(x:LL)(y:Int)(hy:0<=y/\y<=255):Oa6 x y=true:=by unfold Oa6;rw[ve0 x y hy];rfl
theorem qf1(x:LL)(y:Int)(hy:0<=y/\y<=255):Oa7 x y=true:=by unfold Oa7;rw[ve0 x y hy];rfl
end Go.Ev.Ce
namespace Go.Ev.Ce
open Go Go.Ev Go.Ev.L Go.ChangeShapes Go.RowKit
theorem qf2{P:Program}{w:World}{ρ:Rho}{H:List c8}{F:Fz}{t:TypeId}{v:Value}{bs:Nat}{r:Reach}(ht:P.underlying t=some (.int .u8))
  (hok:Value.okWide P w r bs t v):∃n:Int,(0<=n/\n<=255)/\qa6 ρ H F w (.v (.int .u8 n)) v:=by
 unfold Value.okWide at hok;rw[ht] at hok;cases v with
 |int k' n =>
  simp only[Cell.okWide,ht,Cell.ok] at hok;obtain⟨rfl,h⟩:=hok;refine⟨n,?_,.cell (.v _)⟩;simp only[IntKind.has,IntKind.min,IntKind.max,IntKind.bits,IntKind.signed] at h
  simp at h
  omega
 |_=>simp[Cell.okWide,ht,Cell.ok] at hok
theorem qf3(n:Int)(h:0<=n/\n<=255):∃a,Rdg cU (.v (.int .u8 n)) a/\(0<=a/\a<=255):=⟨n,⟨rfl,rfl⟩,h⟩
theorem ve1(n:Nat)(g:Nat->Nat->Int):(tLs tI).ok [.tree 1 n λj=>lb4 .i64 1 (g j)]=true:=by
 show Bool.and (Nat.beq 1 1) (okL tI n λj=>lb4 .i64 1 (g j))=true
 have h:okL tI n (λj=>lb4 .i64 1 (g j))=true:=Sb1 tI (f:=λk=>g k 0) λ_ _=>rfl
 rw[h];rfl
theorem qf4(m n:Nat)(g j:Nat->Nat->Int):∃a,Rdg cZ (.agg [.tree 1 m λi=>lb4 .i64 1 (g i),.tree 1 n λi=>lb4 .i64 1 (j i)]) a:=⟨_,rfl,by
 show Bool.and ((tLs tI).ok [.tree 1 m λi=>lb4 .i64 1 (g i)]) (Bool.and ((tLs tI).ok [.tree 1 n λi=>lb4 .i64 1 (j i)]) true)=true
 rw[ve1,ve1];rfl⟩
end Go.Ev.Ce
