/- Own work. -/
import Derived.Test.YtekgjjgbdcgldaaGreatEvOX3
import Derived.ChangeStays
import Derived.ChangeSame
import Derived.OpenShut
import Derived.RowKit
set_option linter.all false
def Qla:=@List.mem_singleton
def Qlb:=@List.length_append
def Qlc:=@List.mem_append_left
def Qld:=@List.mem_cons
def Qle:=@List.mem_filter
def Qlf:=@List.mem_append
def Qlg:=@List.not_mem_nil
def Qlh:=@List.getElem?_eq_getElem
def Qli:=@Classical.byContradiction
def Qlj:=@List.countP_eq_length_filter
def Qlk:=@Int.mul_eq_zero
def Qll:=@Option.bind_eq_some_iff
def Qlm:=@Bool.and_self
def Qln:=@List.length_map
def Qlo:=@List.all_eq_true
def Qlp:=@Int.mul_pos_of_neg_of_neg
def Qlq:=@Bool.false_eq_true
def Qlr:=@Int.mul_nonpos_of_nonneg_of_nonpos
def Qls:=@Int.lt_trichotomy
def Qlt:=@List.length_eq_countP_add_countP
def Qlu:=@List.mem_iff_getElem
def Qlv:=@List.mem_cons_of_mem
def Qlw:=@Nat.le_trans
def Qlx:=@List.getElem?_range
def Qly:=@List.drop_zero
def Qlz:=@List.mem_range
def Qlaa:=@Nat.lt_or_gt_of_ne
def Qlab:=@List.getD_eq_getElem?_getD
def Qlac:=@List.any_eq_false
def Qlad:=@Int.mul_neg_of_pos_of_neg
def Qlae:=@List.mem_map
def Qlaf:=@Nat.zero_le
def Qlag:=@Option.map_eq_some_iff
def Qlah:=@Nat.le_mul_of_pos_left
def Qlai:=@Nat.lt_irrefl
def Qlaj:=@Go.Ev.Ce.V3.ext'
namespace Go.Ev.Ce
open Go Go.Ev Go.Ev.L Go.Proofs
set_option maxRecDepth 100000
structure Ra3 where
 (d7 f0:List Pln)
noncomputable def Jc1:List (Nat×Sum):=[(56,qb1)]
theorem Cc3:i9 prog G Jc1:=⟨Hb0,trivial⟩
structure Ra4 where
 alt:Nat
 bs0:Bool
noncomputable def pa3{α:Type}(kk:Ra4->α)(x:Ra3):α:=let t1:=(ya3 (rt tP x.f0) (rt tP x.d7));(sl (okE tP x.f0) (sl (okE tP x.d7) (sl (ya4 (rt tP x.f0) (rt tP x.d7)) (kk ⟨1,!t1⟩) (kk ⟨0,false⟩)) (kk ⟨0,false⟩)) (kk ⟨0,false⟩))
noncomputable def Ra5(x:Ra3):Ra4:=pa3 (λr=>r) x
noncomputable def db5(x:Ra3)(r:Ra4):DT (b7×List b9):=(.ite (Nat.beq r.alt 1) (.ret (b r.bs0,[⟨0,1,[[eL tP x.f0]],true,false,0⟩])) .fail)
theorem Rc4{α β:Type}(F:α->β)(kk:Ra4->α)(x:Ra3):F (pa3 kk x)=pa3 (λr=>F (kk r)) x:=by unfold pa3;(repeat' apply m8 (f:=F))<;>rfl
noncomputable def Tb9:Sum:=Va6 ⟨[sLq tP,sPq 0],[⟨0,1,true,some [[.c 4 (nL tP)]]⟩],λa H=>(⟨aLq tP a 0,hLq tP H 0 0 0⟩,())⟩ (λx=>db5 x (Ra5 x))
theorem Jc2:g7 prog G 104 Tb9:=M9 (enc:=λx=>⟨[eL tP x.d7,.ptr 0 0 0 0],[⟨0,1,[[eL tP x.f0]],true,false,0⟩]⟩) (λa H=>by kernel_rfl) (bd Ff7 Cc3) λx=>y5 (Eq.trans (b:=pa3 (λr=>(db5 x r).run) x) (by kernel_rfl) (Rc4 (λr=>(db5 x r).run) (λr=>r) x).symm)
structure X7 where
 U4:List (List Pln)
 f0:List Pln
noncomputable def Ea3:List (Nat×Sum):=[(104,Tb9)]
theorem nb6:i9 prog G Ea3:=⟨Jc2,trivial⟩
structure K1 where
 U4:List (List Pln)
 is7:Int
structure o9 where
 is8:Int
 f0:List Pln
noncomputable def wa9(p:K1)(s:o9):St:=⟨eL (tLs tP) p.U4::.fn 104 [.ptr 0 0 0 0]::ra 5 (i p.is7::i s.is8::ra 10 []),[⟨0,1,[[eL tP s.f0]],true,false,0⟩]⟩
noncomputable def F9{α:Type}(k:o9->α)(e:Nat->α)(z:α)(p:K1)(s:o9):α:=let t1:=(Ra5 ⟨rt tP (gL (tLs tP) p.U4 s.is8.toNat),rt tP s.f0⟩);(sl (decide (s.is8<p.is7)) (sl (inB s.is8 (List.length p.U4)) (sl ((cnE tP (gL (tLs tP) p.U4 s.is8.toNat))&&((cnE tP s.f0)&&true)) (sl (Nat.beq t1.alt 1) (sl t1.bs0 (e 1) (k ⟨W (s.is8+1),rt tP s.f0⟩)) z) z) z) (e 2))
noncomputable def H4(p:K1)(s:o9):Stp o9:=F9 .next .exit .fail p s
noncomputable def ga6:Lo K1 o9:=⟨En Ea3,1,Ge2,[1,0,1,4,4],[0,1,7,8],.p,[⟨.s (.c 1 (nL (tLs tP)))::.fn 104 [.o (.ptr 0 0 0 0)]::ru2 5 (sIq::sIq::ru2 10 []),[⟨0,1,true,some [[.c 4 (nL tP)]]⟩],λa H=>(⟨rL (tLs tP) (slT a 0),aIq a 7⟩,⟨aIq a 8,hLq tP H 0 0 0⟩)⟩],H4,[(none,λp s=>⟨[i s.is8],[⟨0,1,[[eL tP (rt tP s.f0)]],true,false,0⟩]⟩),(some 0,λp s=>upq (wa9 p s) [(9,b (decide (s.is8<p.is7)))])],wa9⟩
theorem kb1:ga6.Ok:=Lo.ok [] (by kernel_rfl) .nil rfl (.cons (λa H=>by kernel_rfl) .nil) λp s=>(.of @F9 (λF _ _ _ _ _=>by unfold F9;(repeat' apply m8 (f:=F))<;>rfl) (by kernel_rfl))
structure X8 where
 alt:Nat
 is0:Int
 f0:List Pln
noncomputable def G0{α:Type}(kk:X8->α)(x:X7):α:=let t1:=(lp (H4 (⟨rt (tLs tP) x.U4,(↑(List.length x.U4):Int)⟩:K1)) (⟨0,rt tP x.f0⟩:o9));(sl ((cnE (tLs tP) x.U4)&&((cnE tP x.f0)&&true)) (sl (Nat.beq t1.1 1) (kk ⟨1,t1.2.is8,rt tP t1.2.f0⟩) (sl (Nat.beq t1.1 2) (kk ⟨1,-1,t1.2.f0⟩) (kk ⟨0,0,[]⟩))) (kk ⟨0,0,[]⟩))
noncomputable def X9(x:X7):X8:=G0 (λr=>r) x
noncomputable def ka1(x:X7)(r:X8):DT (b7×List b9):=(.ite (Nat.beq r.alt 1) (.ret (i r.is0,[⟨0,1,[[eL tP r.f0]],true,false,0⟩])) .fail)
theorem yb3{α β:Type}(F:α->β)(kk:X8->α)(x:X7):F (G0 kk x)=G0 (λr=>F (kk r)) x:=by unfold G0;(repeat' apply m8 (f:=F))<;>rfl
noncomputable def Ia7:Sum:=Va6 ⟨[.s (.c 1 (nL (tLs tP))),.fn 104 [.o (.ptr 0 0 0 0)]],[⟨0,1,true,some [[.c 4 (nL tP)]]⟩],λa H=>(⟨rL (tLs tP) (slT a 0),hLq tP H 0 0 0⟩,())⟩ (λx=>ka1 x (X9 x))
theorem qb6:g7 prog G 161 Ia7:=M9 (enc:=λx=>⟨[eL (tLs tP) x.U4,.fn 104 [.ptr 0 0 0 0]],[⟨0,1,[[eL tP x.f0]],true,false,0⟩]⟩) (λa H=>by kernel_rfl) (bd zf2 nb6) λx=>xa3 (.s .p (.s (.s .p (.b (.u ga6.ls))) .p)) [ga6.pr] (by kernel_rfl) (.cons kb1 .nil) (Eq.trans (b:=G0 (λr=>(ka1 x r).run) x) (by kernel_rfl) (yb3 (λr=>(ka1 x r).run) (λr=>r) x).symm)
structure Q3 where
 U4:List (List Pln)
 f0:List Pln
noncomputable def db6:List (Nat×Sum):=[(161,Ia7)]
theorem Za9:i9 prog G db6:=⟨qb6,trivial⟩
structure Q4 where
 alt:Nat
 bs0:Bool
 f0:List Pln
noncomputable def B8{α:Type}(kk:Q4->α)(x:Q3):α:=let t1:=(X9 ⟨rt (tLs tP) x.U4,rt tP x.f0⟩);(sl ((cnE (tLs tP) x.U4)&&((cnE tP x.f0)&&true)) (sl (Nat.beq t1.alt 1) (kk ⟨1,decide (t1.is0>=0),t1.f0⟩) (kk ⟨0,false,[]⟩)) (kk ⟨0,false,[]⟩))
noncomputable def ea8(x:Q3):Q4:=B8 (λr=>r) x
noncomputable def ba8(x:Q3)(r:Q4):DT (b7×List b9):=(.ite (Nat.beq r.alt 1) (.ret (b r.bs0,[⟨0,1,[[eL tP r.f0]],true,false,0⟩])) .fail)
theorem kb2{α β:Type}(F:α->β)(kk:Q4->α)(x:Q3):F (B8 kk x)=B8 (λr=>F (kk r)) x:=by unfold B8;(repeat' apply m8 (f:=F))<;>rfl
noncomputable def xa0:Sum:=Va6 ⟨[.s (.c 1 (nL (tLs tP))),.fn 104 [.o (.ptr 0 0 0 0)]],[⟨0,1,true,some [[.c 4 (nL tP)]]⟩],λa H=>(⟨rL (tLs tP) (slT a 0),hLq tP H 0 0 0⟩,())⟩ (λx=>ba8 x (ea8 x))
theorem db7:g7 prog G 103 xa0:=M9 (enc:=λx=>⟨[eL (tLs tP) x.U4,.fn 104 [.ptr 0 0 0 0]],[⟨0,1,[[eL tP x.f0]],true,false,0⟩]⟩) (λa H=>by kernel_rfl) (bd yf9 Za9) λx=>y5 (Eq.trans (b:=B8 (λr=>(ba8 x r).run) x) (by kernel_rfl) (kb2 (λr=>(ba8 x r).run) (λr=>r) x).symm)
noncomputable def hd6:List (Nat×Sum):=[(103,xa0)]
theorem Rc5:i9 prog G hd6:=⟨db7,trivial⟩
noncomputable def Qa1(x:List Pln)(y:List (List Pln)):Option (b7×List b9):=let t1:=(ea8 ⟨rt (tLs tP) y,rt tP x⟩);(sl ((cnE (tLs tP) y)&&((cnE tP x)&&true)) (sl (Nat.beq t1.alt 1) (some (b (!t1.bs0),[])) none) none)
noncomputable def fb8(x:List Pln)(y:List (List Pln)):Bool:=N9 (one r1B) (Qa1 x y)
noncomputable def Qa2(x:List Pln)(y:List (List Pln)):Bool:=okO (one r1B) (Qa1 x y)
noncomputable def nc1:Sum:=ta8 (R5 tP) (R5 (tLs tP)) (λx y=>.guard (Qa2 x y) (.ret ((one r1B).enc (fb8 x y),[])))
theorem hd7:g7 prog G 45 nc1:=Eb2 (bd b45 Rc5) (one r1B) (o:=Qa1) λx y=>y5 (by kernel_rfl)
noncomputable def nc2:List (Nat×Sum):=[(49,fb5),(42,yb1)]
theorem hd8:i9 prog G nc2:=⟨yb0,Tb8,trivial⟩
structure wa2 where
 (xd5 xd6 xd7 xd8:List (List Pln))
 Cf2:Int
 Za7:List (List Pln)
 Re3:Int
 (jd4 Sa9:List (List Pln))
structure Y0 where
 bs9:Bool
 (ra5 fc4:Int)
noncomputable def Ub0(p:wa2)(s:Y0):St:=⟨ra 9 (b s.bs9::i s.ra5::.unk::.ptr 0 0 0 0::ra 20 (.agg [eL (tLs tP) p.xd5,eL (tLs tP) p.xd6,eL (tLs tP) p.xd7,eL (tLs tP) p.xd8]::i p.Cf2::ra 3 (eL (tLs tP) p.Za7::i p.Re3::i s.fc4::ra 16 []))),[⟨0,2,[[eL (tLs tP) p.jd4,eL (tLs tP) p.Sa9]],true,false,0⟩]⟩
noncomputable def wa3{α:Type}(k:Y0->α)(e:Nat->α)(z:α)(p:wa2)(s:Y0):α:=let t1:=(ea7 (rt (tLs tP) p.Sa9) (rt tP (gL (tLs tP) p.Za7 s.fc4.toNat)));(sl (decide (s.fc4<p.Re3)) (sl (inB s.fc4 (List.length p.Za7)) (sl (okE (tLs tP) p.Sa9) (sl (okE tP (gL (tLs tP) p.Za7 s.fc4.toNat)) (sl (Ia6 (rt (tLs tP) p.Sa9) (rt tP (gL (tLs tP) p.Za7 s.fc4.toNat))) (sl (!t1.1) (e 1) (k ⟨t1.1,t1.2,W (s.fc4+1)⟩)) z) z) z) z) (e 2))
noncomputable def ga7(p:wa2)(s:Y0):Stp Y0:=wa3 .next .exit .fail p s
noncomputable def yb4:Lo wa2 Y0:=⟨En nc2,0,uf9,[1,1,1,1,0,1,4,4,1,1,0,4,1,1,4,4],[9,10,12,33,34,38,39,40],.p,[⟨ru2 9 (sBq::sIq::sUq::sPq 0::ru2 20 (.agg [.c 1 (nL (tLs tP)),.c 1 (nL (tLs tP)),.c 1 (nL (tLs tP)),.c 1 (nL (tLs tP))]::sIq::ru2 3 (.s (.c 1 (nL (tLs tP)))::sIq::sIq::ru2 16 []))),[⟨0,2,true,some [[.c 1 (nL (tLs tP)),.c 1 (nL (tLs tP))]]⟩],λa H=>(⟨rL (tLs tP) (slT (cellsOf (slT a 33)) 0),rL (tLs tP) (slT (cellsOf (slT a 33)) 1),rL (tLs tP) (slT (cellsOf (slT a 33)) 2),rL (tLs tP) (slT (cellsOf (slT a 33)) 3),aIq a 34,rL (tLs tP) (slT a 38),aIq a 39,rL (tLs tP) (slT (rwT (elT H 0) 0) 0),rL (tLs tP) (slT (rwT (elT H 0) 0) 1)⟩,⟨aBq a 9,aIq a 10,aIq a 40⟩)⟩],ga7,[(some 2,λp s=>let t1:=(ea7 (rt (tLs tP) p.Sa9) (rt tP (gL (tLs tP) p.Za7 s.fc4.toNat)));⟨ra 9 (b t1.1::i t1.2::.unk::.ptr 0 0 0 0::.unk::eL tP (gL (tLs tP) p.Za7 s.fc4.toNat)::ra 18 (.agg [eL (tLs tP) p.xd5,eL (tLs tP) p.xd6,eL (tLs tP) p.xd7,eL (tLs tP) p.xd8]::i p.Cf2::ra 3 (eL (tLs tP) p.Za7::i p.Re3::i s.fc4::b (decide (s.fc4<p.Re3))::.tptr [eL tP (gL (tLs tP) p.Za7 s.fc4.toNat)]::eL tP (gL (tLs tP) p.Za7 s.fc4.toNat)::.tup [b t1.1,i t1.2]::.ptr 0 0 1 0::eL (tLs tP) p.Sa9::eL tP (gL (tLs tP) p.Za7 s.fc4.toNat)::.tup [b t1.1,i t1.2]::b t1.1::i t1.2::b t1.1::b (!t1.1)::ra 4 []))),[⟨0,2,[[eL (tLs tP) p.jd4,eL (tLs tP) p.Sa9]],true,false,0⟩]⟩),(some 4,λp s=>upq (Ub0 p s) [(41,b (decide (s.fc4<p.Re3)))])],Ub0⟩
theorem Rc6:yb4.Ok:=Lo.ok [] (by kernel_rfl) .nil rfl (.cons (λa H=>by kernel_rfl) .nil) λp s=>(.of @wa3 (λF _ _ _ _ _=>by unfold wa3;(repeat' apply m8 (f:=F))<;>rfl) (by kernel_rfl))
noncomputable def Za1(x:List (List Pln))(y:List (List Pln)):Option (b7×List b9):=let t1:=(U9 (rt (tLs tP) x));let t2:=(U9 (rt (tLs tP) y));let t3:=(lp (ga7 (⟨rt (tLs tP) x,rt (tLs tP) y,rt (tLs tP) y,rt (tLs tP) x,0,rt (tLs tP) x,(↑(List.length x):Int),rt (tLs tP) x,rt (tLs tP) y⟩:wa2)) (⟨true,0,0⟩:Y0));let t4:=(ea7 (rt (tLs tP) (rt (tLs tP) y)) (rt tP (gL (tLs tP) (rt (tLs tP) x) t3.2.fc4.toNat)));let t5:=(lp (ga7 (⟨rt (tLs tP) (rt (tLs tP) x),rt (tLs tP) (rt (tLs tP) y),rt (tLs tP) (rt (tLs tP) y),rt (tLs tP) (rt (tLs tP) x),1,rt (tLs tP) (rt (tLs tP) y),(↑(List.length (rt (tLs tP) y)):Int),rt (tLs tP) (rt (tLs tP) y),rt (tLs tP) (rt (tLs tP) x)⟩:wa2)) (⟨t3.2.bs9,t3.2.ra5,0⟩:Y0));let t6:=(ea7 (rt (tLs tP) (rt (tLs tP) (rt (tLs tP) x))) (rt tP (gL (tLs tP) (rt (tLs tP) (rt (tLs tP) y)) t5.2.fc4.toNat)));(sl (okE (tLs tP) x) (sl (V0 (rt (tLs tP) x)) (sl (t1 != 0) (some (.tup [b false,i t1],[])) (sl (okE (tLs tP) y) (sl (V0 (rt (tLs tP) y)) (sl (t2 != 0) (some (.tup [b false,i t2],[])) (sl ((cnE (tLs tP) x)&&((cnE (tLs tP) y)&&((cnE (tLs tP) y)&&((cnE (tLs tP) x)&&((cnE (tLs tP) x)&&((cnE (tLs tP) x)&&((cnE (tLs tP) y)&&true))))))) (sl (Nat.beq t3.1 1) (some (.tup [b t4.1,i t4.2],[])) (sl (Nat.beq t3.1 2) (sl ((cnE (tLs tP) (rt (tLs tP) x))&&((cnE (tLs tP) (rt (tLs tP) y))&&((cnE (tLs tP) (rt (tLs tP) y))&&((cnE (tLs tP) (rt (tLs tP) x))&&((cnE (tLs tP) (rt (tLs tP) y))&&((cnE (tLs tP) (rt (tLs tP) y))&&((cnE (tLs tP) (rt (tLs tP) x))&&true))))))) (sl (Nat.beq t5.1 1) (some (.tup [b t6.1,i t6.2],[])) (sl (Nat.beq t5.1 2) (some (.tup [b t5.2.bs9,i t5.2.ra5],[])) none)) none) none)) none)) none) none)) none) none)
noncomputable def qb7(x:List (List Pln))(y:List (List Pln)):Bool×Int:=N9 (two r1B r1I) (Za1 x y)
noncomputable def qb8(x:List (List Pln))(y:List (List Pln)):Bool:=okO (two r1B r1I) (Za1 x y)
noncomputable def Cc4:Sum:=ta8 (R5 (tLs tP)) (R5 (tLs tP)) (λx y=>.guard (qb8 x y) (.ret ((two r1B r1I).enc (qb7 x y),[])))
theorem pd6:g7 prog G 47 Cc4:=Eb2 (bd b47 hd8) (two r1B r1I) (o:=Za1) λx y=>xa3 (.s .p (.s .p (.s .p (.s .p (.s (.s .p (.b (.l (.s .p (.s .p (.s (.b (.s .p (.s .p (.b (.u yb4.ls))))) .p)))))) .p))))) [yb4.pr] (by kernel_rfl) (.cons Rc6 .nil) (by kernel_rfl)
noncomputable def Rb5(c:List Pln)(s:List (List Pln)):Bool:=!s.any λq=>!apart c q
theorem xe8{c q:List Pln}(hc:c.length<=1000000)(hq:q.length<=1000000):Ra5 ⟨q,c⟩=⟨1,!apart c q⟩:=by
 unfold Ra5 pa3;simp only[i5,q8,Fd7 (a:=c) (c:=q) (by omega) (by omega),Fd8 (a:=c) (c:=q) (by omega) (by omega),g9]
theorem wd7(c:List Pln)(s:List (List Pln))(hc:c.length<=1000000)(hs:s.length<=1000000)(hl:∀q∈s,q.length<=1000000):Qa1 c s=some (b (Rb5 c s),[]):=by
 have h:=Qa3 (step:=H4 ⟨s,(s.length:Int)⟩) (mk:=λj=>(⟨(j:Int),c⟩:o9)) (c:=λq=>!apart c q) (u:=1) (fin:=2) (tLs tP) s (by omega)
  (λj hj=>by
   have hq:=hl _ (ta9 (tLs tP) hj);simp only[H4,F9,Int.toNat_natCast,i5,i8,xe8 hc hq,o4 hj (show s.length<=4611686018427387904 by omega),g9,Qlm]
   rw[btD (i6 hj),bt (f7 hj)]
   rfl)
  (by simp only[H4,F9];rw[bfD (r8 (Qlai _))]) 0 (Qlaf _)
 rw[Qly,Nat.zero_add] at h;have hI:X9 ⟨s,c⟩=⟨1,if s.any (λq=>!apart c q) then ((s.findIdx (λq=>!apart c q):Nat):Int) else -1,c⟩:=by
  unfold X9 G0;simp only[i5,i8];rw[show (⟨0,c⟩:o9)=⟨((0:Nat):Int),c⟩ from rfl,h]
  cases s.any (λq=>!apart c q)<;>rfl
 unfold Qa1 Rb5 ea8 B8;simp only[i5,i8,hI];cases hA:s.any (λq=>!apart c q) with
 |true =>
  simp only[if_true]
  have:decide (((s.findIdx (λq=>!apart c q):Nat):Int)>=0)=true:=decide_eq_true (by omega)
  rw[this];rfl
 |false=>rfl
theorem Oe5{c:List Pln}{s:List (List Pln)}(hc:c.length<=1000000)(hs:s.length<=1000000)(hl:∀q∈s,q.length<=1000000):fb8 c s=Rb5 c s:=by unfold fb8;rw[wd7 c s hc hs hl];rfl
theorem Oe6{c:List Pln}{s:List (List Pln)}(hc:c.length<=1000000)(hs:s.length<=1000000)(hl:∀q∈s,q.length<=1000000):Qa2 c s=true:=by unfold Qa2;rw[wd7 c s hc hs hl];rfl
noncomputable def inR(s t:List (List Pln)):Bool×Int:=match s.find? λc=>!(s9 t c).1 with
 |some c=>s9 t c
 |none=>(true,0)
noncomputable def ab4(x y:List (List Pln)):Bool×Int:=if schk x != 0 then (false,schk x) else if schk y != 0 then (false,schk y) else if (inR x y).1 then inR y x else inR x y
theorem Hd8{x:List (List Pln)}{y:List Pln}(h:(s9 x y).1=true):(s9 x y).2=0:=by
 unfold s9 at *
 rw[Bool.and_eq_true] at h;exact beq_iff_eq.1 h.1
theorem wd8 (a0 a1 a2 a3 : List (List Pln)) (n34 : Int) (s t u : List (List Pln)) (hs : s.length ≤ 1000000) (hl : ∀ q ∈ s, q.length ≤ 1000000) (ht : t.length ≤ 1000000) (htl : ∀ q ∈ t, q.length ≤ 1000000) :
  lp (ga7 ⟨a0,a1,a2,a3,n34,s,(s.length:Int),u,t⟩) ⟨true,0,0⟩=if s.any (λc=>!(s9 t c).1) then (1,⟨true,0,((s.findIdx (λc=>!(s9 t c).1):Nat):Int)⟩) else (2,⟨true,0,(s.length:Int)⟩):=by
 have h:=Qa3 (step:=ga7 ⟨a0,a1,a2,a3,n34,s,(s.length:Int),u,t⟩) (mk:=λj=>(⟨true,0,(j:Int)⟩:Y0)) (c:=λc=>!(s9 t c).1) (u:=1) (fin:=2) (tLs tP) s (by omega)
  (λj hj=>by
   have hq:=hl _ (ta9 (tLs tP) hj);simp only[ga7,wa3,Int.toNat_natCast,i5,q8,Cc2 hq ht htl,Xd2 hq ht htl,o4 hj (show s.length<=4611686018427387904 by omega),g9]
   rw[btD (i6 hj),bt (f7 hj)];cases hc:(s9 t (gL (tLs tP) s j)).1 with
   |false=>rfl
   |true=>rw[Hd8 hc])
  (by simp only[ga7,wa3];rw[bfD (r8 (Qlai _))]) 0 (Qlaf _)
 rw[Qly,Nat.zero_add] at h;exact h
theorem oe8{s t:List (List Pln)}(h:s.any (λc=>!(s9 t c).1)=true):inR s t=s9 t (gL (tLs tP) s (s.findIdx λc=>!(s9 t c).1))/\(inR s t).1=false/\gL (tLs tP) s (s.findIdx λc=>!(s9 t c).1)∈s:=by
 have hlt:s.findIdx (λc=>!(s9 t c).1)<s.length:=List.findIdx_lt_length.2 (List.any_eq_true.1 h)
 have e:inR s t=s9 t (gL (tLs tP) s (s.findIdx λc=>!(s9 t c).1)):=by unfold inR;rw[Hd7 (tLs tP) s _ h]
 have:=List.find?_some (Hd7 (tLs tP) s _ h)
 exact⟨e,by rw[e];simpa using this,ta9 (tLs tP) hlt⟩
theorem Lb4{s t:List (List Pln)}(h:s.any (λc=>!(s9 t c).1)=false):inR s t=(true,0):=by
 unfold inR;rw[List.find?_eq_none.2 λc hc=>by have:=Qlac.1 h c hc;simpa using this]
theorem Xd3(x y:List (List Pln))(hx:x.length<=1000000)(hxl:∀q∈x,q.length<=1000000)(hy:y.length<=1000000)(hyl:∀q∈y,q.length<=1000000):Za1 x y=some (.tup [b (ab4 x y).1,i (ab4 x y).2],[]):=by
 unfold Za1 ab4;simp only[i5,q8,i8,ec6 hx hxl,ec7 hx hxl,ec6 hy hyl,ec7 hy hyl,g9,Qlm];rw[wd8 x y y x 0 x y x hx hxl hy hyl];cases h1:schk x != 0 with
 |true=>rfl
 |false =>
  cases h2:schk y != 0 with
  |true=>rfl
  |false =>
   simp only[N2,Qlq,if_false];cases ha:x.any λc=>!(s9 y c).1 with
   |true =>
    obtain⟨e1,e2,e3⟩:=oe8 ha;simp only[if_true,Int.toNat_natCast,Cc2 (hxl _ e3) hy hyl,e2,Qlq,if_false];rw[e1] at e2 ⊢;rw[e2];rfl
   |false =>
    have e:=Lb4 ha;simp only[Qlq,if_false,e,if_true];rw[wd8 x y y x 1 y x y hy hyl hx hxl];cases hc:y.any λc=>!(s9 x c).1 with
    |true =>
     obtain⟨e1,e2,e3⟩:=oe8 hc;simp only[if_true,Int.toNat_natCast,Cc2 (hyl _ e3) hx hxl];rw[e1];rfl
    |false =>
     rw[Lb4 hc];rfl
theorem bf5{x y:List (List Pln)}(hx:x.length<=1000000)(hxl:∀q∈x,q.length<=1000000)(hy:y.length<=1000000)(hyl:∀q∈y,q.length<=1000000):qb7 x y=ab4 x y:=by unfold qb7;rw[Xd3 x y hx hxl hy hyl];rfl
theorem bf6{x y:List (List Pln)}(hx:x.length<=1000000)(hxl:∀q∈x,q.length<=1000000)(hy:y.length<=1000000)(hyl:∀q∈y,q.length<=1000000):qb8 x y=true:=by unfold qb8;rw[Xd3 x y hx hxl hy hyl];rfl
end Go.Ev.Ce
namespace Go.Ev.Ce
def Na0(a b:V3):V3:=⟨a.x-b.x,a.y-b.y,a.z-b.z⟩
def N3(u w x:V3):V3:=d9 (Na0 w u) (Na0 x u)
def Sol(l:List V3):Prop:=∃a c k v,a∈l/\c∈l/\k∈l/\v∈l/\dot (N3 a c k) (Na0 v a)≠0
theorem Sol.off{l:List V3}(h:Sol l){n:V3}(hn:n≠⟨0,0,0⟩)(b:Int):∃v∈l,dot n v≠b:=by
 obtain⟨a,c,k,v,ha,hc,hk,hv,hd⟩:=h;by_cases h1:dot n a=b
 ·by_cases h2:dot n c=b
  ·by_cases h3:dot n k=b
   ·by_cases h4:dot n v=b
    ·exfalso;unfold N3 at hd;generalize hD:dot (d9 (Na0 c a) (Na0 k a)) (Na0 v a)=D at *
     have q1:dot n (Na0 c a)=0:=by unfold dot Na0 at *;grind
     have q2:dot n (Na0 k a)=0:=by unfold dot Na0 at *;grind
     have q3:dot n (Na0 v a)=0:=by unfold dot Na0 at *;grind
     generalize Na0 c a=p at *
     generalize Na0 k a=q at *
     generalize Na0 v a=r at *
     have i1:D*n.x=(d9 q r).x*dot n p+(d9 r p).x*dot n q+(d9 p q).x*dot n r:=by rw[<- hD];simp only[dot,d9];grind
     have i2:D*n.y=(d9 q r).y*dot n p+(d9 r p).y*dot n q+(d9 p q).y*dot n r:=by rw[<- hD];simp only[dot,d9];grind
     have i3:D*n.z=(d9 q r).z*dot n p+(d9 r p).z*dot n q+(d9 p q).z*dot n r:=by rw[<- hD];simp only[dot,d9];grind
     rw[q1,q2,q3] at i1 i2 i3;have z:∀{x:Int},D*x=0->x=0:=λh=>(Qlk.1 h).resolve_left hd
     exact hn (Qlaj (z (by omega)) (z (by omega)) (z (by omega)))
    ·exact⟨v,hv,h4⟩
   ·exact⟨k,hk,h3⟩
  ·exact⟨c,hc,h2⟩
 ·exact⟨a,ha,h1⟩
theorem Sol.ne{l:List V3}(h:Sol l):∃v,v∈l:=by obtain⟨a,_,_,_,ha,_⟩:=h;exact⟨a,ha⟩
structure Fac(l:List V3)(n:V3)(b:Int):Prop where
 hd:∀v∈l,dot n v<=b
 on:∃u w x,u∈l/\w∈l/\x∈l/\N3 u w x≠⟨0,0,0⟩/\dot n u=b/\dot n w=b/\dot n x=b
end Go.Ev.Ce
namespace Go.Ev.Ce
open Go Go.Ev Go.Ev.L Go.Proofs
theorem rf4{l:List V3}(hf:nf0 l=true):Sol l:=(qf4 hf).h
theorem bf7{v:V3}(h:g3 v=0):v=⟨0,0,0⟩:=by
 unfold g3 at h;have h:Nat.gcd (Nat.gcd v.x.natAbs v.y.natAbs) v.z.natAbs=0:=by omega
 rw[Nat.gcd_eq_zero_iff,Nat.gcd_eq_zero_iff] at h;exact Qlaj (by show v.x=0;omega) (by show v.y=0;omega) (by show v.z=0;omega)
theorem Xd4{a c k:V3}(ha:inV a=true)(hc:inV c=true)(hk:inV k=true)(h:N3 a c k≠⟨0,0,0⟩):(Aa8 a c k).2=true:=by
 unfold Aa8;rw[ha,hc,hk];simp only[Qlm,if_true];rw[if_neg (λh0=>h (bf7 h0):¬ g3 (d9 (sub c a) (sub k a))=0)]
theorem wd9{a c k:V3}{p:Pln}(h:Thr a c k p):N3 a c k≠⟨0,0,0⟩:=λe=>by
 obtain⟨ok,⟨g,hg,e1,e2,e3⟩,_⟩:=h;have e':d9 (sub c a) (sub k a)=⟨0,0,0⟩:=e;rw[e'] at e1 e2 e3;have z:∀{x:Int},g*x=0->x=0:=λh=>(Qlk.1 h).resolve_left (by omega)
 exact Nc0 ok (Qlaj (z e1) (z e2) (z e3))
theorem ge8{a c k:V3}{p:Pln}(h:Thr a c k p):dot p.n a=p.b/\dot p.n c=p.b/\dot p.n k=p.b:=by
 obtain⟨ok,⟨g,hg,e1,e2,e3⟩,o⟩:=h;have z:∀{x y:Int},g*(x-y)=0->x=y:=λh=>by have:=(Qlk.1 h).resolve_left (by omega);omega
 refine⟨o.symm,?_,?_⟩
 ·rw[o];apply z
  have:g*(dot p.n c-dot p.n a)=(g*p.n.x)*(c.x-a.x)+(g*p.n.y)*(c.y-a.y)+(g*p.n.z)*(c.z-a.z):=by simp only[dot];grind
  rw[this,e1,e2,e3];simp only[d9,sub];grind
 ·rw[o];apply z
  have:g*(dot p.n k-dot p.n a)=(g*p.n.x)*(k.x-a.x)+(g*p.n.y)*(k.y-a.y)+(g*p.n.z)*(k.z-a.z):=by simp only[dot];grind
  rw[this,e1,e2,e3];simp only[d9,sub];grind
theorem Jc3(p:Pln)(v:V3):dot (o3 p).n v=(o3 p).b↔dot p.n v=p.b:=by
 rw[Wd5];show -dot p.n v=-p.b↔_;omega
theorem hd9{a c k:V3}{p q:Pln}(h:Thr a c k q)(hp:okp p=true)(t1:dot p.n a=p.b)(t2:dot p.n c=p.b)(t3:dot p.n k=p.b):p=q\/p=o3 q:=by
 obtain⟨s1,s2,s3⟩:=ge8 h;obtain⟨ok,⟨g,hg,e1,e2,e3⟩,o⟩:=h;have d1:dot p.n (sub c a)=0:=by simp only[dot,sub] at *;grind
 have d2:dot p.n (sub k a)=0:=by simp only[dot,sub] at *;grind
 have hc:d9 q.n p.n=⟨0,0,0⟩:=by
  have z:∀{x:Int},g*x=0->x=0:=λh=>(Qlk.1 h).resolve_left (by omega)
  generalize sub c a=u at *
  generalize sub k a=w at *
  refine Qlaj (z ?_) (z ?_) (z ?_)
  ·have:g*(d9 q.n p.n).x=(g*q.n.y)*p.n.z-(g*q.n.z)*p.n.y:=by simp only[d9];grind
   rw[this,e2,e3]
   have:(d9 u w).y*p.n.z-(d9 u w).z*p.n.y=w.x*dot p.n u-u.x*dot p.n w:=by simp only[d9,dot];grind
   rw[this,d1,d2];simp
  ·have:g*(d9 q.n p.n).y=(g*q.n.z)*p.n.x-(g*q.n.x)*p.n.z:=by simp only[d9];grind
   rw[this,e1,e3]
   have:(d9 u w).z*p.n.x-(d9 u w).x*p.n.z=w.y*dot p.n u-u.y*dot p.n w:=by simp only[d9,dot];grind
   rw[this,d1,d2];simp
  ·have:g*(d9 q.n p.n).z=(g*q.n.x)*p.n.y-(g*q.n.y)*p.n.x:=by simp only[d9];grind
   rw[this,e1,e2]
   have:(d9 u w).x*p.n.y-(d9 u w).y*p.n.x=w.z*dot p.n u-u.z*dot p.n w:=by simp only[d9,dot];grind
   rw[this,d1,d2];simp
 obtain⟨pn,pb⟩:=p;obtain⟨qn,qb⟩:=q
 rcases Ne5 (ge3 ok) (ge3 hp) hc with e|e
 ·left
  simp only at e o t1 s1 t2 t3
  subst e;rw[<- t1,s1]
 ·right
  simp only at e o t1 s1 t2 t3
  subst e;rw[<- t1];simp only[dot,neg,o3] at s1 ⊢;simp only[Pln.mk.injEq,true_and]
  grind
structure Cc5(l:List V3)(p:Pln):Prop extends Fac l p.n p.b where
 ok:okp p=true
theorem Oe7{l:List V3}{p:Pln}{u w x:V3}(hu:u∈l)(hw:w∈l)(hx:x∈l)(h:Thr u w x p)(hh:∀v∈l,dot (o3 p).n v<=(o3 p).b):Cc5 l (o3 p):=by
 obtain⟨s1,s2,s3⟩:=ge8 h;exact⟨⟨hh,u,w,x,hu,hw,hx,wd9 h,(Jc3 p u).2 s1,(Jc3 p w).2 s2,(Jc3 p x).2 s3⟩,Ya8 h.ok⟩
theorem bf8{l:List V3}{p:Pln}{u w x:V3}(hu:u∈l)(hw:w∈l)(hx:x∈l)(h:Thr u w x p)(hh:∀v∈l,dot p.n v<=p.b):Cc5 l p:=by
 obtain⟨s1,s2,s3⟩:=ge8 h;exact⟨⟨hh,u,w,x,hu,hw,hx,wd9 h,s1,s2,s3⟩,h.ok⟩
theorem Bf7{u w x:V3}(h:N3 u w x≠⟨0,0,0⟩):N3 w u x≠⟨0,0,0⟩/\N3 u x w≠⟨0,0,0⟩/\N3 x w u≠⟨0,0,0⟩/\N3 w x u≠⟨0,0,0⟩/\N3 x u w≠⟨0,0,0⟩:=by
 have e1:N3 w u x=neg (N3 u w x):=Qlaj (by simp only[N3,d9,Na0,neg];grind) (by simp only[N3,d9,Na0,neg];grind) (by simp only[N3,d9,Na0,neg];grind)
 have e2:N3 u x w=neg (N3 u w x):=Qlaj (by simp only[N3,d9,Na0,neg];grind) (by simp only[N3,d9,Na0,neg];grind) (by simp only[N3,d9,Na0,neg];grind)
 have e3:N3 x w u=neg (N3 u w x):=Qlaj (by simp only[N3,d9,Na0,neg];grind) (by simp only[N3,d9,Na0,neg];grind) (by simp only[N3,d9,Na0,neg];grind)
 have e4:N3 w x u=N3 u w x:=Qlaj (by simp only[N3,d9,Na0];grind) (by simp only[N3,d9,Na0];grind) (by simp only[N3,d9,Na0];grind)
 have e5:N3 x u w=N3 u w x:=Qlaj (by simp only[N3,d9,Na0];grind) (by simp only[N3,d9,Na0];grind) (by simp only[N3,d9,Na0];grind)
 rw[e1,e2,e3,e4,e5];exact⟨Hd1 h,Hd1 h,Hd1 h,h,h⟩
theorem if5{u w x:V3}(h:N3 u w x≠⟨0,0,0⟩):u≠w/\u≠x/\w≠x:=by
 refine⟨λe=>h ?_,λe=>h ?_,λe=>h ?_⟩<;>subst e<;>refine Qlaj ?_ ?_ ?_<;>simp only[N3,d9,Na0]<;>grind
theorem Mf7 {l : List V3} {u w x : V3} (hu : u ∈ l) (hw : w ∈ l) (hx : x ∈ l) (h : N3 u w x ≠ ⟨0, 0, 0⟩) :
  ∃a,a<l.length/\∃c,c<a/\∃k,k<c/\N3 (gL tV l a) (gL tV l c) (gL tV l k)≠⟨0,0,0⟩/\∀f:V3->Prop,f u->f w->f x->f (gL tV l a)/\f (gL tV l c)/\f (gL tV l k):=by
 obtain⟨i,hi,rfl⟩:=Qlu.1 hu;obtain⟨j,hj,rfl⟩:=Qlu.1 hw;obtain⟨k,hk,rfl⟩:=Qlu.1 hx;obtain⟨n1,n2,n3⟩:=if5 h;obtain⟨s1,s2,s3,s4,s5⟩:=Bf7 h;have d1:i≠j:=λe=>n1 (by subst e;rfl)
 have d2:i≠k:=λe=>n2 (by subst e;rfl)
 have d3:j≠k:=λe=>n3 (by subst e;rfl)
 rw[<- Ta2 tV hi,<- Ta2 tV hj,<- Ta2 tV hk] at *
 rcases Qlaa d1 with h1|h1<;>rcases Qlaa d2 with h2|h2<;>rcases Qlaa d3 with h3|h3
 ·exact⟨k,hk,j,h3,i,h1,s3,λf a b c=>⟨c,b,a⟩⟩
 ·exact⟨j,hj,k,h3,i,h2,s4,λf a b c=>⟨b,c,a⟩⟩
 ·omega
 ·exact⟨j,hj,i,h1,k,h2,s1,λf a b c=>⟨b,a,c⟩⟩
 ·exact⟨k,hk,i,h2,j,h1,s5,λf a b c=>⟨c,a,b⟩⟩
 ·omega
 ·exact⟨i,hi,k,h2,j,h3,s2,λf a b c=>⟨a,c,b⟩⟩
 ·exact⟨i,hi,j,h1,k,h3,h,λf a b c=>⟨a,b,c⟩⟩
theorem bf9{l:List V3}(hl:l.all inV=true)(p:Pln):p∈F0 l↔Cc5 l p:=by
 have hin:=Qlo.1 hl;constructor
 ·intro hp;obtain⟨a,ha,c,hc,k,hk,h1,h2⟩:=(ge4 l p).1 hp;have ma:=gLm ha;have mc:=gLm (show c<l.length by omega)
  have mk:=gLm (show k<l.length by omega)
  have ht:=(Cb7 h1).2
  rcases h2 with⟨rfl,h3⟩|⟨rfl,h3⟩
  ·exact bf8 ma mc mk ht ((Bc6 ht.ok hl).1 h3)
  ·exact Oe7 ma mc mk ht ((Bc6 (Ya8 ht.ok) hl).1 h3)
 ·intro h;obtain⟨u,w,x,hu,hw,hx,h3,t1,t2,t3⟩:=h.on;obtain⟨a,ha,c,hc,k,hk,hn,hall⟩:=Mf7 hu hw hx h3;obtain⟨i1,i2,i3⟩:=hall (λv=>inV v=true) (hin u hu) (hin w hw) (hin x hx)
  obtain⟨e1,e2,e3⟩:=hall (λv=>dot p.n v=p.b) t1 t2 t3
  have h2:=Xd4 i1 i2 i3 hn;refine (ge4 l p).2 ⟨a,ha,c,hc,k,hk,h2,?_⟩;have hh:=(Bc6 h.ok hl).2 h.hd
  rcases hd9 (Cb7 h2).2 h.ok e1 e2 e3 with e|e
  ·exact .inl ⟨e,hh⟩
  ·exact .inr ⟨e,hh⟩
def Fv:V3:=⟨10000,100,1⟩
theorem rf5{a c:V3}(ha:inV a=true)(hc:inV c=true)(h:dot Fv a=dot Fv c):a=c:=by
 obtain⟨⟨a1,a2⟩,⟨a3,a4⟩,a5,a6⟩:=(Qb0 a).1 ha;obtain⟨⟨c1,c2⟩,⟨c3,c4⟩,c5,c6⟩:=(Qb0 c).1 hc;simp only[dot,Fv] at h;exact Qlaj (by omega) (by omega) (by omega)
structure Crs(l:List V3)(p:Pln)(v:V3):Prop where
 h:∃u w,u∈l/\w∈l/\dot p.n u=p.b/\dot p.n w=p.b/\dot Fv w<dot Fv v/\dot Fv v<dot Fv u/\N3 v u w≠⟨0,0,0⟩
 on:dot p.n v=p.b
theorem cf0(u w x:V3):N3 u x w=neg (N3 u w x):=by simp only[N3,d9,Na0,neg,V3.mk.injEq];refine⟨?_,?_,?_⟩<;>grind
theorem Oe8(u w x:V3):N3 w x u=N3 u w x:=by simp only[N3,d9,Na0,V3.mk.injEq];refine⟨?_,?_,?_⟩<;>grind
theorem Bf8{d:V3}(h:neg d=⟨0,0,0⟩):d=⟨0,0,0⟩:=by
 simp only[neg,V3.mk.injEq] at h;exact Qlaj (by show d.x=0;omega) (by show d.y=0;omega) (by show d.z=0;omega)
section
variable{l:List V3}(hl:l.all inV=true)
include hl
theorem Oe9{p:Pln}(hp:Cc5 l p):∃v∈l,Crs l p v:=by
 obtain⟨u,w,x,hu,hw,hx,h3,t1,t2,t3⟩:=hp.on;have hi:=Qlo.1 hl;obtain⟨n1,n3,n2⟩:=if5 h3;have ne:∀{a c:V3},a∈l->c∈l->a≠c->dot Fv a<dot Fv c\/dot Fv c<dot Fv a:=λ{a c} ha hc h=>by
  have:dot Fv a≠dot Fv c:=λe=>h (rf5 (hi a ha) (hi c hc) e)
  omega
 have sw:∀{a c d:V3},N3 a c d≠⟨0,0,0⟩->N3 a d c≠⟨0,0,0⟩:=λ{a c d} h e=>h (by
  have e2:=cf0 a c d;rw[e] at e2;exact Bf8 e2.symm)
 have m:∀{a c d:V3},a∈l->c∈l->d∈l->N3 c d a≠⟨0,0,0⟩->dot p.n a=p.b->dot p.n c=p.b->dot p.n d=p.b->dot Fv a<dot Fv c->dot Fv c<dot Fv d->∃v∈l,Crs l p v :=
  λ{a c d} ha hc hd hn ta tc td h1 h2=>⟨c,hc,⟨⟨d,a,hd,ha,td,ta,h1,h2,hn⟩,tc⟩⟩
 have r1:N3 w x u≠⟨0,0,0⟩:=by rw[Oe8];exact h3
 have r2:N3 x u w≠⟨0,0,0⟩:=by rw[Oe8];exact r1
 rcases ne hu hw n1 with a|a<;>rcases ne hw hx n2 with c|c<;>rcases ne hu hx n3 with d|d
 ·exact m hu hw hx r1 t1 t2 t3 a c
 ·omega
 ·exact m hu hx hw (sw r2) t1 t3 t2 d c
 ·exact m hx hu hw (h3) t3 t1 t2 d a |>.elim λv h=>⟨v,h⟩
 ·exact m hw hu hx (sw h3) t2 t1 t3 a d
 ·exact m hw hx hu r2 t2 t3 t1 c d
 ·omega
 ·exact m hx hw hu (sw r1) t3 t2 t1 c a
theorem Pe0(hs:Sol l){p q:Pln}(hp:Cc5 l p)(hq:Cc5 l q){u w x:V3}(hu:u∈l)(hw:w∈l)(hx:x∈l)(h3:N3 u w x≠⟨0,0,0⟩)(p1:dot p.n u=p.b)(p2:dot p.n w=p.b)(p3:dot p.n x=p.b)(q1:dot q.n u=q.b)(q2:dot q.n w=q.b)(q3:dot q.n x=q.b):p=q:=by
 have hi:=Qlo.1 hl;have hT:=(Cb7 (Xd4 (hi u hu) (hi w hw) (hi x hx) h3)).2;have fl:∀{p:Pln},Cc5 l p->Cc5 l (o3 p)->False:=λ{p} h h'=>by
  obtain⟨v,hv,hne⟩:=hs.off (Nc0 h.ok) p.b;have a:=h.hd v hv;have c:=h'.hd v hv;rw[Wd5] at c;have c:-dot p.n v<=-p.b:=c;omega
 rcases hd9 hT hp.ok p1 p2 p3 with e|e<;>rcases hd9 hT hq.ok q1 q2 q3 with e'|e'
 ·rw[e,e']
 ·rw[e',<- e] at hq;exact (fl hp hq).elim
 ·rw[e,<- e'] at hp;exact (fl hq hp).elim
 ·rw[e,e']
theorem Hd9(hs:Sol l){p:Pln}{v:V3}(hp:Cc5 l p)(hv:v∈l)(h:Crs l p v):∃d:V3,dot Fv d=0/\dot p.n d=0/\∀q,Cc5 l q->dot q.n v=q.b->q≠p->dot q.n d<0:=by
 obtain⟨⟨u,w,hu,hw,tu,tw,h1,h2,h3⟩,tv⟩:=h;generalize ha:dot Fv v-dot Fv w=a at *
 generalize hc:dot Fv u-dot Fv v=c at *
 have dd:∀n:V3,dot n ⟨c*(w.x-v.x)+a*(u.x-v.x),c*(w.y-v.y)+a*(u.y-v.y),c*(w.z-v.z)+a*(u.z-v.z)⟩=c*(dot n w-dot n v)+a*(dot n u-dot n v):=λn=>by simp only[dot];grind
 refine⟨⟨c*(w.x-v.x)+a*(u.x-v.x),c*(w.y-v.y)+a*(u.y-v.y),c*(w.z-v.z)+a*(u.z-v.z)⟩,?_,?_,λq hq tq hne=>?_⟩
 ·rw[dd,<- ha,<- hc];grind
 ·rw[dd,tu,tw,tv];simp
 ·rw[dd,tq];have g1:=hq.hd w hw;have g2:=hq.hd u hu;have e1:c*(dot q.n w-q.b)<=0:=Qlr (by omega) (by omega)
  have e2:a*(dot q.n u-q.b)<=0:=Qlr (by omega) (by omega)
  apply Qli;intro hno;have z1:=(Qlk.1 (show c*(dot q.n w-q.b)=0 by omega)).resolve_left (by omega)
  have z2:=(Qlk.1 (show a*(dot q.n u-q.b)=0 by omega)).resolve_left (by omega)
  exact hne (Pe0 hl hs hq hp hv hu hw h3 tq (by omega) (by omega) tv tu tw)
end
theorem opp{x y A B:Int}(hA:A<0)(hB:B<0)(h:x*A+y*B=0):(0<x->y<0)/\(x<0->0<y)/\(x=0->y=0):=by
 refine⟨λhx=>?_,λhx=>?_,λhx=>?_⟩
 ·have:=Qlad hx hA
  have h2:0<y*B:=by omega
  rcases Qls y 0 with h3|h3|h3
  ·exact h3
  ·rw[h3] at h2;simp at h2
  ·have:=Qlad h3 hB;omega
 ·have:=Qlp hx hA
  have h2:y*B<0:=by omega
  rcases Qls y 0 with h3|h3|h3
  ·have:=Qlp h3 hB;omega
  ·rw[h3] at h2;simp at h2
  ·exact h3
 ·rw[hx] at h;exact (Qlk.1 (show y*B=0 by omega)).resolve_right (by omega)
theorem cf1{l:List V3}(hl:l.all inV=true)(hs:Sol l){p q r:Pln}{v:V3}(hv:v∈l)(hp:Cc5 l p)(hq:Cc5 l q)(hr:Cc5 l r)(cp:Crs l p v)(cq:Crs l q v)(cr:Crs l r v):p=q\/q=r\/p=r:=by
 apply Qli;intro hno;have n1:p≠q:=λe=>hno (.inl e)
 have n2:q≠r:=λe=>hno (.inr (.inl e))
 have n3:p≠r:=λe=>hno (.inr (.inr e))
 obtain⟨a,fa,pa,ha⟩:=Hd9 hl hs hp hv cp;obtain⟨c,fc,qc,hc⟩:=Hd9 hl hs hq hv cq;obtain⟨d,fd,rd,hd⟩:=Hd9 hl hs hr hv cr;have pc:=hc p hp cp.on n1;have pd:=hd p hp cp.on n3;have qa:=ha q hq cq.on (Ne.symm n1);have qd:=hd q hq cq.on n2;have ra:=ha r hr cr.on (Ne.symm n3);have rc:=hc r hr cr.on (Ne.symm n2)
 -- the tf7 directions lie in a plane
 have hdet:dot a (d9 c d)=0:=by
  have e:dot Fv Fv*dot a (d9 c d)=dot Fv a*dot Fv (d9 c d)+dot Fv c*dot Fv (d9 d a)+dot Fv d*dot Fv (d9 a c):=by simp only[dot,d9,Fv];grind
  rw[fa,fc,fd] at e;have hF:dot Fv Fv=100010001:=by decide
  rw[hF] at e;omega
 have lin:∀n:V3,dot Fv (d9 c d)*dot n a+dot Fv (d9 d a)*dot n c+dot Fv (d9 a c)*dot n d=0:=λn=>by
  have e:dot Fv (d9 c d)*dot n a+dot Fv (d9 d a)*dot n c+dot Fv (d9 a c)*dot n d=dot a (d9 c d)*dot n Fv:=by simp only[dot,d9];grind
  rw[e,hdet,Int.zero_mul]
 have lp:=lin p.n;have lq:=lin q.n;have lr:=lin r.n;rw[pa] at lp;rw[qc] at lq;rw[rd] at lr;obtain⟨i1,i2,i3⟩:=opp pc pd (by omega:dot Fv (d9 d a)*dot p.n c+dot Fv (d9 a c)*dot p.n d=0)
 obtain⟨j1,j2,j3⟩:=opp qa qd (by omega:dot Fv (d9 c d)*dot q.n a+dot Fv (d9 a c)*dot q.n d=0)
 obtain⟨k1,k2,k3⟩:=opp ra rc (by omega:dot Fv (d9 c d)*dot r.n a+dot Fv (d9 d a)*dot r.n c=0)
 have z:dot Fv (d9 a c)=0:=by omega
 -- so two of them are alike
 have cr0:d9 a c=⟨0,0,0⟩:=by
  have e1:dot Fv Fv*(d9 a c).x=Fv.x*dot Fv (d9 a c)+dot Fv a*(d9 Fv c).x-dot Fv c*(d9 Fv a).x:=by simp only[dot,d9,Fv];grind
  have e2:dot Fv Fv*(d9 a c).y=Fv.y*dot Fv (d9 a c)+dot Fv a*(d9 Fv c).y-dot Fv c*(d9 Fv a).y:=by simp only[dot,d9,Fv];grind
  have e3:dot Fv Fv*(d9 a c).z=Fv.z*dot Fv (d9 a c)+dot Fv a*(d9 Fv c).z-dot Fv c*(d9 Fv a).z:=by simp only[dot,d9,Fv];grind
  rw[z,fa,fc] at e1 e2 e3;have hF:dot Fv Fv=100010001:=by decide
  rw[hF] at e1 e2 e3;exact Qlaj (by show (d9 a c).x=0;omega) (by show (d9 a c).y=0;omega) (by show (d9 a c).z=0;omega)
 have k:∀n:V3,dot p.n c*dot n a=dot p.n a*dot n c+dot n (d9 p.n (d9 a c)):=λn=>by simp only[dot,d9];grind
 have hk:=k q.n;rw[cr0,pa,qc] at hk;have e0:dot q.n (d9 p.n ⟨0,0,0⟩)=0:=by simp[dot,d9]
 rw[e0] at hk
 have:=Qlp pc qa
 omega
theorem rf6{α:Type}{l:List α}(hn:l.Nodup)(h:∀x∈l,∀y∈l,∀z∈l,x=y\/y=z\/x=z):l.length<=2:=by
 match l with
 |[]=>simp
 |[_]=>simp
 |[_,_]=>simp
 |x::y::z::l =>
  exfalso;simp only[List.nodup_cons,Qld,not_or] at hn
  rcases h x (by simp) y (by simp) z (by simp) with e|e|e
  ·exact hn.1.1 e
  ·exact hn.2.1.1 e
  ·exact hn.1.2.1 e
theorem xd0{α β:Type}{R:α->β->Prop}:∀(B:List β) (A:List α),A.Nodup->(∀x∈A,∃v∈B,R x v)->(∀v∈B,∀x∈A,∀y∈A,∀z∈A,R x v->R y v->R z v->x=y\/y=z\/x=z)->A.length<=2*B.length
 |[],A,_,h1,_=>by
  cases A with
  |nil=>simp
  |cons a A=>obtain⟨v,hv,_⟩:=h1 a (by simp);cases hv
 |b::B,A,hn,h1,h2=>by
  classical
  have hs:A.length=(A.filter λx=>decide (R x b)).length+(A.filter λx=>!decide (R x b)).length:=by
   rw[<- Qlj,<- Qlj]
   have:=Qlt (λx=>decide (R x b)) (l:=A)
   rw[this];congr 1;apply List.countP_congr;intro x _;simp
  have a1:(A.filter λx=>decide (R x b)).length<=2:=rf6 (hn.filter _) λx hx y hy z hz=>by
   obtain⟨x1,x2⟩:=Qle.1 hx;obtain⟨y1,y2⟩:=Qle.1 hy;obtain⟨z1,z2⟩:=Qle.1 hz;exact h2 b (by simp) x x1 y y1 z z1 (of_decide_eq_true x2) (of_decide_eq_true y2) (of_decide_eq_true z2)
  have a2:=xd0 (R:=R) B (A.filter λx=>!decide (R x b)) (hn.filter _) (λx hx=>by
   obtain⟨x1,x2⟩:=Qle.1 hx;have x2:¬ R x b:=by simpa using x2
   obtain⟨v,hv,hr⟩:=h1 x x1
   rcases Qld.1 hv with rfl|hv
   ·exact absurd hr x2
   ·exact⟨v,hv,hr⟩) (λv hv x hx y hy z hz=>h2 v (by simp[hv]) x (Qle.1 hx).1 y (Qle.1 hy).1 z (Qle.1 hz).1)
  simp only[List.length_cons];omega
theorem Pe1{α:Type}(f:α->Int):∀l:List α,l≠[]->∃m∈l,∀x∈l,f m<=f x
 |[],h=>absurd rfl h
 |[a],_=>⟨a,by simp,λx hx=>by rw[Qla.1 hx];exact Int.le_refl _⟩
 |a::c::l,_=>by
  obtain⟨m,hm,h⟩:=Pe1 f (c::l) (by simp)
  by_cases hle:f a<=f m
  ·refine⟨a,by simp,λx hx=>?_⟩
   rcases Qld.1 hx with rfl|hx
   ·exact Int.le_refl _
   ·have:=h x hx;omega
  ·refine⟨m,Qlv _ hm,λx hx=>?_⟩
   rcases Qld.1 hx with rfl|hx
   ·omega
   ·exact h x hx
theorem rf7{l:List V3}(hl:l.all inV=true)(hf:nf0 l=true):(F0 l).length<=2*(l.length-2):=by
 classical
 have hs:=rf4 hf;have hF:∀p∈F0 l,Cc5 l p:=λp hp=>(bf9 hl p).1 hp
 obtain⟨v0,hv0⟩:=hs.ne;have hne:l≠[]:=λe=>by rw[e] at hv0;cases hv0
 obtain⟨m,hm,hmin⟩:=Pe1 (dot Fv) l hne;obtain⟨M,hM,hmax⟩:=Pe1 (λv=>-dot Fv v) l hne
 by_cases h0:F0 l=[]
 ·rw[h0];simp
 obtain⟨p0,hp0⟩:=List.exists_mem_of_ne_nil _ h0;obtain⟨v1,hv1,c1⟩:=Oe9 hl (hF p0 hp0);obtain⟨u1,w1,hu1,hw1,_,_,q1,q2,_⟩:=c1.h;have hmM:m≠M:=λe=>by
  have a1:=hmin w1 hw1;have a2:=hmax u1 hu1;subst e;omega
 have hB:(l.filter λv=>decide (v≠m)&&decide (v≠M)).length+2<=l.length:=by
  have e:=Qlt (λv=>decide (v≠m)&&decide (v≠M)) (l:=l)
  rw[Qlj] at e;rw[Qlj] at e
  have:([m,M]:List V3).length<=(l.filter λa=>decide (¬ (decide (a≠m)&&decide (a≠M))=true)).length :=
   List.Nodup.length_le_of_subset (by simp[hmM]) (λx hx=>by
    simp only[Qld,Qlg,or_false] at hx;rw[Qle]
    rcases hx with rfl|rfl
    ·exact⟨hm,by simp⟩
    ·exact⟨hM,by simp⟩)
  simp only[List.length_cons,List.length_nil] at this;omega
 have:=xd0 (R:=λp v=>Crs l p v) (l.filter λv=>decide (v≠m)&&decide (v≠M)) (F0 l) (wd1 (qf9 l))
  (λp hp=>by
   obtain⟨v,hv,c⟩:=Oe9 hl (hF p hp);refine⟨v,Qle.2 ⟨hv,?_⟩,c⟩;obtain⟨u,w,hu,hw,_,_,g1,g2,_⟩:=c.h;have a1:=hmin w hw;have a2:=hmax u hu;have k1:v≠m:=λe=>by subst e;omega
   have k2:v≠M:=λe=>by subst e;omega
   simp[k1,k2])
  (λv hv p hp q hq r hr=>cf1 hl hs (Qle.1 hv).1 (hF p hp) (hF q hq) (hF r hr))
 omega
set_option maxRecDepth 100000
structure Re4 where
 (Ba7 Ba8 Ba9 j8 d8 j9 k8:Int)
structure Re5 where
 alt:Nat
 bs0:Bool
structure xd1 where
 i7:List V3
 (j8 d8 j9 k8:Int)
structure jd8 where
 i7:List V3
 (is7 j8 d8 j9 k8:Int)
structure jd9 where
 is8:Int
structure xd2 where
 alt:Nat
 is0:Int
structure id1 where
 i7:List V3
 (j8 d8 j9 k8:Int)
structure id3 where
 alt:Nat
 bs0:Bool
structure Re6 where
 (is3 is4 is9 ra5 Nf3 Nf4 Nf7:Int)
 (xd9 yd0:List V3)
structure Re7 where
 Nf8:Int
structure Re8 where
 (is3 is9 ra5 Nf3:Int)
structure Re9 where
 Nf4:Int
 (xd9 yd0:List V3)
structure Se0 where
 is9:Int
structure Se1 where
 ra5:Int
 (xd9 yd0:List V3)
end Go.Ev.Ce
namespace Go.Ev
open Go Go.ChangeShapes Go.RowKit
structure id4(w w':World):Prop where
 os:w'.os=w.os
 output:w'.output=w.output
 size:w.heap.size<=w'.heap.size
 block:∀k,k<w.heap.size->w'.heap[k]?=w.heap[k]?
theorem id4.kept{w w':World}(h:id4 w w')(may:MemPlace->Prop):w.keptBut w' may:=by
 refine⟨h.os,h.output,λi hi=>?_⟩
 rw[h.block i hi];cases w.heap[i]? with
 |none=>rfl
 |some o=>cases o<;>first | exact⟨rfl,rfl,rfl,λ_ _=>rfl⟩ | exact .inr ⟨rfl,rfl⟩ | rfl
theorem id4.frozen{w w':World}(h:id4 w w')(b off:Nat)(hb:b<w.heap.size):w'.frozen? ⟨b,off,none⟩=w.frozen? ⟨b,off,none⟩:=by
 simp only[World.frozen?,h.block b hb]
theorem id4.cell{w w':World}(h:id4 w w')(b off:Nat)(hb:b<w.heap.size):w'.cell? ⟨b,off,none⟩=w.cell? ⟨b,off,none⟩:=by
 simp only[World.cell?,h.block b hb]
theorem id4.same{w w':World}(h:id4 w w')(p:MemPlace)(hp:p.block<w.heap.size):w.sameAt w' p:=by
 cases p with
 |cell b off=>exact h.cell b off hp
 |map b=>exact h.block b hp
theorem ec8{α β:Type}{f:α->Option β}:∀{l:List α} {r:List β},l.mapM f=some r->r.length=l.length/\∀(j:Nat) y,r[j]?=some y->∃x,l[j]?=some x/\f x=some y
 |[],r,h=>by
  have:r=[]:=by simpa using h.symm
  subst this;simp
 |x::l,r,h=>by
  rw[List.mapM_cons] at h;obtain⟨y,h1,h2⟩:=Qll.1 h;obtain⟨r',h3,h4⟩:=Qll.1 h2
  have:r=y::r':=by simpa using h4.symm
  subst this;obtain⟨g1,g2⟩:=ec8 h3;refine⟨by simp[g1],λj z hz=>?_⟩
  cases j with
  |zero=>simp at hz;subst hz;exact⟨x,rfl,h1⟩
  |succ j=>simpa using g2 j z (by simpa using hz)
section
variable{D:Type}{enc:TypeId×Value->D}{P:Program}
theorem nc3 {T : TypeId → Prop} (K : Kids P T) (hsz : ∀ {t e : TypeId}, T t → P.underlying t = some (.slice e) → 0 < P.cellsOf e) {w w' : World} {sp : Nat → Bool} (hs : id4 w w') :
  ∀{ts:List TypeId} {vs:List Value} {ds:List (DataW D)} {ps:List MemPlace},(∀t∈ts,T t)->DataW.TrodAll enc P w 0 (λ_=>true) true ts vs ds ps->(∀p∈ps,p.block<w.heap.size)->(∀p∈ps,sp p.block=true)->DataW.TrodAll enc P w' 0 sp true ts vs ds ps
 |[],[],[],_,_,h,_,_=>h
 |t::ts,v::vs,d::ds,ps,ht,h,hlt,hsp=>by
  obtain⟨p,q,⟨fuel,h1⟩,h2,rfl⟩:=h;refine⟨p,q,⟨fuel,?_⟩,nc3 K hsz hs (λt h=>ht t (by simp[h])) h2 (λx hx=>hlt x (by simp[hx])) (λx hx=>hsp x (by simp[hx])),rfl⟩
  exact DataW.trod_stays K hsz (λh=>by cases h) (ht t (by simp)) h1 (λx hx=>hs.same x (hlt x (by simp at hx ⊢;exact .inl hx))) (λx hx=>hsp x (by simp at hx ⊢;exact .inl hx))
 |[],_::_,_,_,_,h,_,_=>h.elim
 |[],[],_::_,_,_,h,_,_=>h.elim
 |_::_,[],_,_,_,h,_,_=>h.elim
 |_::_,_::_,[],_,_,h,_,_=>h.elim
theorem Pe2 {T : TypeId → Prop} (K : Kids P T) (hsz : ∀ {t e : TypeId}, T t → P.underlying t = some (.slice e) → 0 < P.cellsOf e) {f : Func} {s : ChangeSpec} {apart fresh handsOn again : Bool} {W W' : World} {args : Array Value} {ds gs : List (DataW D)} {before : List MemPlace} {tb : TypeId}
  (hT:∀t∈f.params.toList,T t) (hW:DataW.Whole enc P f.params.toList s.vars apart W args.toList ds gs before) (hv:s.vars=[]) (hr:f.resultTypes=#[tb]) (hb:P.underlying tb=some .bool)
  (h1:(s.fn D ds).results=[.lit (.bool true)]) (h2:(s.fn D ds).args=ds) (h3:(s.fn D ds).vars=[]) (hs:id4 W W') :
  s.post enc P f apart fresh handsOn again W args (.bool true) W':=by
 have hlt:=hW.lt;obtain⟨pa,pv,hA,hV,hps,hz,hn⟩:=id hW;rw[hv] at hV;have hpv:gs=[]/\pv=[]:=by
  cases gs with
  |nil=>exact⟨rfl,hV⟩
  |cons=>exact hV.elim
 obtain⟨rfl,rfl⟩:=hpv;rw[<- List.append_nil ds] at h1 h3;have h2:(s.fn D (ds++[])).args=ds:=by rw[List.append_nil];exact h2
 have hpa:before=pa:=by rw[hps];simp
 subst hpa;have hagain:∀sp:Nat->Bool,(∀p∈before,sp p.block=true)->DataW.TrodAll enc P W' 0 sp true f.params.toList args.toList ds before:=λsp h=>nc3 K hsz hs hT hA hlt h
 have hres:∀(b:Nat) (sp:Nat->Bool) (hd:Bool),DataW.TrodAll enc P W' b sp hd f.resultTypes.toList ((Value.bool true).resultList f.resultTypes.size) [.lit (.bool true)] []:=λb sp hd=>by
  rw[hr];exact⟨[],[],⟨1,by simp[DataW.trod,hb,Value.cells,Value.resultList]⟩,rfl,rfl⟩
 have hvars:∀sp:Nat->Bool,DataW.TrodVars enc P W' sp s.vars ([]:List (DataW D)) []:=λsp=>by rw[hv];exact rfl
 have hok:∀(j:Nat) (t:TypeId) (r:Value),f.resultTypes[j]?=some t->((Value.bool true).resultList f.resultTypes.size)[j]?=some r->Value.okWide P W' .any 0 t r:=by
  rw[hr];intro j t r h4 h5;cases j with
  |zero =>
   simp at h4
   subst h4
   have:r=.bool true:=by simpa [Value.resultList] using h5.symm
   subst this;exact okWide_bool_mk hb _
  |succ j=>simp at h4
 have hag:DataW.TrodAll enc P W' 0 (λ_=>true) true (f.resultTypes.toList++f.params.toList) ((Value.bool true).resultList f.resultTypes.size++args.toList) (.lit (.bool true)::ds) before:=by
  have:=hagain (λ_=>true) (λ_ _=>rfl)
  rw[hr];exact⟨[],before,⟨1,by simp[DataW.trod,hb,Value.cells,Value.resultList]⟩,this,rfl⟩
 refine⟨ds,[],before,[],before,[],hW,?_,?_,?_,hs.kept _,λ_=>?_⟩
 ·rw[h1];exact hres _ _ _
 ·rw[h2];exact hagain _ λp hp=>by simpa using hlt p hp
 ·rw[h3];exact hvars _
 ·refine⟨hok,.lit (.bool true)::ds,[],before,⟨before,[],hag,hvars _,by simp,?_,?_⟩,?_⟩
  ·intro b off hp;rw[hs.frozen b off (hlt _ hp)];exact hz b off (by simpa using hp)
  ·intro ha;simpa using hn ha
  ·intro p hp _;exact hp
variable{w:World}{base:Nat}{spare:Nat->Bool}{held:Bool}
def ge9(w:World):Fz:=λb o=>(w.cell? ⟨b,o,none⟩).isSome
theorem rf8 {fuel : Nat} {t : TypeId} {k : IntKind} {cs : List Value} {x : DataW D × List MemPlace} (ht : P.underlying t = some (.int k)) (h : DataW.trod enc P w base spare held fuel t cs = some x) :
  ∃n,cs=[.int k n]/\(Lit.int k n).wf=true/\x.1=.lit (.int k n):=by
 cases fuel with
 |zero=>cases h
 |succ fuel =>
  match cs,h with
  |[],h=>simp[DataW.trod,ht] at h
  |[v],h =>
   cases v with
   |int k' n =>
    simp only[DataW.trod,ht] at h
    split at h
    ·rename_i hk;obtain⟨rfl,hw⟩:=hk;injection h with h;subst h
     exact⟨n,rfl,hw,rfl⟩
    ·cases h
   |_=>simp[DataW.trod,ht] at h
  |a::b::r,h=>simp[DataW.trod,ht] at h
theorem cf2 {fuel : Nat} {t : TypeId} {cs : List Value} {x : DataW D × List MemPlace} (ht : P.underlying t = some .bool) (h : DataW.trod enc P w base spare held fuel t cs = some x) :
  ∃n,cs=[.bool n]/\x.1=.lit (.bool n):=by
 cases fuel with
 |zero=>cases h
 |succ fuel =>
  match cs,h with
  |[],h=>simp[DataW.trod,ht] at h
  |[v],h =>
   cases v with
   |bool n =>
    simp only[DataW.trod,ht] at h;injection h with h;subst h
    exact⟨n,rfl,rfl⟩
   |_=>simp[DataW.trod,ht] at h
  |a::b::r,h=>simp[DataW.trod,ht] at h
theorem Pe3 {fuel : Nat} {t e : TypeId} {n : Nat} {cs : List Value} {x : DataW D × List MemPlace} (ht : P.underlying t = some (.array n e)) (h : DataW.trod enc P w base spare held fuel t cs = some x) :
  cs.length=P.cellsOf t/\∃(fuel':Nat) (xs:List (DataW D×List MemPlace)),xs.length=n/\x.1=.agg (xs.map (·.1))/\∀(j:Nat) y,xs[j]?=some y->DataW.trod enc P w base spare held fuel' e ((cs.drop (j*P.cellsOf e)).take (P.cellsOf e))=some y:=by
 cases fuel with
 |zero=>cases h
 |succ fuel =>
  unfold DataW.trod at h;rw[ht] at h
  simp only at h
  split at h
  ·rename_i hl;obtain⟨xs,h1,h2⟩:=Qlag.1 h;have hx:=ec8 h1;exact⟨hl,fuel,xs,by simpa using hx.1,by rw[<- h2],λj y hy=>by
    obtain⟨a,ha,hb⟩:=hx.2 j y hy
    have:j<n:=by
     have:=(List.getElem?_eq_some_iff.1 hy).1
     rw[hx.1] at this;simpa using this
    rw[Qlx this] at ha;injection ha with ha;subst ha;exact hb⟩
  ·cases h
theorem xe9 {fuel : Nat} {t : TypeId} {fs : Array Field} {cs : List Value} {x : DataW D × List MemPlace} (ht : P.underlying t = some (.struct fs)) (h : DataW.trod enc P w base spare held fuel t cs = some x) :
  cs.length=P.cellsOf t/\∃(fuel':Nat) (xs:List (DataW D×List MemPlace)),xs.length=fs.size/\x.1=.agg (xs.map (·.1))/\∀(j:Nat) f,fs[j]?=some f->∃y,xs[j]?=some y/\DataW.trod enc P w base spare held fuel' f.type ((cs.drop f.offset).take (P.cellsOf f.type))=some y:=by
 cases fuel with
 |zero=>cases h
 |succ fuel =>
  unfold DataW.trod at h;rw[ht] at h
  simp only at h
  split at h
  ·rename_i hl;obtain⟨xs,h1,h2⟩:=Qlag.1 h;have hx:=ec8 h1;refine⟨hl,fuel,xs,by simpa using hx.1,by rw[<- h2],λj f hf=>?_⟩
   have hj:j<xs.length:=by
    rw[hx.1];simpa using (Array.getElem?_eq_some_iff.1 hf).1
   obtain⟨a,ha,hb⟩:=hx.2 j _ (Qlh hj)
   have:a=f:=by
    have:fs.toList[j]?=some f:=by simpa using hf
    exact Option.some.inj (ha.symm.trans this)
   subst this;exact⟨_,Qlh hj,hb⟩
  ·cases h
theorem Pe4 {fuel : Nat} {t e : TypeId} {cs : List Value} {x : DataW D × List MemPlace} (ht : P.underlying t = some (.slice e)) (h : DataW.trod enc P w base spare held fuel t cs = some x) :
  cs=[.slice none 0 0]\/∃(a:Addr) (n cap fuel':Nat),cs=[.slice (some a) n cap]/\n<=cap/\cap<=maxLen/\∀j,j<n->∃row y,w.cells? base (a.add (j*P.cellsOf e)) (P.cellsOf e)=some row/\DataW.trod enc P w base spare held fuel' e row=some y:=by
 cases fuel with
 |zero=>cases h
 |succ fuel =>
  match cs,h with
  |[],h=>simp[DataW.trod,ht] at h
  |[v],h =>
   cases v with
   |slice a len cap =>
    cases a with
    |none =>
     simp only[DataW.trod,ht] at h
     split at h<;>first | (rename_i e1;cases e1;done) | skip
     all_goals first | exact .inl rfl | (simp_all;done) | skip
    |some a =>
     refine .inr ?_;simp only[DataW.trod,ht] at h
     split at h
     ·rename_i hc;obtain⟨elems,h1,h2⟩:=Qll.1 h;have hx:=ec8 h1;refine⟨a,len,cap,fuel,rfl,hc.2.1,hc.2.2,λj hj=>?_⟩
      have hj':j<elems.length:=by rw[hx.1];simpa using hj
      obtain⟨i,hi,hb⟩:=hx.2 j _ (Qlh hj');rw[Qlx hj] at hi;injection hi with hi;subst hi;obtain⟨row,r1,r2⟩:=Qll.1 hb;exact⟨row,_,r1,r2⟩
     ·cases h
   |_=>simp[DataW.trod,ht] at h
  |a::b::r,h=>simp[DataW.trod,ht] at h
theorem oe9:∀(d:Nat) (t:TypeId) (l:List (Nat×CK)),ga8 P d t=some l->∀(fuel:Nat) (cs:List Value) (x:DataW D×List MemPlace),DataW.trod enc P w base spare held fuel t cs=some x->∀p∈l,Ja3 cs.toArray p
 |0,_,_,h,_,_,_,_=>by cases h
 |d+1,t,l,h,fuel,cs,x,hx=>by
  have hpart:∀{off n:Nat} {e:TypeId} {l':List (Nat×CK)} {fuel':Nat} {y:DataW D×List MemPlace},Wb4 off n (ga8 P d e)=some l'->DataW.trod enc P w base spare held fuel' e ((cs.drop off).take n)=some y->∀p∈l',Ja3 cs.toArray p:=λ{off n e l' fuel' y} h1 h2 p hp=>by
   obtain⟨l2,g1,g2,rfl⟩:=Ta0 h1;obtain⟨q,hq,rfl⟩:=Qlae.1 hp
   have:=oe9 d e l2 g1 fuel' _ y h2 q hq
   have hlt:=g2 q hq;unfold Ja3 at this ⊢;simp only[List.getElem?_toArray,List.getElem?_take,hlt,if_true,List.getElem?_drop] at this ⊢;exact this
  have hcat:∀{α:Type} (f:α->Option (List (Nat×CK))) (xs:List α) (l:List (Nat×CK)),ra6 (xs.map f)=some l->∀p∈l,∃a∈xs,∃l',f a=some l'/\p∈l':=λ{α} f xs=>by
   induction xs with
   |nil=>intro l h;simp only[List.map_nil,ra6] at h;injection h with h;subst h;simp
   |cons a xs ih =>
    intro l h p hp;simp only[List.map_cons,ra6] at h;cases h1:f a with
    |none=>simp[h1] at h
    |some l1 =>
    cases h2:ra6 (xs.map f) with
    |none=>simp[h1,h2] at h
    |some l2 =>
    simp only[h1,h2] at h;injection h with h;subst h
    rcases Qlf.1 hp with hp|hp
    ·exact⟨a,by simp,l1,h1,hp⟩
    ·obtain⟨b,hb,r⟩:=ih l2 h2 p hp;exact⟨b,by simp[hb],r⟩
  unfold ga8 at h;cases hu:P.underlying t with
  |none=>simp[hu] at h
  |some u =>
  cases u with
  |int k =>
   simp only[hu] at h;injection h with h;subst h
   obtain⟨n,rfl,_,_⟩:=rf8 hu hx;intro p hp;simp at hp;subst hp;exact⟨n,rfl⟩
  |bool =>
   simp only[hu] at h;injection h with h;subst h
   obtain⟨n,rfl,_⟩:=cf2 hu hx;intro p hp;simp at hp;subst hp;exact⟨n,rfl⟩
  |struct fs =>
   simp only[hu] at h
   split at h
   ·cases h
   obtain⟨_,fuel',xs,_,_,hxs⟩:=xe9 hu hx;intro p hp;obtain⟨f,hf,l',h1,h2⟩:=hcat _ _ _ h p hp
   split at h1
   ·cases h1
   obtain⟨j,hj⟩:=List.getElem?_of_mem hf;obtain⟨y,_,hy⟩:=hxs j f (by simpa using hj)
   have hc:P.cellsOf f.type=szT P f.type:=by
    unfold Program.cellsOf szT;cases P.info? f.type<;>rfl
   rw[hc] at hy;exact hpart h1 hy p h2
  |array n e =>
   simp only[hu] at h
   split at h
   case isFalse=>cases h
   obtain⟨_,fuel',xs,hn,_,hxs⟩:=Pe3 hu hx;intro p hp;obtain⟨j,hj,l',h1,h2⟩:=hcat _ _ _ h p hp;have hj':j<xs.length:=by rw[hn];simpa using hj
   have hy:=hxs j _ (Qlh hj');have hc:P.cellsOf e=szT P e:=by
    unfold Program.cellsOf szT;cases P.info? e<;>rfl
   rw[hc] at hy;exact hpart h1 hy p h2
  |_=>simp[hu] at h
def db8(k:IntKind)(es:Nat)(g:Nat->Int):List b7:=(List.range es).map λc=>.v (.int k (g c))
def Ra9(k:IntKind)(es:Nat):List (Nat×CK):=(List.range es).map λc=>(c,.int k)
theorem cf3 {d : Nat} {t : TypeId} {k : IntKind} {es : Nat} (hf : ga8 P d t = some (Ra9 k es)) {fuel : Nat} {cs : List Value} {x : DataW D × List MemPlace} (hx : DataW.trod enc P w base spare held fuel t cs = some x) (hl : cs.length = es) :
  ∃g:Nat->Int,∀c,c<es->cs[c]?=some (.int k (g c)):=by
 have h:=oe9 d t _ hf fuel cs x hx;have h':∀c,∃n:Int,c<es->cs[c]?=some (.int k n):=λc=>by
  by_cases hc:c<es
  ·have:=h (c,.int k) (Qlae.2 ⟨c,by simpa using hc,rfl⟩)
   obtain⟨n,hn⟩:=this;exact⟨n,λ_=>by simpa using hn⟩
  ·exact⟨0,λh=>absurd h hc⟩
 exact⟨λc=>Classical.choose (h' c),λc hc=>Classical.choose_spec (h' c) hc⟩
theorem Pe5{F:Fz}{w:World}(k:IntKind)(n:Int):fa6 F w (.v (.int k n)) (.int k n):=.v _ rfl
theorem he0{k:IntKind}{es:Nat}{g:Nat->Int}{c:Nat}{x:b7}(h:(db8 k es g)[c]?=some x):c<es/\x=.v (.int k (g c)):=by
 unfold db8 at h;obtain⟨h1,h2⟩:=Va2 h;exact⟨h1,h2.symm⟩
theorem pd7 {t e : TypeId} {k : IntKind} {es d : Nat} (ht : P.underlying t = some (.slice e)) (hf : ga8 P d e = some (Ra9 k es)) (hes : P.cellsOf e = es) (h0 : 0 < es) {fuel : Nat} {cs : List Value} {x : DataW D × List MemPlace} (hx : DataW.trod enc P w 0 spare held fuel t cs = some x) :
  ∃(v:Value) (n:Nat) (g:Nat->Nat->Int),cs=[v]/\n<=maxLen/\fa6 (ge9 w) w (.tree es n λj=>db8 k es (g j)) v:=by
 rcases Pe4 ht hx with rfl|⟨a,n,cap,fuel',rfl,hn,hc,hel⟩
 ·exact⟨_,0,λ_ _=>0,rfl,Qlaf _,.nil _ _⟩
 ·rw[hes] at hel;have hcell:∀j,j<n->∃g:Nat->Int,∀c,c<es->w.cell? ((a.add (j*es)).add c)=some (.int k (g c)):=λj hj=>by
   obtain⟨row,y,h1,h2⟩:=hel j hj;unfold World.cells? at h1
   split at h1
   ·obtain⟨l1,l2⟩:=ec8 h1;have hl:row.length=es:=by simpa using l1
    obtain⟨g,hg⟩:=cf3 hf h2 hl;refine⟨g,λc hc=>?_⟩
    obtain⟨i,hi,hi2⟩:=l2 c _ (hg c hc);rw[Qlx hc] at hi;injection hi with hi;subst hi;exact hi2
   ·cases h1
  have hg:∀j,∃g:Nat->Int,j<n->∀c,c<es->w.cell? ((a.add (j*es)).add c)=some (.int k (g c)):=λj=>by
   by_cases hj:j<n
   ·obtain⟨g,hg⟩:=hcell j hj;exact⟨g,λ_=>hg⟩
   ·exact⟨λ_=>0,λh=>absurd h hj⟩
  obtain⟨g,hg⟩:=Classical.axiomOfChoice hg;have hspot:0<n->a.spot=none:=λhn=>by
   have:=hg 0 hn 0 h0
   simpa [Addr.add] using World.cell?_spot this
  have hw:∀j c,j<n->c<es->w.cell? ⟨a.block,a.off+(j*es+c),none⟩=some (.int k (g j c)):=λj c hj hc=>by
   have:=hg j hj c hc
   rw[da4 (hspot (by omega)),da4 rfl] at this
   simpa [Nat.add_assoc] using this
  refine⟨_,n,g,rfl,Qlw hn hc,.tree es n _ a cap (λj c=>.int k (g j c)) hspot hn (λi hi=>by simp[db8]) (λi c hi hc=>?_) hw λi c hi hc=>?_⟩
  ·unfold ge9;rw[hw i c hi hc];rfl
  ·have:=(he0 (Qlh hc)).2
   rw[this];exact Pe5 _ _
theorem ye0(w:World):C4 (λk=>w.heap.size<=k) (λ_=>⟨0,0,0⟩) [] (ge9 w) w :=
 ⟨λid b h=>by simp at h,λid id' b b' h=>by simp at h,λ_ _ h=>h,λ_ h=>h⟩
theorem ye1 {G : Nat → List Value} {f : FuncId} {S : Sum} (hS : g7 P G f S) {aargs : List b7} {args : List Value} (hrun : ∃ out, (S aargs []).run = some (b true, out)) (hl : aargs.length = args.length)
  (ha:∀(i:Nat) x x',aargs[i]?=some x->args[i]?=some x'->ka8 (λ_=>⟨0,0,0⟩) [] (ge9 w) w x x') (hG:∀g (c:Nat) x,(G g)[c]?=some x->x.oneCell'=true/\w.cell? ⟨g,c,none⟩=some x) :
  Calls P f args.toArray w λe w'=>e=.returned (.bool true)/\id4 w w':=by
 obtain⟨out,hrun⟩:=hrun;obtain⟨_,hc⟩:=hS aargs [] (b true) out hrun (λk=>w.heap.size<=k) (λ_=>⟨0,0,0⟩) (ge9 w) w args (ye0 w) hl (λi x x' h1 h2=>.val (ha i x x' h1 h2)) (λg c x hx=>by
  obtain⟨h1,h2⟩:=hG g c x hx;exact⟨h1,by unfold ge9;rw[h2];rfl,h2⟩)
 refine hc.mono λe w' ⟨r',he,ρ',F',hA,hH,hW⟩=>?_
 have:=ga9 hW
 subst this;exact⟨he,hA.ext.os,hA.ext.output,hA.ext.size,λk hk=>hA.ext.block k hk (by omega)⟩
theorem Jc4 {ρ : Rho} {H : List b9} {t e : TypeId} {k : IntKind} {es d : Nat} {v : Value} {dd : DataW D} {pp : List MemPlace} {bs : Nat} {r : Reach} (ht : P.underlying t = some (.slice e)) (hf : ga8 P d e = some (Ra9 k es)) (hes : P.cellsOf e = es) (h0 : 0 < es)
  (hok:Value.okWide P w r bs t v) (h:DataW.Trod enc P w 0 spare held t v dd pp):∃(n:Nat) (g:Nat->Nat->Int),n<=maxLen/\ka8 ρ H (ge9 w) w (.tree es n λj=>db8 k es (g j)) v:=by
 obtain⟨fuel,hx⟩:=h;obtain⟨v',n,g,h1,h2,h3⟩:=pd7 ht hf hes h0 hx;have hv:v.cells=#[v]:=by
  unfold Value.okWide at hok;rw[ht] at hok;cases v with
  |agg cs=>exfalso;simp[Cell.okWide,Cell.ok,ht] at hok
  |_=>rfl
 rw[hv] at h1
 have:v=v':=by simpa using h1
 subst this;exact⟨n,g,h2,.cell (.mem h3)⟩
end
end Go.Ev
namespace Go.Ev.L
open Go Go.Ev
theorem Pe6 {α : Type} (t : Ty α) (n : Nat) (g : Nat → Nat → Int) (f : (Nat → Int) → α) (h : ∀ j, db8 .i64 t.es (g j) = t.row (f (g j))) :
  ∃l,(R5 t).dec (.tree t.es n λj=>db8 .i64 t.es (g j))=some l/\(R5 t).grd (.tree t.es n λj=>db8 .i64 t.es (g j))=true:=by
 refine⟨lsL t n λj=>db8 .i64 t.es (g j),?_,kb9 t (f:=λk=>f (g k)) λk _=>h k⟩
 show Bool.rec (motive:=λ_=>Option (List α)) none (some (lsL t n λj=>db8 .i64 t.es (g j))) (Nat.beq t.es t.es)=_
 rw[Nat.beq_refl]
def Rdg{α:Type}(c:Cod α)(x:b7)(a:α):Prop:=c.dec x=some a/\c.grd x=true
theorem Pe7{α:Type}(t:Ty α)(n:Nat)(g:Nat->Nat->Int)(f:(Nat->Int)->α)(h:∀j,db8 .i64 t.es (g j)=t.row (f (g j))):∃l,Rdg (R5 t) (.tree t.es n λj=>db8 .i64 t.es (g j)) l:=Pe6 t n g f h
theorem id5(n:Nat)(g:Nat->Nat->Int):∃l,Rdg (R5 tI) (.tree 1 n λj=>db8 .i64 1 (g j)) l:=Pe7 tI n g (λg=>g 0) λ_=>rfl
section
variable{α β γ δ ε:Type}{c:Cod α}{d:Cod β}{e:Cod γ}{f:Cod δ}{c5:Cod ε}{x y z w v:b7}{a:α}{b':β}{g:γ}{j:δ}{m:ε}{r:b7×List b9}
theorem Mf8{k:α->β->γ->DT (b7×List b9)}(h1:Rdg c x a)(h2:Rdg d y b')(h3:Rdg e z g)(h:(k a b' g).run=some r):(pc2 c d e k [x,y,z] []).run=some r:=by
 unfold pc2;simp only[h1.1,h1.2,h2.1,h2.2,h3.1,h3.2];exact h
end
theorem rf9{g p:Bool}(hg:g=true)(hp:p=true):(DT.guard g (.ret ((one r1B).enc p,([]:List b9)))).run=some (b true,([]:List b9)):=by subst hg;subst hp;rfl
end Go.Ev.L
namespace Go.Ev.Ce
open Go Go.Ev Go.Ev.L Go.Proofs
structure B3 where
 b0:Int
 b1:Int
 b2:Int
structure B2 where
 d0:Int
 d1:Int
structure LL where
 u:List Int
 v:List Int
end Go.Ev.Ce
namespace Go.Ev.L
open Go Go.Ev
section
variable{α β γ δ ε ζ:Type}{P:Program}{G:Nat->List Value}{f:FuncId}{R0:Sum}{c:Cod α}{d:Cod β}{e:Cod γ}{c4:Cod δ}{c5:Cod ε}{c6:Cod ζ}{ρ:Type}
theorem Mf9(hb:g7 P G f R0)(R:RR ρ){o:α->β->γ->δ->ε->ζ->Option (b7×List b9)}(h:∀a b g j m n r,o a b g j m n=some r->(R0 [c.enc a,d.enc b,e.enc g,c4.enc j,c5.enc m,c6.enc n] []).run=some r):g7 P G f (se3 c d e c4 c5 c6 λa b g j m n=>rdO R (o a b g j m n)) :=
 (Ue2 hb (k:=λa b g j m n=>DT.ofOption (o a b g j m n)) λa b g j m n r hr=>h a b g j m n r (by rw[eb5] at hr;exact hr)).conv λargs blks y out hr=>by
  unfold se3 at hr
  split at hr
  ·obtain⟨a,h1,hr⟩:=G3 hr;obtain⟨b,h2,hr⟩:=G3 hr;obtain⟨g,h3,hr⟩:=G3 hr;obtain⟨j,h4,hr⟩:=G3 hr;obtain⟨m,h5,hr⟩:=G3 hr;obtain⟨n,h6,hr⟩:=G3 hr;obtain⟨g1,hr⟩:=DT.run_guard_some hr;obtain⟨g2,hr⟩:=DT.run_guard_some hr;obtain⟨g3,hr⟩:=DT.run_guard_some hr;obtain⟨g4,hr⟩:=DT.run_guard_some hr;obtain⟨g5,hr⟩:=DT.run_guard_some hr;obtain⟨g6,hr⟩:=DT.run_guard_some hr;obtain⟨e1,x,o',e2,e3⟩:=Yc0 hr;refine⟨rfl,e1,x,o',?_,e3⟩;simp only[se3,h1,h2,h3,h4,h5,h6,onO,g1,g2,g3,g4,g5,g6];show (DT.ofOption (o a b g j m n)).run=_;rw[eb5,e2]
  ·cases hr
end
end Go.Ev.L
namespace Go.Ev.Ce
open Go Go.Ev Go.Ev.L Go.Proofs
structure B6 where
 c0:Int
 c1:Int
 c2:Int
 c3:Int
 c4:Int
 c5:Int
set_option maxRecDepth 100000
structure cf4 where
 sf4:List (List Int)
 is1:Int
structure Id0 where
 ph:Nat
 is6:Int
 ns5:Nat
 eh0:List (List b7)
noncomputable def Id1:List (Nat×Sum):=[(63,ed9)]
theorem pd8:i9 prog G Id1:=⟨Ud4,trivial⟩
noncomputable def ec9(x:Int)(y:Int)(z:Int)(w:Int)(v:Int)(q:Int):Option (b7×List b9):=let t1:=(ed8 (⟨x,y,z⟩:V3) (⟨w,v,q⟩:V3));(some (.sl 0 0 6 0,[⟨73,4,[[i 1,i 0,i 0,i t1.k8],[i (-1),i 0,i 0,i t1.pe3],[i 0,i 1,i 0,i t1.pe4],[i 0,i (-1),i 0,i t1.pe5],[i 0,i 0,i 1,i t1.pe6],[i 0,i 0,i (-1),i t1.pe7]],true,false,0⟩]))
noncomputable def N8(x:Int)(y:Int)(z:Int)(w:Int)(v:Int)(q:Int):List Pln:=N9 (one (r1L tP)) (ec9 x y z w v q)
noncomputable def L1(x:Int)(y:Int)(z:Int)(w:Int)(v:Int)(q:Int):Bool:=okO (one (r1L tP)) (ec9 x y z w v q)
noncomputable def Nc3:Sum:=se3 cI cI cI cI cI cI (λx y z w v q=>.guard (L1 x y z w v q) (.ret ((one (r1L tP)).enc (N8 x y z w v q),[])))
theorem Id2:g7 prog G 93 Nc3:=Mf9 (bd b93 pd8) (one (r1L tP)) (o:=ec9) λx y z w v q=>y5 (by kernel_rfl)
structure ze0 where
 sf4:List (List Int)
 is1:Int
structure Rc7 where
 ph:Nat
 is6:Int
 ns5:Nat
 eh0:List (List b7)
noncomputable def Id3:List (Nat×Sum):=[(16,ed2)]
theorem pd9:i9 prog G Id3:=⟨Td6,trivial⟩
noncomputable def kb3(x:List Int):Option (b7×List b9):=let t1:=(db1 (lsL tI ((if 40<(↑(List.length x):Int) then 40 else (↑(List.length x):Int)).toNat-0) (λk=>(λk=>(tI).row (gL tI x k)) (0+k))));(sl (inB (if 40<(↑(List.length x):Int) then 40 else (↑(List.length x):Int)) ((List.length x)+1)) (sl (okL tI ((if 40<(↑(List.length x):Int) then 40 else (↑(List.length x):Int)).toNat-0) (λk=>(λk=>(tI).row (gL tI x k)) (0+k))) (sl (rc6 (lsL tI ((if 40<(↑(List.length x):Int) then 40 else (↑(List.length x):Int)).toNat-0) (λk=>(λk=>(tI).row (gL tI x k)) (0+k)))) (some (eL tP t1,[])) none) none) none)
noncomputable def Ua2(x:List Int):List Pln:=N9 (one (r1L tP)) (kb3 x)
noncomputable def Db1(x:List Int):Bool:=okO (one (r1L tP)) (kb3 x)
noncomputable def Nc4:Sum:=V1 (R5 tI) (λx=>.guard (Db1 x) (.ret ((one (r1L tP)).enc (Ua2 x),[])))
theorem Id4:g7 prog G 38 Nc4:=Fa2 (bd b38 pd9) (one (r1L tP)) (o:=kb3) λx=>y5 (by kernel_rfl)
noncomputable def Ub1:List (Nat×Sum):=[(40,Hb4),(101,fd7),(23,ed3)]
theorem Jc5:i9 prog G Ub1:=⟨ec5,Vd1,Td7,trivial⟩
structure wa4 where
 (jd5 Jc9:List (List Pln))
 qd2:Int
structure P1 where
 Na2:Int
noncomputable def Db2(p:wa4)(s:P1):St:=⟨.unk::.unk::eL (tLs tP) p.jd5::ra 4 (eL (tLs tP) p.Jc9::ra 18 (i p.qd2::i s.Na2::ra 14 [])),[]⟩
noncomputable def na1{α:Type}(k:P1->α)(e:Nat->α)(z:α)(p:wa4)(s:P1):α:=let t1:=(sc2 (rt tP (gL (tLs tP) p.jd5 s.Na2.toNat)));let t2:=(Pb8 (rt tP (gL (tLs tP) p.Jc9 s.Na2.toNat)) (rt tP t1));(sl (decide (s.Na2<p.qd2)) (sl (inB s.Na2 (List.length p.Jc9)) (sl (inB s.Na2 (List.length p.jd5)) (sl (okE tP (gL (tLs tP) p.jd5 s.Na2.toNat)) (sl (sc3 (rt tP (gL (tLs tP) p.jd5 s.Na2.toNat))) (sl (okE tP (gL (tLs tP) p.Jc9 s.Na2.toNat)) (sl (okE tP t1) (sl (Pb9 (rt tP (gL (tLs tP) p.Jc9 s.Na2.toNat)) (rt tP t1)) (sl (!t2) (e 1) (k ⟨W (s.Na2+1)⟩)) z) z) z) z) z) z) z) (e 2))
noncomputable def ra2(p:wa4)(s:P1):Stp P1:=na1 .next .exit .fail p s
noncomputable def db9:Lo wa4 P1:=⟨En Ub1,0,vf1,[1,1,1,0,1,4,4],[2,7,26,27],.p,[⟨sUq::sUq::.s (.c 1 (nL (tLs tP)))::ru2 4 (.s (.c 1 (nL (tLs tP)))::ru2 18 (sIq::sIq::ru2 14 [])),[],λa H=>(⟨rL (tLs tP) (slT a 2),rL (tLs tP) (slT a 7),aIq a 26⟩,⟨aIq a 27⟩)⟩],ra2,[(none,λp s=>⟨[b false],[]⟩),(some 0,λp s=>upq (Db2 p s) [(28,b (decide (s.Na2<p.qd2)))])],Db2⟩
theorem Cc6:db9.Ok:=Lo.ok [] (by kernel_rfl) .nil rfl (.cons (λa H=>by kernel_rfl) .nil) λp s=>(.of @na1 (λF _ _ _ _ _=>by unfold na1;(repeat' apply m8 (f:=F))<;>rfl) (by kernel_rfl))
noncomputable def Ia8(x:List Pln)(y:List (List Pln))(z:List (List Pln)):Option (b7×List b9):=let t1:=(fb6 (rt tP x) (rt (tLs tP) y));let t2:=(lp (ra2 (⟨rt (tLs tP) z,rt (tLs tP) t1.1,(↑(List.length z):Int)⟩:wa4)) (⟨0⟩:P1));(sl (okE tP x) (sl (okE (tLs tP) y) (sl (fb7 (rt tP x) (rt (tLs tP) y)) (sl (t1.2 != 0) (some (b false,[])) (sl ((↑(List.length t1.1):Int) != (↑(List.length z):Int)) (some (b false,[])) (sl ((cnE (tLs tP) z)&&((cnE (tLs tP) t1.1)&&true)) (sl (Nat.beq t2.1 1) (some (b false,[])) (sl (Nat.beq t2.1 2) (some (b true,[])) none)) none))) none) none) none)
noncomputable def na2(x:List Pln)(y:List (List Pln))(z:List (List Pln)):Bool:=N9 (one r1B) (Ia8 x y z)
noncomputable def na3(x:List Pln)(y:List (List Pln))(z:List (List Pln)):Bool:=okO (one r1B) (Ia8 x y z)
noncomputable def fc0:Sum:=pc2 (R5 tP) (R5 (tLs tP)) (R5 (tLs tP)) (λx y z=>.guard (na3 x y z) (.ret ((one r1B).enc (na2 x y z),[])))
theorem Rc8:g7 prog G 94 fc0:=se9 (bd b94 Jc5) (one r1B) (o:=Ia8) λx y z=>xa3 (.s .p (.s .p (.s .p (.s (.s .p (.b (.u db9.ls))) .p)))) [db9.pr] (by kernel_rfl) (.cons Cc6 .nil) (by kernel_rfl)
noncomputable def Rc9:List (Nat×Sum):=[(42,yb1)]
theorem Jc6:i9 prog G Rc9:=⟨Tb8,trivial⟩
noncomputable def Ia9(x:List (List Pln))(y:List Pln)(z:Bool):Option (b7×List b9):=let t1:=(ea7 (rt (tLs tP) x) (rt tP y));(sl (okE (tLs tP) x) (sl (okE tP y) (sl (Ia6 (rt (tLs tP) x) (rt tP y)) (sl (t1.2==0) (some (b (t1.1==z),[])) (some (b false,[]))) none) none) none)
noncomputable def ea9(x:List (List Pln))(y:List Pln)(z:Bool):Bool:=N9 (one r1B) (Ia9 x y z)
noncomputable def R3(x:List (List Pln))(y:List Pln)(z:Bool):Bool:=okO (one r1B) (Ia9 x y z)
noncomputable def yb5:Sum:=pc2 (R5 (tLs tP)) (R5 tP) cB (λx y z=>.guard (R3 x y z) (.ret ((one r1B).enc (ea9 x y z),[])))
theorem Ub2:g7 prog G 54 yb5:=se9 (bd b54 Jc6) (one r1B) (o:=Ia9) λx y z=>y5 (by kernel_rfl)
noncomputable def qd0:List (Nat×Sum):=[(47,Cc4)]
theorem id6:i9 prog G qd0:=⟨pd6,trivial⟩
noncomputable def Za2(x:List (List Pln))(y:List (List Pln))(z:Bool):Option (b7×List b9):=let t1:=(qb7 (rt (tLs tP) x) (rt (tLs tP) y));(sl (okE (tLs tP) x) (sl (okE (tLs tP) y) (sl (qb8 (rt (tLs tP) x) (rt (tLs tP) y)) (sl (t1.2==0) (some (b (t1.1==z),[])) (some (b false,[]))) none) none) none)
noncomputable def ra3(x:List (List Pln))(y:List (List Pln))(z:Bool):Bool:=N9 (one r1B) (Za2 x y z)
noncomputable def F6(x:List (List Pln))(y:List (List Pln))(z:Bool):Bool:=okO (one r1B) (Za2 x y z)
noncomputable def Rb6:Sum:=pc2 (R5 (tLs tP)) (R5 (tLs tP)) cB (λx y z=>.guard (F6 x y z) (.ret ((one r1B).enc (ra3 x y z),[])))
theorem nc4:g7 prog G 53 Rb6:=se9 (bd b53 id6) (one r1B) (o:=Za2) λx y z=>y5 (by kernel_rfl)
noncomputable def Sc0:List (Nat×Sum):=[(93,Nc3),(94,fc0),(54,yb5),(45,nc1),(53,Rb6),(49,fb5)]
theorem Jc7:i9 prog G Sc0:=⟨Id2,Rc8,Ub2,hd7,nc4,yb0,trivial⟩
noncomputable def Ja0  : Option (b7×List b9):=let t1:=(N8 0 0 0 1 1 1);let t2:=(N8 1 0 0 2 1 1);let t3:=(N8 0 0 0 2 1 1);let t4:=(N8 1 0 0 3 1 1);let t5:=(na2 (rt tP t3) [rt tP t4] [rt tP t1]);let t6:=(N8 0 0 0 3 1 1);let t7:=(N8 2 0 0 3 1 1);let t8:=(na2 (rt tP t6) [rt tP t2] [rt tP t1,rt tP t7]);let t9:=(na2 (rt tP t1) [] [rt tP t1]);let t10:=(na2 (rt tP t1) [rt tP t2] [rt tP t1]);let t11:=(ea9 [rt tP t1,rt tP t2] (rt tP t3) true);let t12:=(ea9 [rt tP t1] (rt tP t3) false);let t13:=(N8 0 1 0 1 2 1);let t14:=(fb8 (rt tP t1) [rt tP t2,rt tP t13]);let t15:=(ra3 [rt tP t3] [rt tP t1,rt tP t2] true);let t16:=(ra3 [rt tP t3] [rt tP t2] false);let t17:=(U9 [[],[],[],[],[],[],[],[],[],[],[],[],[],[],[],[],[]]);let t18:=(U9 [[(⟨(⟨2,0,0⟩:V3),1⟩:Pln)]]);let a0:=((okE tP t1)&&((okE tP t2)&&true));let a1:=((okE tP t2)&&((okE tP t13)&&true));let w0:Option (b7×List b9):=(sl a0 (sl (okE tP t3) (sl (R3 [rt tP t1,rt tP t2] (rt tP t3) true) (sl t11 (sl ((okE tP t1)&&true) (sl (okE tP t3) (sl (R3 [rt tP t1] (rt tP t3) false) (sl t12 (sl (L1 0 1 0 1 2 1) (sl (okE tP t1) (sl a1 (sl (Qa2 (rt tP t1) [rt tP t2,rt tP t13]) (sl ((okE tP t3)&&true) (sl a0 (sl (F6 [rt tP t3] [rt tP t1,rt tP t2] true) (sl t15 (sl ((okE tP t3)&&true) (sl ((okE tP t2)&&true) (sl (F6 [rt tP t3] [rt tP t2] false) (some (b false,[])) none) none) none) (some (b false,[]))) none) none) none) none) none) none) none) (sl ((okE tP t3)&&true) (sl a0 (sl (F6 [rt tP t3] [rt tP t1,rt tP t2] true) (sl t15 (sl ((okE tP t3)&&true) (sl ((okE tP t2)&&true) (sl (F6 [rt tP t3] [rt tP t2] false) (some (b false,[])) none) none) none) (some (b false,[]))) none) none) none)) none) none) none) (sl ((okE tP t3)&&true) (sl a0 (sl (F6 [rt tP t3] [rt tP t1,rt tP t2] true) (sl t15 (sl ((okE tP t3)&&true) (sl ((okE tP t2)&&true) (sl (F6 [rt tP t3] [rt tP t2] false) (some (b false,[])) none) none) none) (some (b false,[]))) none) none) none)) none) none) none);let w1:Option (b7×List b9):=(sl ((okE tP t3)&&true) (sl a0 (sl (F6 [rt tP t3] [rt tP t1,rt tP t2] true) (sl t15 (sl ((okE tP t3)&&true) (sl ((okE tP t2)&&true) (sl (F6 [rt tP t3] [rt tP t2] false) (sl t10 (some (b false,[])) (some (b false,[]))) none) none) none) (sl t10 (some (b false,[])) (some (b false,[])))) none) none) none);(sl (L1 0 0 0 1 1 1) (sl (L1 1 0 0 2 1 1) (sl (L1 0 0 0 2 1 1) (sl (L1 1 0 0 3 1 1) (sl (okE tP t3) (sl ((okE tP t4)&&true) (sl ((okE tP t1)&&true) (sl (na3 (rt tP t3) [rt tP t4] [rt tP t1]) (sl t5 (sl (L1 0 0 0 3 1 1) (sl (L1 2 0 0 3 1 1) (sl (okE tP t6) (sl ((okE tP t2)&&true) (sl ((okE tP t1)&&((okE tP t7)&&true)) (sl (na3 (rt tP t6) [rt tP t2] [rt tP t1,rt tP t7]) (sl t8 (sl (okE tP t1) (sl ((okE tP t1)&&true) (sl (na3 (rt tP t1) [] [rt tP t1]) (sl t9 (sl (okE tP t1) (sl ((okE tP t2)&&true) (sl ((okE tP t1)&&true) (sl (na3 (rt tP t1) [rt tP t2] [rt tP t1]) (sl a0 (sl (okE tP t3) (sl (R3 [rt tP t1,rt tP t2] (rt tP t3) true) (sl t11 (sl ((okE tP t1)&&true) (sl (okE tP t3) (sl (R3 [rt tP t1] (rt tP t3) false) (sl t12 (sl (L1 0 1 0 1 2 1) (sl (okE tP t1) (sl a1 (sl (Qa2 (rt tP t1) [rt tP t2,rt tP t13]) (sl ((okE tP t3)&&true) (sl a0 (sl (F6 [rt tP t3] [rt tP t1,rt tP t2] true) (sl t15 (sl ((okE tP t3)&&true) (sl ((okE tP t2)&&true) (sl (F6 [rt tP t3] [rt tP t2] false) (sl t10 (sl t14 (sl t16 (sl (V0 [[],[],[],[],[],[],[],[],[],[],[],[],[],[],[],[],[]]) (sl (t17==2) (sl (V0 [[(⟨(⟨2,0,0⟩:V3),1⟩:Pln)]]) (some (b (t18==12),[])) none) (some (b false,[]))) none) (some (b false,[]))) (some (b false,[]))) (some (b false,[]))) none) none) none) (sl t10 (sl t14 (some (b false,[])) (some (b false,[]))) (some (b false,[])))) none) none) none) none) none) none) none) w1) none) none) none) w1) none) none) none) none) none) none) none) w0) none) none) none) w0) none) none) none) none) none) none) w0) none) none) none) none) none) none) none) none)
noncomputable def Za3  : Bool:=N9 (one r1B) Ja0
noncomputable def Za4  : Bool:=okO (one r1B) Ja0
noncomputable def fc1:Sum:=be7  (.guard Za4 (.ret ((one r1B).enc Za3,[])))
theorem Sc1:g7 prog G 37 fc1:=Cf6 (bd b37 Jc7) (one r1B) (o:=Ja0) (y5 (by kernel_rfl))
structure ye2 where
 Nf5:List Pln
 (is8 j8 d8 j9:Int)
structure ye3 where
 is9:Int
structure Mc(c:List Pln):Prop where
 g:gd2 c
 l:c.length<=12
theorem cf5{l:List V3}(h:Ic1 l=0)(h8:l.length<=8):Mc (F0 l):=by
 obtain⟨h1,h2⟩:=we7 h
 have:=rf7 h1 h2
 have k:2*(l.length-2)<=12:=by omega
 exact⟨⟨by omega,λp hp=>(Ne7 hp).ok,af8 h1 h2⟩,by omega⟩
theorem pe0(x:List Int):Rd (one (r1L tP)) (wb3 x) Mc:=by
 obtain⟨v1,j1,e1,a1,b1,c1,d1⟩:=ta3 4 x 0 (by omega) (by omega) (by omega) (by omega)
 obtain⟨w1,w2,w3,j2,e2,p1,p2,p3,c2,d2⟩:=rc7 6 x j1 (by omega) (by omega) (by omega) (by omega)
 obtain⟨v3,j3,e3,a3,b3,c3,d3⟩:=ta3 6 x j2 (by omega) (by omega) (by omega) (by omega)
 obtain⟨v4,j4,e4,a4,b4,c4,d4⟩:=ta3 6 x j3 (by omega) (by omega) (by omega) (by omega)
 obtain⟨v5,j5,e5,a5,b5,c5,d5⟩:=ta3 6 x j4 (by omega) (by omega) (by omega) (by omega)
 have hin:inB (if 7<(x.length:Int) then 7 else (x.length:Int)) (x.length+1)=true:=by
  rw[Tc1];apply decide_eq_true
  split<;>omega
 have hok:∀n m,okL tI n (λk=>(λk=>tI.row (gL tI x k)) (m+k))=true:=λn m=>kb9 tI (f:=λk=>gL tI x (m+k)) λ_ _=>rfl
 unfold wb3;simp only[i5,i8,q8,e1,e2,e3,e4,e5,gf9,hf0,hin,hok,tb4,me3,Je6,Nat.beq_refl,Bool.and_true,g9];generalize hL:lsL tI _ _=L;have hg:gd2 (nd3 ⟨w1,w2,w3⟩ ⟨W (W (w1+1)+v3),W (W (w2+1)+v4),W (W (w3+1)+v5)⟩):=by
  obtain⟨q1,q2⟩:=p1;obtain⟨q3,q4⟩:=p2;obtain⟨q5,q6⟩:=p3;have i1:W (W (w1+1)+v3)=w1+1+v3:=by rw[ha0 (n:=w1+1) (by omega) (by omega),ha0 (by omega) (by omega)]
  have i2:W (W (w2+1)+v4)=w2+1+v4:=by rw[ha0 (n:=w2+1) (by omega) (by omega),ha0 (by omega) (by omega)]
  have i3:W (W (w3+1)+v5)=w3+1+v5:=by rw[ha0 (n:=w3+1) (by omega) (by omega),ha0 (by omega) (by omega)]
  rw[i1,i2,i3];refine Ne9 ⟨⟨?_,?_⟩,⟨?_,?_⟩,?_,?_⟩ ⟨⟨?_,?_⟩,⟨?_,?_⟩,?_,?_⟩ ⟨?_,?_,?_⟩<;>simp only<;>omega
 have hB6:(nd3 ⟨w1,w2,w3⟩ ⟨W (W (w1+1)+v3),W (W (w2+1)+v4),W (W (w3+1)+v5)⟩).length=6:=rfl;generalize hB:nd3 _ _=B at *
 have hl6:len (bL tP B)=6:=by rw[P7,hB6]
 have ea:app [] (bL tP B)=bL tP B:=rfl;have es:∀q:Pln,slR tP (bL tP (B++[q])) 0 (0+6+1)=B++[q]:=λq=>by
  have:=Mb9 tP (B++[q])
  rw[Qlb,hB6] at this;exact this
 have eo:∀q:Pln,okS tP (bL tP (B++[q])) 0 (0+6+1)=true:=λq=>by
  have:=Nb0 tP (B++[q])
  rw[Qlb,hB6] at this;exact this
 have hlen:∀q:Pln,(B++[q]).length<=1000000000:=λq=>by rw[Qlb,hB6];exact (by decide:6+1<=1000000000)
 have gF:∀q:Pln,bb5 (B++[q])=true:=λq=>le8 (hlen q)
 have pF:∀q:Pln,bb4 (B++[q])=ful (B++[q]):=λq=>le7 (hlen q)
 have q1:Nat.ble ((0+6)*32) room=true:=ca1 (by omega)
 have q2:Nat.ble (((0+6)+1)*32) room=true:=ca1 (by omega)
 have q3:Nat.beq (0+6) 6=true:=rfl;have hp:=Je7 L;have gf:Cb3 (ja1 L)=true:=Ye8 _ (by omega)
 simp only[hl6,ea,cc8,es,eo,gF,pF,q1,q2,q3,Qlm,gf,Ne3 (ja1 L) (by omega),g9,show Nat.beq 6 0=false from rfl,N2]
 have box:Rd (one (r1L tP)) (some (eL tP B,[])) Mc:=Je8 ⟨hg,by rw[hB6];decide⟩
 have fcs:(Ic3 (ja1 L)).2==0->Rd (one (r1L tP)) (some (eL tP (Ic3 (ja1 L)).1,[])) Mc:=λh=>Je8 (by
  unfold Ic3 at h ⊢;by_cases h0:Ic1 (ja1 L)=0
  ·rw[if_pos h0];exact cf5 h0 hp.2
  ·rw[if_neg h0] at h;exact absurd (by simpa using h) h0)
 have hcut:ful (B++[ya0 L])=true->Mc (B++[ya0 L]):=λhf=>⟨
  ⟨by rw[Qlb,hB6];exact (by decide:6+1<=47),λp h=>by
   rcases Qlf.1 h with h|h
   ·exact hg.v p h
   ·rw[Qla.1 h];exact Hd4 L,(gd1 hf).2.2⟩,by rw[Qlb,hB6];exact (by decide:6+1<=12)⟩
 exact Rd.sl (λ_=>Rd.sl (λhf=>Fd5 (by rw[Qlb,hB6];rfl) rfl (hcut hf)) λ_=>Rd.sl (λ_=>Rd.sl (λh=>fcs h) λ_=>box) λ_=>box) λ_=>Rd.sl (λ_=>Rd.sl (λh=>fcs h) λ_=>box) λ_=>box
theorem ye4(x:List Int):Mc (db1 x):=(pe0 x).p
theorem ye5(x:List Int):rc6 x=true:=(pe0 x).g
theorem Nf0(x:List Int):inB (if 40<(x.length:Int) then 40 else (x.length:Int)) (x.length+1)=true:=by
 rw[Tc1];apply decide_eq_true
 split<;>omega
theorem Pe8(x:List Int):∃L,kb3 x=some (eL tP (db1 L),[]):=by
 unfold kb3;rw[Nf0 x,kb9 tI (f:=λk=>gL tI x (0+k)) λ_ _=>rfl]
 simp only[i5,ye5,g9];exact⟨_,rfl⟩
theorem Bf9(x:List Int):Mc (Ua2 x):=by
 obtain⟨L,h⟩:=Pe8 x;unfold Ua2;rw[h,Ca8 (one (r1L tP)) (zc6 tP (db1 L))];exact ye4 L
theorem Cf0(x:List Int):Db1 x=true:=by
 obtain⟨L,h⟩:=Pe8 x;unfold Db1;rw[h];exact Oa8 _ (zc6 tP (db1 L))
def phA(R:List (List b7)):Nat:=match R with
 |[]=>0
 |_::_=>1
structure RI(y:Nat)(t:Nat)(s:Rc7):Prop where
 t:t=phA s.eh0*2+1\/t=phA s.eh0*2+2
 n:s.ns5=s.eh0.length
 y:s.eh0.length<=y
 r:∀r∈s.eh0,(tLs tI).ok r=true
structure Ms(y:Nat)(s:List (List Pln)):Prop where
 n:s.length<=y
 c:∀c∈s,Mc c
structure RM(y:Nat)(t:Nat)(s:Id0):Prop where
 h:∃O,(t=phL O*2+1\/t=phL O*2+2)/\s.eh0=bL (tLs tP) O/\s.ns5=O.length/\Ms y O
theorem Lb5{x:List (List Pln)}{y:List Pln}{z:Bool}(hy:y.length<=1000000)(hn:x.length<=1000000)(hx:∀q∈x,q.length<=1000000):ea9 x y z=((s9 x y).2==0&&(s9 x y).1==z)/\R3 x y z=true:=by
 have e:Ia9 x y z=some (b ((s9 x y).2==0&&(s9 x y).1==z),[]):=by
  unfold Ia9;simp only[i5,q8,Cc2 hy hn hx,Xd2 hy hn hx,g9];cases (s9 x y).2==0<;>rfl
 unfold ea9 R3;rw[e];exact⟨rfl,rfl⟩
theorem Cc7{x y:List (List Pln)}{z:Bool}(hx:x.length<=1000000)(hxl:∀q∈x,q.length<=1000000)(hy:y.length<=1000000)(hyl:∀q∈y,q.length<=1000000):ra3 x y z=((ab4 x y).2==0&&(ab4 x y).1==z)/\F6 x y z=true:=by
 have e:Za2 x y z=some (b ((ab4 x y).2==0&&(ab4 x y).1==z),[]):=by
  unfold Za2;simp only[i5,q8,bf5 hx hxl hy hyl,bf6 hx hxl hy hyl,g9];cases (ab4 x y).2==0<;>rfl
 unfold ra3 F6;rw[e];exact⟨rfl,rfl⟩
structure Bnd(n m:Nat)(ps:List (List Pln)):Prop where
 n:ps.length<=n
 m:∀x∈ps,x.length<=m
def Cov(s:List (List Pln))(c:List Pln):Prop:=ful c=true->∀z,Inr (c++ws) z->∃q∈s,ful q=true/\Inr (q++ws) z
theorem Cov.mono{s t:List (List Pln)}{c:List Pln}(h:Cov s c)(hs:∀q∈s,q∈t):Cov t c:=λhf z hz=>by
 obtain⟨q,hq,h2⟩:=h hf z hz;exact⟨q,hs q hq,h2⟩
theorem qb9{s:List (List Pln)}(hn:s.length<=16)(hs:∀q∈s,(chk q==0)=true):schk s=0:=by
 unfold schk;rw[if_neg (by omega),List.find?_eq_none.2 λq hq=>by have:=hs q hq;rw[beq_iff_eq] at this;simp[this]]
open Classical in
theorem id7{s:List (List Pln)}{c:List Pln}{r:List (List Pln)}(hc:(chk c==0)=true)(hs:schk s=0)(hm:oa8 c s=some r):s9 s c=(decide (Cov s c),0)/\Sa8 c s=(r,0):=by
 have e:Sa8 c s=(r,0):=by
  unfold Sa8;rw[beq_iff_eq] at hc;rw[hc,hs,hm];rfl
 refine⟨?_,e⟩;unfold s9;rw[e];have k:(((r.length:Nat):Int)==0)=decide (Cov s c):=by
  rw[Bool.eq_iff_iff,beq_iff_eq,decide_eq_true_eq];cases hf:ful c with
  |true =>
   have:=xe0 hf hm
   constructor
   ·intro h0 _;exact this.1 (List.length_eq_zero_iff.1 (by omega))
   ·intro h;rw[this.2 (h hf)];rfl
  |false =>
   rw[wd5 hf] at hm;injection hm with hm;subst hm;exact⟨λ_ h=>(by rw[hf] at h;cases h),λ_=>rfl⟩
 rw[k];rfl
theorem Mc.chk{c:List Pln}(h:Mc c):(chk c==0)=true:=h.g.chk
theorem Mc.ful{c:List Pln}(h:Mc c):ful c=true:=h.g.ful
theorem Ms.schk{y:Nat}{s:List (List Pln)}(h:Ms y s)(hy:y<=16):schk s=0:=qb9 (Qlw h.n hy) λq hq=>(h.c q hq).chk
theorem rb0{c:List Pln}{p:Pln}(hc:(chk c==0)=true)(hl:c.length<=47)(hp:okp p=true):(chk (c++[p])==0)=true:=by
 rw[beq_iff_eq,Ha3] at *
 refine⟨by rw[Qlb];simp only[List.length_singleton];omega,λq hq=>?_⟩
 rcases Qlf.1 hq with h|h
 ·exact hc.2 q h
 ·rw[Qla.1 h];exact hp
structure Und(c U:List Pln)(n:Nat)(ps:List (List Pln)):Prop where
 n:ps.length<=n
 d:∀x∈ps,x.Nodup/\(∀p∈x,p∈U)/\ful x=true/\∀z,Inr (x++ws) z->Inr (c++ws) z
theorem id8{x fs:List Pln}:∀j,j<=fs.length->∀p∈B7 x fs j,p∈x\/p∈fs
 |0,_,p,hp=>.inl hp
 |j+1,hj,p,hp=>by
  have hp:p∈lean (B7 x fs j++[gL tP fs j]):=hp
  rcases Qlf.1 (va8 hp) with h|h
  ·exact id8 j (by omega) p h
  ·rw[Qla.1 h];exact .inr (ta9 tP hj)
theorem he3{x fs:List Pln}(hx:x.Nodup):∀j,(B7 x fs j).Nodup
 |0=>hx
 |_+1=>Rb3 _
theorem Pe9{x fs U:List Pln}(hx:x.Nodup)(h1:∀p∈x,p∈U)(h2:∀p∈fs,p∈U)(hU:U.length<=47):va9 x fs=true:=Qlo.2 λj hj=>decide_eq_true (by
 have:=Qlz.1 hj
 have:=oe1 (he3 hx j (fs:=fs)) λp hp=>(id8 j (by omega) p hp).elim (h1 p) (h2 p)
 omega)
theorem Xd5{x fs:List Pln}(hx:(chk x==0)=true)(hf:∀p∈fs,okp p=true){z0:Pt}(h1:Ins (x++ws) z0)(h2:Ins (fs++ws) z0)(h48:va9 x fs=true){j:Nat}(hj:j<fs.length)(h:∀z,Inr (x++ws) z->0<=rmZ (gL tP fs j) z):Ba4 x fs j=[]:=by
 apply Qli;intro hne;obtain⟨c1,c2,c3⟩:=(gd6 hx hf h1 h2 h48 hj).2 hne;obtain⟨_,z,hz⟩:=N0.1 c1;obtain⟨k1,k2⟩:=(c3 z).1 hz
 have:=h z (((ic4 hx hf h1 h2 h48 j (by omega)).2.1 z).1 k1.inr).1
 omega
theorem Qe0{x fs E:List Pln}(hn:fs.Nodup)(h:∀j,j<fs.length->gL tP fs j∉E->Ba4 x fs j=[]):(Ea6 x fs fs.length).length<=E.length:=by
 classical
 unfold Ea6;have e1:((List.range fs.length).map (Ba4 x fs)).filter (λc=>decide (0<c.length))=((List.range fs.length).filter λj=>decide (0<(Ba4 x fs j).length)).map (Ba4 x fs):=by
  rw[List.filter_map];rfl
 rw[e1,Qln,<- Qln (f:=gL tP fs)];refine oe1 ?_ λp hp=>?_
 ·refine List.pairwise_map.2 ((List.nodup_range.filter (λj=>decide (0<(Ba4 x fs j).length))).imp_of_mem λ{a c} ha hc hne e=>hne ?_)
  have ha:=Qlz.1 (Qle.1 ha).1;have hc:=Qlz.1 (Qle.1 hc).1;have g:∀{i:Nat} (hi:i<fs.length),gL tP fs i=fs[i]:=λhi=>by simp[gL,Qlab,Qlh hi]
  rw[g ha,g hc] at e;exact (List.getElem_inj hn).1 e
 ·obtain⟨j,hj,rfl⟩:=Qlae.1 hp;obtain⟨h1,h2⟩:=Qle.1 hj;apply Qli;intro hno;rw[h j (Qlz.1 h1) hno] at h2
  simp at h2
noncomputable def Qe1(c:List Pln):List Pln:=if ful c then c.foldl (Ma5 (pts c)) [] else []
theorem sc8:lean=Qe1:=by
 funext c;unfold lean Qe1;rw[Wd0]
section
variable(L:List Pln->List Pln)
noncomputable def Xd6(x fs:List Pln):Nat->List Pln
 |0=>x
 |j+1=>L (Xd6 x fs j++[gL tP fs j])
noncomputable def sf0(x fs:List Pln)(j:Nat):List Pln:=L (Xd6 L x fs j++[o3 (gL tP fs j)])
noncomputable def sf1(x fs:List Pln)(j:Nat):List (List Pln):=((List.range j).map (sf0 L x fs)).filter λc=>decide (0<c.length)
noncomputable def Qe2(x fs:List Pln):Bool:=(List.range fs.length).all λj=>decide ((Xd6 L x fs j).length<48)
noncomputable def cf6(q x:List Pln):List (List Pln):=if apart x q then [x] else sf1 L x (L q) (L q).length
noncomputable def id9(ps:List (List Pln))(q:List Pln):Option (List (List Pln)) :=
 if ful q then (if ps.all (λx=>apart x q||Qe2 L x (L q))&&decide ((ps.flatMap (cf6 L q)).length<=200) then some (ps.flatMap (cf6 L q)) else none) else some ps
noncomputable def Qe3(c:List Pln)(s:List (List Pln)):Option (List (List Pln)) :=
 s.foldl (λst q=>st.bind λps=>id9 L ps q) (some (if ful c then [L c] else []))
end
theorem jd0(x fs:List Pln):∀j,Xd6 lean x fs j=B7 x fs j
 |0=>rfl
 |j+1=>by
  show lean (Xd6 lean x fs j++_)=lean (B7 x fs j++_);rw[jd0 x fs j]
theorem cf7:sf0 lean=Ba4:=by funext x fs j;unfold sf0 Ba4;rw[jd0]
theorem cf8:sf1 lean=Ea6:=by funext x fs j;unfold sf1 Ea6;rw[cf7]
theorem Qe4:Qe2 lean=va9:=by funext x fs;unfold Qe2 va9;simp only[jd0]
theorem cf9:cf6 lean=ya7:=by funext q x;unfold cf6 ya7;rw[cf8]
theorem Xd7:id9 lean=E8:=by
 funext ps q;unfold id9 E8;rw[cf9,Qe4];rfl
theorem Ka5:oa8=Qe3 Qe1:=by
 funext c s;rw[<- sc8];unfold oa8 Qe3;rw[Xd7]
noncomputable def bx(x y z u v w:Int):List Pln:=[⟨⟨1,0,0⟩,u⟩,⟨⟨-1,0,0⟩,-x⟩,⟨⟨0,1,0⟩,v⟩,⟨⟨0,-1,0⟩,-y⟩,⟨⟨0,0,1⟩,w⟩,⟨⟨0,0,-1⟩,-z⟩]
theorem ex1:oa8 (bx 0 0 0 2 1 1) [bx 1 0 0 3 1 1]=some [lean (bx 0 0 0 1 1 1)]:=by rw[Ka5,sc8];kernel_rfl
theorem ex2:oa8 (bx 0 0 0 3 1 1) [bx 1 0 0 2 1 1]=some [lean (bx 0 0 0 1 1 1),lean (bx 2 0 0 3 1 1)]:=by rw[Ka5,sc8];kernel_rfl
theorem ex3:oa8 (bx 0 0 0 1 1 1) []=some [lean (bx 0 0 0 1 1 1)]:=by rw[Ka5,sc8];kernel_rfl
theorem ex4:oa8 (bx 0 0 0 1 1 1) [bx 1 0 0 2 1 1]=some [lean (bx 0 0 0 1 1 1)]:=by rw[Ka5,sc8];kernel_rfl
theorem ex5:oa8 (bx 0 0 0 2 1 1) [bx 0 0 0 1 1 1,bx 1 0 0 2 1 1]=some []:=by rw[Ka5];kernel_rfl
theorem ex6:oa8 (bx 0 0 0 2 1 1) [bx 0 0 0 1 1 1]=some [lean (bx 1 0 0 2 1 1)]:=by rw[Ka5,sc8];kernel_rfl
theorem ex7:oa8 (bx 0 0 0 1 1 1) [bx 0 0 0 2 1 1]=some []:=by rw[Ka5];kernel_rfl
theorem ex8:oa8 (bx 1 0 0 2 1 1) [bx 0 0 0 2 1 1]=some []:=by rw[Ka5];kernel_rfl
theorem ex9:oa8 (bx 0 0 0 2 1 1) [bx 1 0 0 2 1 1]=some [lean (bx 0 0 0 1 1 1)]:=by rw[Ka5,sc8];kernel_rfl
theorem exA:Rb5 (bx 0 0 0 1 1 1) [bx 1 0 0 2 1 1,bx 0 1 0 1 2 1]=true:=by kernel_rfl
theorem exC:chk (bx 0 0 0 1 1 1)=0/\chk (bx 1 0 0 2 1 1)=0/\chk (bx 0 0 0 2 1 1)=0/\chk (bx 0 0 0 3 1 1)=0/\chk (bx 1 0 0 3 1 1)=0:=by refine⟨?_,?_,?_,?_,?_⟩<;>kernel_rfl
theorem bx1:(N8 0 0 0 1 1 1=bx 0 0 0 1 1 1/\L1 0 0 0 1 1 1=true)/\(N8 1 0 0 2 1 1=bx 1 0 0 2 1 1/\L1 1 0 0 2 1 1=true)/\(N8 0 0 0 2 1 1=bx 0 0 0 2 1 1/\L1 0 0 0 2 1 1=true):=by refine⟨⟨?_,?_⟩,⟨?_,?_⟩,?_,?_⟩<;>kernel_rfl
theorem bx2:(N8 1 0 0 3 1 1=bx 1 0 0 3 1 1/\L1 1 0 0 3 1 1=true)/\(N8 0 0 0 3 1 1=bx 0 0 0 3 1 1/\L1 0 0 0 3 1 1=true)/\(N8 2 0 0 3 1 1=bx 2 0 0 3 1 1/\L1 2 0 0 3 1 1=true)/\N8 0 1 0 1 2 1=bx 0 1 0 1 2 1/\L1 0 1 0 1 2 1=true:=by refine⟨⟨?_,?_⟩,⟨?_,?_⟩,⟨?_,?_⟩,?_,?_⟩<;>kernel_rfl
theorem Na1(x y z u v w:Int):(bx x y z u v w).length=6:=rfl
theorem Db3{x:List Pln}{y z:List (List Pln)}(hx:chk x=0)(hy:schk y=0)(hm:oa8 x y=some (z.map lean))(hz:∀c∈z,c.length<=1000)(hzn:z.length<=1000):na2 x y z=true/\na3 x y z=true:=by
 have hy':=wd4 hy;have hyl:∀q∈y,q.length<=1000000:=λq hq=>by have:=ge6 (hy'.2 q hq);omega
 have hxl:=ge6 hx;have e:Sa8 x y=(z.map lean,0):=by unfold Sa8;rw[hx,hy,hm];rfl
 have h:=lb0 (step:=ra2 ⟨z,z.map lean,(z.length:Int)⟩) (mk:=λj=>(⟨(j:Int)⟩:P1)) (c:=λ_=>false) (u:=1) (fin:=2) (tLs tP) z (by omega)
  (λj hj=>by
   have hc:=hz _ (ta9 (tLs tP) hj);have hll:=ec0 (gL (tLs tP) z j);have hg:gL (tLs tP) (z.map lean) j=lean (gL (tLs tP) z j):=by simp[gL,Qlab,Qlh hj]
   have hj2:j<(z.map lean).length:=by rw[Qln];exact hj
   have s1:=of0 (lean (gL (tLs tP) z j)) (by omega);have s2:=of1 (lean (gL (tLs tP) z j)) (by omega)
   have r1:=af1 (gL (tLs tP) z j) (by omega);have r2:=af2 (gL (tLs tP) z j) (by omega)
   simp only[ra2,na1,Int.toNat_natCast,i5,q8,hg,r1,r2,s1,s2,o4 hj (show z.length<=4611686018427387904 by omega),g9,N2,Bool.not_true]
   rw[btD (i6 hj),bt (f7 hj2),bt (f7 hj)])
  (by simp only[ra2,na1];rw[bfD (r8 (Qlai _))]) 0 (Qlaf _)
 rw[Qly,show (z.any λ_=>false)=false by simp] at h
 have eo:Ia8 x y z=some (b true,[]):=by
  unfold Ia8;simp only[i5,q8,i8,oe6 (x:=x) (y:=y) (by omega) (by omega) hyl,oe7 (x:=x) (y:=y) (by omega) (by omega) hyl,e,g9,Qlm]
  rw[show (⟨0⟩:P1)=⟨((0:Nat):Int)⟩ from rfl,h]
  rw[show ((((z.map lean).length:Nat):Int) != (z.length:Int))=false by rw[Qln];simp]
  simp only[Qlq,if_false,N2,xe3,xe4,g9,show ((0:Int) != 0)=false from rfl]
 unfold na2 na3;rw[eo];exact⟨rfl,rfl⟩
theorem Qe5{s:List (List Pln)}{c:List Pln}{r:List (List Pln)}(hc:chk c=0)(hs:schk s=0)(hm:oa8 c s=some r):s9 s c=(((r.length:Nat):Int)==0,0):=by
 have e:Sa8 c s=(r,0):=by unfold Sa8;rw[hc,hs,hm];rfl
 unfold s9;rw[e];rfl
theorem Nc5:Ja0=some (b true,[]):=by
 obtain⟨⟨a1,a2⟩,⟨a3,a4⟩,a5,a6⟩:=bx1;obtain⟨⟨c1,c2⟩,⟨c3,c4⟩,⟨c5,c6⟩,c7,c8⟩:=bx2;obtain⟨k1,k2,k3,k4,k5⟩:=exC;have s1:∀{a:List Pln},chk a=0->schk [a]=0:=λh=>qb9 (by simp) (by simpa using h)
 have s2:∀{a c:List Pln},chk a=0->chk c=0->schk [a,c]=0:=λh h'=>qb9 (by simp) (by simpa using ⟨h,h'⟩)
 have l1:=Db3 (z:=[bx 0 0 0 1 1 1]) k3 (s1 k5) ex1 (by simp[Na1]) (by simp)
 have l2:=Db3 (z:=[bx 0 0 0 1 1 1,bx 2 0 0 3 1 1]) k4 (s1 k2) ex2 (by simp[Na1]) (by simp)
 have l3:=Db3 (z:=[bx 0 0 0 1 1 1]) k1 (qb9 (s:=[]) (by simp) (by simp)) ex3 (by simp[Na1]) (by simp)
 have l4:=Db3 (z:=[bx 0 0 0 1 1 1]) k1 (s1 k2) ex4 (by simp[Na1]) (by simp)
 have m1:=Lb5 (x:=[bx 0 0 0 1 1 1,bx 1 0 0 2 1 1]) (y:=bx 0 0 0 2 1 1) (z:=true) (by simp[Na1]) (by simp) (by simp[Na1])
 have m2:=Lb5 (x:=[bx 0 0 0 1 1 1]) (y:=bx 0 0 0 2 1 1) (z:=false) (by simp[Na1]) (by simp) (by simp[Na1])
 have m3:=Cc7 (x:=[bx 0 0 0 2 1 1]) (y:=[bx 0 0 0 1 1 1,bx 1 0 0 2 1 1]) (z:=true) (by simp) (by simp[Na1]) (by simp) (by simp[Na1])
 have m4:=Cc7 (x:=[bx 0 0 0 2 1 1]) (y:=[bx 1 0 0 2 1 1]) (z:=false) (by simp) (by simp[Na1]) (by simp) (by simp[Na1])
 have q1:=Qe5 k3 (s2 k1 k2) ex5;have q2:=Qe5 k3 (s1 k1) ex6;have q3:=Qe5 k1 (s1 k3) ex7;have q4:=Qe5 k2 (s1 k3) ex8;have q5:=Qe5 k3 (s1 k2) ex9;have i1:inR [bx 0 0 0 2 1 1] [bx 0 0 0 1 1 1,bx 1 0 0 2 1 1]=(true,0):=Lb4 (by simp[q1])
 have i2:inR [bx 0 0 0 1 1 1,bx 1 0 0 2 1 1] [bx 0 0 0 2 1 1]=(true,0):=Lb4 (by simp[q3,q4])
 have i3:inR [bx 0 0 0 2 1 1] [bx 1 0 0 2 1 1]=(false,0):=by
  have q5':s9 [bx 1 0 0 2 1 1] (bx 0 0 0 2 1 1)=(false,0):=q5;unfold inR;rw[List.find?_cons_of_pos (by rw[q5'];rfl)]
  exact q5'
 have e1:ab4 [bx 0 0 0 2 1 1] [bx 0 0 0 1 1 1,bx 1 0 0 2 1 1]=(true,0):=by unfold ab4;rw[s1 k3,s2 k1 k2,i1,i2];rfl
 have e2:ab4 [bx 0 0 0 2 1 1] [bx 1 0 0 2 1 1]=(false,0):=by unfold ab4;rw[s1 k3,s1 k2,i3];rfl
 rw[q1] at m1;rw[q2] at m2;rw[e1] at m3;rw[e2] at m4;have z1:U9 [[],[],[],[],[],[],[],[],[],[],[],[],[],[],[],[],[]]=2:=(ec6 (by simp) (by simp)).trans (by kernel_rfl)
 have z2:V0 [[],[],[],[],[],[],[],[],[],[],[],[],[],[],[],[],[]]=true:=ec7 (by simp) (by simp)
 have z3:U9 [[(⟨(⟨2,0,0⟩:V3),1⟩:Pln)]]=12:=(ec6 (by simp) (by simp)).trans (by kernel_rfl)
 have z4:V0 [[(⟨(⟨2,0,0⟩:V3),1⟩:Pln)]]=true:=ec7 (by simp) (by simp)
 have t1:=Oe5 (c:=bx 0 0 0 1 1 1) (s:=[bx 1 0 0 2 1 1,bx 0 1 0 1 2 1]) (by simp[Na1]) (by simp) (by simp[Na1])
 have t2:=Oe6 (c:=bx 0 0 0 1 1 1) (s:=[bx 1 0 0 2 1 1,bx 0 1 0 1 2 1]) (by simp[Na1]) (by simp) (by simp[Na1])
 rw[exA] at t1;unfold Ja0;simp only[a1,a2,a3,a4,a5,a6,c1,c2,c3,c4,c5,c6,c7,c8,i5,q8,Qlm,g9,l1.1,l1.2,l2.1,l2.2,l3.1,l3.2,l4.1,l4.2,m1.1,m1.2,m2.1,m2.2,m3.1,m3.2,m4.1,m4.2,z1,z2,z3,z4,t1,t2];rfl
theorem he4:Za3=true:=by unfold Za3;rw[Nc5];rfl
theorem he5:Za4=true:=by unfold Za4;rw[Nc5];rfl
def sc9(c E:List Pln):List Pln:=c++(E++E.map o3)
theorem xd3{q:List Pln}(hq:ful q=true):∀p∈lean q,okp p=true:=λp hp=>tb9 (N0.1 hq).1 p (Qlc _ (va8 hp))
theorem ye6 {c E x q : List Pln} (he : 1 ≤ E.length) (hU : (sc9 c E).length ≤ 47) (hq : ful q = true) (hk : ∀ p ∈ q, p ∈ c ∨ p ∈ E) (hx : x.Nodup ∧ (∀ p ∈ x, p ∈ sc9 c E) ∧ ful x = true ∧ ∀ z, Inr (x ++ ws) z → Inr (c ++ ws) z) :
  Ma6 q x=true/\(ya7 q x).length<=E.length/\∀y∈ya7 q x,y.Nodup/\(∀p∈y,p∈sc9 c E)/\ful y=true/\∀z,Inr (y++ws) z->Inr (c++ws) z:=by
 obtain⟨x1,x2,x3,x4⟩:=hx;have hq2:∀p∈lean q,p∈sc9 c E:=λp hp=>by
  unfold sc9;rw[Qlf,Qlf];exact (hk p (va8 hp)).elim .inl λh=>.inr (.inl h)
 have hroom:va9 x (lean q)=true:=Pe9 x1 x2 hq2 hU;have hr:Ma6 q x=true:=by unfold Ma6;rw[hroom,Bool.or_true]
 have hok:=oe3 hq x3 hr;refine⟨hr,?_,λy hy=>?_⟩
 ·unfold ya7;cases ha:apart x q with
  |true=>rw[if_pos rfl];exact he
  |false =>
   rw[if_neg (by decide)]
   obtain⟨z0,z1,z2⟩:=Ic5 x3 hq ha;exact Qe0 (Rb3 q) λj hj hn=>Xd5 (N0.1 x3).1 (xd3 hq) z1 ((xb8 hq).2 z2) hroom hj λz hz=>(x4 z hz).h _ (Qlc _ ((hk _ (va8 (ta9 tP hj))).resolve_right hn))
 ·obtain⟨k1,k2,_⟩:=hok.1 y hy;refine⟨?_,?_,k1,λz hz=>x4 z (k2 z hz)⟩
  ·unfold ya7 at hy
   split at hy
   ·rw[Qla.1 hy];exact x1
   ·obtain⟨j,_,rfl,_⟩:=xb9.1 hy;exact Rb3 _
  ·unfold ya7 at hy;cases ha:apart x q with
   |true=>rw[ha,if_pos rfl] at hy;rw[Qla.1 hy];exact x2
   |false =>
    rw[ha,if_neg (by decide)] at hy
    obtain⟨j,hj,rfl,hne⟩:=xb9.1 hy;obtain⟨z0,z1,z2⟩:=Ic5 x3 hq ha;have hE:gL tP (lean q) j∈E:=by
     apply Qli;intro hn;exact hne (Xd5 (N0.1 x3).1 (xd3 hq) z1 ((xb8 hq).2 z2) hroom hj λz hz=>(x4 z hz).h _ (Qlc _ ((hk _ (va8 (ta9 tP hj))).resolve_right hn)))
    intro p hp
    rcases Qlf.1 (va8 (show p∈lean (B7 x (lean q) j++[o3 (gL tP (lean q) j)]) from hp)) with h|h
    ·exact (id8 j (by omega) p h).elim (x2 p) (hq2 p)
    ·rw[Qla.1 h];unfold sc9;rw[Qlf,Qlf];exact .inr (.inr (Qlae.2 ⟨_,hE,rfl⟩))
theorem he6{c E q:List Pln}{n:Nat}{ps:List (List Pln)}(he:1<=E.length)(hU:(sc9 c E).length<=47)(hk:∀p∈q,p∈c\/p∈E)(h:Und c (sc9 c E) n ps)(hn:E.length*n<=200):∃r,E8 ps q=some r/\Und c (sc9 c E) (E.length*n) r:=by
 have hnn:n<=E.length*n:=Qlah n he;unfold E8;cases hq:ful q with
 |false=>exact⟨ps,by rw[if_neg (by decide)],Qlw h.n hnn,h.d⟩
 |true =>
  have hp:=λx (hx:x∈ps)=>ye6 he hU hq hk (h.d x hx)
  have hlen:∀l:List (List Pln),(∀x∈l,x∈ps)->(l.flatMap (ya7 q)).length<=E.length*l.length:=λl=>by
   induction l with
   |nil=>intro _;simp
   |cons x l ih =>
    intro hl;have a:=ih λy hy=>hl y (Qlv _ hy)
    have d:=(hp x (hl x (by simp))).2.1
    simp only[List.flatMap_cons,Qlb,List.length_cons];rw[Nat.mul_add];omega
  have hf:=hlen ps λx hx=>hx
  have hf2:E.length*ps.length<=E.length*n:=Nat.mul_le_mul_left _ h.n;have hc:(ps.all (Ma6 q)&&decide ((ps.flatMap (ya7 q)).length<=200))=true:=by
   rw[Bool.and_eq_true];exact⟨Qlo.2 λx hx=>(hp x hx).1,decide_eq_true (by omega)⟩
  rw[if_pos rfl,if_pos hc];refine⟨_,rfl,by omega,λy hy=>?_⟩
  obtain⟨x,hx,hy⟩:=List.mem_flatMap.1 hy;exact (hp x hx).2.2 y hy
theorem Xd8{c E:List Pln}:Und c (sc9 c E) 1 (if ful c then [lean c] else []):=by
 cases hf:ful c with
 |false=>exact⟨by simp,λx hx=>by simp at hx⟩
 |true =>
  refine⟨by simp,λx hx=>?_⟩
  rw[if_pos rfl] at hx;rw[Qla.1 hx];exact⟨Rb3 c,λp hp=>Qlc _ (va8 hp),gd5 hf,λz hz=>(Pa8 hf).1 hz⟩
theorem jd1{c E:List Pln}(he:1<=E.length)(hU:(sc9 c E).length<=47):∀(s:List (List Pln)) (n:Nat) (ps:List (List Pln)),(∀q∈s,∀p∈q,p∈c\/p∈E)->Und c (sc9 c E) n ps->E.length ^ s.length*n<=200->∃r,s.foldl (λst q=>st.bind λps=>E8 ps q) (some ps)=some r
 |[],_,ps,_,_,_=>⟨ps,rfl⟩
 |q::s,n,ps,hk,h,hn=>by
  have hpw:E.length ^ (q::s).length*n=E.length ^ s.length*(E.length*n):=by rw[List.length_cons,Nat.pow_succ,Nat.mul_assoc]
  rw[hpw] at hn;have h1:1<=E.length ^ s.length:=Nat.one_le_pow _ _ he;obtain⟨r,e,h'⟩:=he6 he hU (hk q (by simp)) h (Qlw (Qlah _ h1) hn)
  show ∃r',s.foldl _ (E8 ps q)=some r';rw[e];exact jd1 he hU s _ r (λq hq=>hk q (Qlv _ hq)) h' hn
theorem Nc6{c E:List Pln}{s:List (List Pln)}(he:1<=E.length)(hU:(sc9 c E).length<=47)(hk:∀q∈s,∀p∈q,p∈c\/p∈E)(hn:E.length ^ s.length<=200):∃r,oa8 c s=some r :=
 jd1 he hU s 1 _ hk Xd8 (by omega)
theorem Xd9{c:List Pln}{p:Pln}(h:(chk (c++[p])==0)=true):(chk c==0)=true:=by
 rw[beq_iff_eq,Ha3] at *
 exact⟨by have:=h.1;rw[Qlb] at this;omega,λq hq=>h.2 q (Qlc _ hq)⟩
theorem ic7{c:List Pln}{p:Pln}{q:Pln}:q∈c++[p]++ws↔q∈c++ws\/q=p:=by
 simp only[Qlf,Qla];constructor
 ·rintro ((h|h)|h)
  ·exact .inl (.inl h)
  ·exact .inr h
  ·exact .inl (.inr h)
 ·rintro ((h|h)|h)
  ·exact .inl (.inl h)
  ·exact .inr h
  ·exact .inl (.inr h)
theorem Rb7{c:List Pln}{p:Pln}{z:Pt}:Inr (c++[p]++ws) z↔Inr (c++ws) z/\0<=rmZ p z:=by
 constructor
 ·intro h;exact⟨h.mono λq hq=>ic7.2 (.inl hq),h.h p (ic7.2 (.inr rfl))⟩
 ·rintro⟨h1,h2⟩;refine⟨h1.w,λq hq=>?_⟩
  rcases ic7.1 hq with h|rfl
  ·exact h1.h q h
  ·exact h2
theorem ic8{c:List Pln}{p:Pln}{z:Pt}:Ins (c++[p]++ws) z↔Ins (c++ws) z/\0<rmZ p z:=by
 constructor
 ·intro h;exact⟨h.mono λq hq=>ic7.2 (.inl hq),h.h p (ic7.2 (.inr rfl))⟩
 ·rintro⟨h1,h2⟩;refine⟨h1.w,λq hq=>?_⟩
  rcases ic7.1 hq with h|rfl
  ·exact h1.h q h
  ·exact h2
theorem Yd0{c:List Pln}{p:Pln}(hc:ful c=true)(hl:c.length<=47)(hp:okp p=true){z:Pt}(hz:Inr (c++ws) z):(ful (c++[p])=true/\Inr (c++[p]++ws) z)\/(ful (c++[o3 p])=true/\Inr (c++[o3 p]++ws) z):=by
 obtain⟨h1,x0,hx⟩:=N0.1 hc;have k1:=rb0 h1 hl hp;have k2:=rb0 h1 hl (Ya8 hp);have f1:∀{x},Ins (c++ws) x->0<rmZ p x->ful (c++[p])=true:=λ{x} h h'=>N0.2 ⟨k1,x,ic8.2 ⟨h,h'⟩⟩
 have f2:∀{x},Ins (c++ws) x->rmZ p x<0->ful (c++[o3 p])=true:=λ{x} h h'=>N0.2 ⟨k2,x,ic8.2 ⟨h,by rw[R2];omega⟩⟩
 rcases Qls (rmZ p z) 0 with h|h|h
 ·obtain⟨u,hu⟩:=Oe0 hz hx [o3 p] (λq hq=>by rw[Qla.1 hq,R2];omega)
  have hu2:=hu.h (o3 p) (by simp)
  rw[R2] at hu2;exact .inr ⟨f2 (hu.mono λq hq=>Qlc _ hq) (by omega),Rb7.2 ⟨hz,by rw[R2];omega⟩⟩
 ·rcases Qls (rmZ p x0) 0 with h2|h2|h2
  ·exact .inr ⟨f2 hx h2,Rb7.2 ⟨hz,by rw[R2];omega⟩⟩
  ·obtain⟨N,hN,hi⟩:=oe0 hx p.n;have h3:rmZ p (mvd N x0 p.n)=-dot p.n p.n:=by rw[gd4,h2];omega
   have:=Bc9 (Nc0 hp)
   exact .inr ⟨f2 hi (by omega),Rb7.2 ⟨hz,by rw[R2];omega⟩⟩
  ·exact .inl ⟨f1 hx h2,Rb7.2 ⟨hz,by omega⟩⟩
 ·obtain⟨u,hu⟩:=Oe0 hz hx [p] (λq hq=>by rw[Qla.1 hq];exact h)
  exact .inl ⟨f1 (hu.mono λq hq=>Qlc _ hq) (hu.h p (by simp)),Rb7.2 ⟨hz,by omega⟩⟩
theorem he7{c:List Pln}{p:Pln}(h:ful (c++[p])=true):ful c=true:=by
 obtain⟨h1,x,hx⟩:=N0.1 h;exact N0.2 ⟨Xd9 h1,x,(ic8.1 hx).1⟩
theorem Qe6{c:List Pln}{p:Pln}(hc:ful c=true)(hl:c.length<=47)(hp:okp p=true):Cov [c++[p]] c↔ful (c++[o3 p])=false:=by
 constructor
 ·intro h;cases hf:ful (c++[o3 p]) with
  |false=>rfl
  |true =>
   exfalso;obtain⟨_,x,hx⟩:=N0.1 hf;obtain⟨k1,k2⟩:=ic8.1 hx;obtain⟨q,hq,_,hi⟩:=h hc x k1.inr;rw[Qla.1 hq] at hi
   have:=(Rb7.1 hi).2
   rw[R2] at k2;omega
 ·intro h _ z hz
  rcases Yd0 hc hl hp hz with⟨h1,h2⟩|⟨h1,_⟩
  ·exact⟨_,by simp,h1,h2⟩
  ·rw[h] at h1;cases h1
theorem Id5{c:List Pln}{p:Pln}(hc:(chk c==0)=true)(hl:c.length<=47)(hp:okp p=true):apart (c++[p]) (c++[o3 p])=true:=by
 refine (Ic4 (rb0 hc hl hp) (rb0 hc hl (Ya8 hp))).2 λz z1 z2=>?_
 have h1:=(ic8.1 z1).2;have h2:=(ic8.1 z2).2;rw[R2] at h2;omega
theorem tc0{x y:List (List Pln)}(hx:schk x=0)(hy:schk y=0)(h1:∀c∈x,s9 y c=(true,0))(h2:∀c∈y,s9 x c=(true,0)):ab4 x y=(true,0):=by
 have i1:inR x y=(true,0):=Lb4 (Qlac.2 λc hc=>by rw[h1 c hc];decide)
 have i2:inR y x=(true,0):=Lb4 (Qlac.2 λc hc=>by rw[h2 c hc];decide)
 unfold ab4;rw[hx,hy,i1,i2];rfl
structure Yd1 where
 bs5:Bool
 K2:List Pln
 (Jc9 Za6 Ka7:List (List Pln))
 he9:Int
structure Yd2 where
 yb9:Int
structure Nf6(own:List Pln)(s r:List (List Pln)):Prop where
 m:Sa8 own s=(r,0)
 n:r.length<=144
 l:∀x∈r,x.length<=37
 full:∀x∈r,ful x=true
 lies:∀x∈r,Ce.lies x own=true
 off:∀x∈r,Rb5 x s=true
 dis:∀j,j<r.length->Rb5 (gL (tLs tP) r j) (r.take j)=true
 all:(s++r).length<=16->s9 (s++r) own=(true,0)
 self:r.length<=16->(s9 r own).2=9\/((s9 r own).2=0/\(s9 r own).1=Rb5 own s)
theorem df0{α:Type}(l:List α):app [] l=l:=rfl
noncomputable def fc2:List (Nat×Sum):=[(37,fc1),(38,Nc4),(51,rc3),(52,Rb4),(53,Rb6),(55,Ha1),(54,yb5),(56,qb1)]
theorem Vb5:i9 prog G fc2:=⟨Sc1,Id4,Lc9,mc9,nc4,Ka0,Ub2,Hb0,trivial⟩
noncomputable def ha6(x:List Int)(y:List Int)(z:List Int):Option (b7×List b9):=let t1:=Za3;let t2:=(Ua2 (rt tI x));let a0:=(o8 (λk=>(tP).row (gL tP t2 k)) (List.range (List.length t2)));let a1:=(if 12<(↑(List.length y):Int) then 12 else (↑(List.length y):Int));let a2:=(λk=>(λk=>(tI).row (gL tI y k)) (0+k));let t3:=(ya0 (lsL tI (a1.toNat-0) a2));let t5:=(ya8 t3);let t6:=(ra3 [rt tP t2] [slR tP (app (app [] a0) [[i t3.n.x,i t3.n.y,i t3.n.z,i t3.b]]) 0 ((0+(len a0))+1),slR tP (app (app [] a0) [[i t5.n.x,i t5.n.y,i t5.n.z,i t5.b]]) 0 ((0+(len a0))+1)] true);let t7:=(ra3 [slR tP (app (app [] a0) [[i t3.n.x,i t3.n.y,i t3.n.z,i t3.b]]) 0 ((0+(len a0))+1),slR tP (app (app [] a0) [[i t5.n.x,i t5.n.y,i t5.n.z,i t5.b]]) 0 ((0+(len a0))+1)] [rt tP t2] true);let t8:=(ka4 (slR tP (app (app [] a0) [[i t5.n.x,i t5.n.y,i t5.n.z,i t5.b]]) 0 ((0+(len a0))+1)));let t9:=(ea9 [slR tP (app (app [] a0) [[i t3.n.x,i t3.n.y,i t3.n.z,i t3.b]]) 0 ((0+(len a0))+1)] (rt tP t2) (!t8));let t10:=(ka4 (slR tP (app (app [] a0) [[i t3.n.x,i t3.n.y,i t3.n.z,i t3.b]]) 0 ((0+(len a0))+1)));let t11:=(ea9 [slR tP (app (app [] a0) [[i t5.n.x,i t5.n.y,i t5.n.z,i t5.b]]) 0 ((0+(len a0))+1)] (rt tP t2) (!t10));let t15:=(ya3 (slR tP (app (app [] a0) [[i t3.n.x,i t3.n.y,i t3.n.z,i t3.b]]) 0 ((0+(len a0))+1)) (slR tP (app (app [] a0) [[i t5.n.x,i t5.n.y,i t5.n.z,i t5.b]]) 0 ((0+(len a0))+1)));let a3:=(λk=>(λk=>(tI).row (gL tI z k)) (0+k));let t4:=(ya0 (lsL tI ((if 12<(↑(List.length z):Int) then 12 else (↑(List.length z):Int)).toNat-0) a3));let t12:=(ya8 t4);let t13:=(ra3 [slR tP (app (app [] a0) [[i t5.n.x,i t5.n.y,i t5.n.z,i t5.b]]) 0 ((0+(len a0))+1),slR tP (app (app [] (q9 (f9 (app (app [] a0) [[i t3.n.x,i t3.n.y,i t3.n.z,i t3.b]]) 0) ((0+(len a0))+1))) [[i t4.n.x,i t4.n.y,i t4.n.z,i t4.b]]) 0 ((0+(len (q9 (f9 (app (app [] a0) [[i t3.n.x,i t3.n.y,i t3.n.z,i t3.b]]) 0) ((0+(len a0))+1))))+1),slR tP (app (app [] (q9 (f9 (app (app [] a0) [[i t3.n.x,i t3.n.y,i t3.n.z,i t3.b]]) 0) ((0+(len a0))+1))) [[i t12.n.x,i t12.n.y,i t12.n.z,i t12.b]]) 0 ((0+(len (q9 (f9 (app (app [] a0) [[i t3.n.x,i t3.n.y,i t3.n.z,i t3.b]]) 0) ((0+(len a0))+1))))+1)] [slR tP (app (app [] a0) [[i t3.n.x,i t3.n.y,i t3.n.z,i t3.b]]) 0 ((0+(len a0))+1),slR tP (app (app [] a0) [[i t5.n.x,i t5.n.y,i t5.n.z,i t5.b]]) 0 ((0+(len a0))+1)] true);let t14:=(ea9 [slR tP (app (app [] a0) [[i t5.n.x,i t5.n.y,i t5.n.z,i t5.b]]) 0 ((0+(len a0))+1),slR tP (app (app [] (q9 (f9 (app (app [] a0) [[i t3.n.x,i t3.n.y,i t3.n.z,i t3.b]]) 0) ((0+(len a0))+1))) [[i t4.n.x,i t4.n.y,i t4.n.z,i t4.b]]) 0 ((0+(len (q9 (f9 (app (app [] a0) [[i t3.n.x,i t3.n.y,i t3.n.z,i t3.b]]) 0) ((0+(len a0))+1))))+1),slR tP (app (app [] (q9 (f9 (app (app [] a0) [[i t3.n.x,i t3.n.y,i t3.n.z,i t3.b]]) 0) ((0+(len a0))+1))) [[i t12.n.x,i t12.n.y,i t12.n.z,i t12.b]]) 0 ((0+(len (q9 (f9 (app (app [] a0) [[i t3.n.x,i t3.n.y,i t3.n.z,i t3.b]]) 0) ((0+(len a0))+1))))+1)] (rt tP t2) true);(sl Za4 (sl (okE tI x) (sl (Db1 (rt tI x)) (sl (inB a1 ((List.length y)+1)) (sl (okL tI (a1.toNat-0) a2) (sl (wb1 (lsL tI (a1.toNat-0) a2)) (sl (inB (if 12<(↑(List.length z):Int) then 12 else (↑(List.length z):Int)) ((List.length z)+1)) (sl (okL tI ((if 12<(↑(List.length z):Int) then 12 else (↑(List.length z):Int)).toNat-0) a3) (sl (wb1 (lsL tI ((if 12<(↑(List.length z):Int) then 12 else (↑(List.length z):Int)).toNat-0) a3)) (sl (Nat.beq 0 0&&Nat.ble ((0+(len a0))*32) room) (sl (Nat.beq (0+(len a0)) (len (app [] a0))&&Nat.ble (((0+(len a0))+1)*32) room) (sl (Nat.beq 0 0&&Nat.ble ((0+(len a0))*32) room) (sl (Nat.beq (0+(len a0)) (len (app [] a0))&&Nat.ble (((0+(len a0))+1)*32) room) (sl ((okE tP t2)&&true) (sl ((okS tP (app (app [] a0) [[i t3.n.x,i t3.n.y,i t3.n.z,i t3.b]]) 0 ((0+(len a0))+1))&&((okS tP (app (app [] a0) [[i t5.n.x,i t5.n.y,i t5.n.z,i t5.b]]) 0 ((0+(len a0))+1))&&true)) (sl (F6 [rt tP t2] [slR tP (app (app [] a0) [[i t3.n.x,i t3.n.y,i t3.n.z,i t3.b]]) 0 ((0+(len a0))+1),slR tP (app (app [] a0) [[i t5.n.x,i t5.n.y,i t5.n.z,i t5.b]]) 0 ((0+(len a0))+1)] true) (sl (!t6) (some (b false,[])) (sl ((okS tP (app (app [] a0) [[i t3.n.x,i t3.n.y,i t3.n.z,i t3.b]]) 0 ((0+(len a0))+1))&&((okS tP (app (app [] a0) [[i t5.n.x,i t5.n.y,i t5.n.z,i t5.b]]) 0 ((0+(len a0))+1))&&true)) (sl ((okE tP t2)&&true) (sl (F6 [slR tP (app (app [] a0) [[i t3.n.x,i t3.n.y,i t3.n.z,i t3.b]]) 0 ((0+(len a0))+1),slR tP (app (app [] a0) [[i t5.n.x,i t5.n.y,i t5.n.z,i t5.b]]) 0 ((0+(len a0))+1)] [rt tP t2] true) (sl (!t7) (some (b false,[])) (sl (okS tP (app (app [] a0) [[i t5.n.x,i t5.n.y,i t5.n.z,i t5.b]]) 0 ((0+(len a0))+1)) (sl (ka5 (slR tP (app (app [] a0) [[i t5.n.x,i t5.n.y,i t5.n.z,i t5.b]]) 0 ((0+(len a0))+1))) (sl ((okS tP (app (app [] a0) [[i t3.n.x,i t3.n.y,i t3.n.z,i t3.b]]) 0 ((0+(len a0))+1))&&true) (sl (okE tP t2) (sl (R3 [slR tP (app (app [] a0) [[i t3.n.x,i t3.n.y,i t3.n.z,i t3.b]]) 0 ((0+(len a0))+1)] (rt tP t2) (!t8)) (sl (!t9) (some (b false,[])) (sl (okS tP (app (app [] a0) [[i t3.n.x,i t3.n.y,i t3.n.z,i t3.b]]) 0 ((0+(len a0))+1)) (sl (ka5 (slR tP (app (app [] a0) [[i t3.n.x,i t3.n.y,i t3.n.z,i t3.b]]) 0 ((0+(len a0))+1))) (sl ((okS tP (app (app [] a0) [[i t5.n.x,i t5.n.y,i t5.n.z,i t5.b]]) 0 ((0+(len a0))+1))&&true) (sl (okE tP t2) (sl (R3 [slR tP (app (app [] a0) [[i t5.n.x,i t5.n.y,i t5.n.z,i t5.b]]) 0 ((0+(len a0))+1)] (rt tP t2) (!t10)) (sl (!t11) (some (b false,[])) (sl (Nat.beq 0 0&&Nat.ble ((0+(len (q9 (f9 (app (app [] a0) [[i t3.n.x,i t3.n.y,i t3.n.z,i t3.b]]) 0) ((0+(len a0))+1))))*32) room) (sl (Nat.beq (0+(len (q9 (f9 (app (app [] a0) [[i t3.n.x,i t3.n.y,i t3.n.z,i t3.b]]) 0) ((0+(len a0))+1)))) (len (app [] (q9 (f9 (app (app [] a0) [[i t3.n.x,i t3.n.y,i t3.n.z,i t3.b]]) 0) ((0+(len a0))+1))))&&Nat.ble (((0+(len (q9 (f9 (app (app [] a0) [[i t3.n.x,i t3.n.y,i t3.n.z,i t3.b]]) 0) ((0+(len a0))+1))))+1)*32) room) (sl (Nat.beq 0 0&&Nat.ble ((0+(len (q9 (f9 (app (app [] a0) [[i t3.n.x,i t3.n.y,i t3.n.z,i t3.b]]) 0) ((0+(len a0))+1))))*32) room) (sl (Nat.beq (0+(len (q9 (f9 (app (app [] a0) [[i t3.n.x,i t3.n.y,i t3.n.z,i t3.b]]) 0) ((0+(len a0))+1)))) (len (app [] (q9 (f9 (app (app [] a0) [[i t3.n.x,i t3.n.y,i t3.n.z,i t3.b]]) 0) ((0+(len a0))+1))))&&Nat.ble (((0+(len (q9 (f9 (app (app [] a0) [[i t3.n.x,i t3.n.y,i t3.n.z,i t3.b]]) 0) ((0+(len a0))+1))))+1)*32) room) (sl t1 (sl ((okS tP (app (app [] a0) [[i t5.n.x,i t5.n.y,i t5.n.z,i t5.b]]) 0 ((0+(len a0))+1))&&((okS tP (app (app [] (q9 (f9 (app (app [] a0) [[i t3.n.x,i t3.n.y,i t3.n.z,i t3.b]]) 0) ((0+(len a0))+1))) [[i t4.n.x,i t4.n.y,i t4.n.z,i t4.b]]) 0 ((0+(len (q9 (f9 (app (app [] a0) [[i t3.n.x,i t3.n.y,i t3.n.z,i t3.b]]) 0) ((0+(len a0))+1))))+1))&&((okS tP (app (app [] (q9 (f9 (app (app [] a0) [[i t3.n.x,i t3.n.y,i t3.n.z,i t3.b]]) 0) ((0+(len a0))+1))) [[i t12.n.x,i t12.n.y,i t12.n.z,i t12.b]]) 0 ((0+(len (q9 (f9 (app (app [] a0) [[i t3.n.x,i t3.n.y,i t3.n.z,i t3.b]]) 0) ((0+(len a0))+1))))+1))&&true))) (sl ((okS tP (app (app [] a0) [[i t3.n.x,i t3.n.y,i t3.n.z,i t3.b]]) 0 ((0+(len a0))+1))&&((okS tP (app (app [] a0) [[i t5.n.x,i t5.n.y,i t5.n.z,i t5.b]]) 0 ((0+(len a0))+1))&&true)) (sl (F6 [slR tP (app (app [] a0) [[i t5.n.x,i t5.n.y,i t5.n.z,i t5.b]]) 0 ((0+(len a0))+1),slR tP (app (app [] (q9 (f9 (app (app [] a0) [[i t3.n.x,i t3.n.y,i t3.n.z,i t3.b]]) 0) ((0+(len a0))+1))) [[i t4.n.x,i t4.n.y,i t4.n.z,i t4.b]]) 0 ((0+(len (q9 (f9 (app (app [] a0) [[i t3.n.x,i t3.n.y,i t3.n.z,i t3.b]]) 0) ((0+(len a0))+1))))+1),slR tP (app (app [] (q9 (f9 (app (app [] a0) [[i t3.n.x,i t3.n.y,i t3.n.z,i t3.b]]) 0) ((0+(len a0))+1))) [[i t12.n.x,i t12.n.y,i t12.n.z,i t12.b]]) 0 ((0+(len (q9 (f9 (app (app [] a0) [[i t3.n.x,i t3.n.y,i t3.n.z,i t3.b]]) 0) ((0+(len a0))+1))))+1)] [slR tP (app (app [] a0) [[i t3.n.x,i t3.n.y,i t3.n.z,i t3.b]]) 0 ((0+(len a0))+1),slR tP (app (app [] a0) [[i t5.n.x,i t5.n.y,i t5.n.z,i t5.b]]) 0 ((0+(len a0))+1)] true) (sl t13 (sl ((okS tP (app (app [] a0) [[i t5.n.x,i t5.n.y,i t5.n.z,i t5.b]]) 0 ((0+(len a0))+1))&&((okS tP (app (app [] (q9 (f9 (app (app [] a0) [[i t3.n.x,i t3.n.y,i t3.n.z,i t3.b]]) 0) ((0+(len a0))+1))) [[i t4.n.x,i t4.n.y,i t4.n.z,i t4.b]]) 0 ((0+(len (q9 (f9 (app (app [] a0) [[i t3.n.x,i t3.n.y,i t3.n.z,i t3.b]]) 0) ((0+(len a0))+1))))+1))&&((okS tP (app (app [] (q9 (f9 (app (app [] a0) [[i t3.n.x,i t3.n.y,i t3.n.z,i t3.b]]) 0) ((0+(len a0))+1))) [[i t12.n.x,i t12.n.y,i t12.n.z,i t12.b]]) 0 ((0+(len (q9 (f9 (app (app [] a0) [[i t3.n.x,i t3.n.y,i t3.n.z,i t3.b]]) 0) ((0+(len a0))+1))))+1))&&true))) (sl (okE tP t2) (sl (R3 [slR tP (app (app [] a0) [[i t5.n.x,i t5.n.y,i t5.n.z,i t5.b]]) 0 ((0+(len a0))+1),slR tP (app (app [] (q9 (f9 (app (app [] a0) [[i t3.n.x,i t3.n.y,i t3.n.z,i t3.b]]) 0) ((0+(len a0))+1))) [[i t4.n.x,i t4.n.y,i t4.n.z,i t4.b]]) 0 ((0+(len (q9 (f9 (app (app [] a0) [[i t3.n.x,i t3.n.y,i t3.n.z,i t3.b]]) 0) ((0+(len a0))+1))))+1),slR tP (app (app [] (q9 (f9 (app (app [] a0) [[i t3.n.x,i t3.n.y,i t3.n.z,i t3.b]]) 0) ((0+(len a0))+1))) [[i t12.n.x,i t12.n.y,i t12.n.z,i t12.b]]) 0 ((0+(len (q9 (f9 (app (app [] a0) [[i t3.n.x,i t3.n.y,i t3.n.z,i t3.b]]) 0) ((0+(len a0))+1))))+1)] (rt tP t2) true) (sl t14 (sl (okS tP (app (app [] a0) [[i t3.n.x,i t3.n.y,i t3.n.z,i t3.b]]) 0 ((0+(len a0))+1)) (sl (okS tP (app (app [] a0) [[i t5.n.x,i t5.n.y,i t5.n.z,i t5.b]]) 0 ((0+(len a0))+1)) (sl (ya4 (slR tP (app (app [] a0) [[i t3.n.x,i t3.n.y,i t3.n.z,i t3.b]]) 0 ((0+(len a0))+1)) (slR tP (app (app [] a0) [[i t5.n.x,i t5.n.y,i t5.n.z,i t5.b]]) 0 ((0+(len a0))+1))) (some (b t15,[])) none) none) none) (some (b false,[]))) none) none) none) (some (b false,[]))) none) none) none) (some (b false,[]))) none) none) none) none)) none) none) none) none) none)) none) none) none) none) none)) none) none) none)) none) none) none) none) none) none) none) none) none) none) none) none) none) none) none) none)
noncomputable def ta4(x:List Int)(y:List Int)(z:List Int):Bool:=N9 (one r1B) (ha6 x y z)
noncomputable def ta5(x:List Int)(y:List Int)(z:List Int):Bool:=okO (one r1B) (ha6 x y z)
noncomputable def kc1:Sum:=pc2 (R5 tI) (R5 tI) (R5 tI) (λx y z=>.guard (ta5 x y z) (.ret ((one r1B).enc (ta4 x y z),[])))
theorem fc3:g7 prog G 8 kc1:=se9 (bd b8 Vb5) (one r1B) (o:=ha6) λx y z=>y5 (by kernel_rfl)
theorem Nf1(x:List Int):inB (if 12<(x.length:Int) then 12 else (x.length:Int)) (x.length+1)=true:=by
 rw[Tc1];apply decide_eq_true
 split<;>omega
theorem Za5{c E:List Pln}{s:List (List Pln)}(hc:(chk c==0)=true)(hs:∀q∈s,(chk q==0)=true)(hk:∀q∈s,∀p∈q,p∈c\/p∈E)(he:E.length=4)(hl:c.length<=14)(hn:s.length<=3)(h:Cov s c):s9 s c=(true,0):=by
 classical
 obtain⟨r,hm⟩:=Nc6 (c:=c) (E:=E) (s:=s) (by omega) (by unfold sc9;simp only[Qlb,Qln];omega) hk (by
  rw[he];exact Qlw (Nat.pow_le_pow_right (by omega) hn) (by decide))
 rw[(id7 hc (qb9 (by omega) hs) hm).1,decide_eq_true h]
theorem xd4{c E:List Pln}{p:Pln}(hc:ful c=true)(hp:okp p=true)(hE:p∈E)(he:E.length=4)(hl:c.length<=12):s9 [c++[p]] c=(!ful (c++[o3 p]),0):=by
 classical
 have hch:=(N0.1 hc).1;have hs:∀q∈[c++[p]],(chk q==0)=true:=λq hq=>by rw[Qla.1 hq];exact rb0 hch (by omega) hp
 obtain⟨r,hm⟩:=Nc6 (c:=c) (E:=E) (s:=[c++[p]]) (by omega) (by unfold sc9;simp only[Qlb,Qln];omega) (λq hq x hx=>by
  rw[Qla.1 hq,Qlf,Qla] at hx;exact hx.imp id λh=>by rw[h];exact hE) (by rw[he];exact (by decide:4 ^ 1<=200))
 rw[(id7 hch (qb9 (by simp) hs) hm).1]
 have h:=Qe6 hc (by omega) hp
 cases hf:ful (c++[o3 p]) with
 |false=>rw[decide_eq_true (h.2 hf)];rfl
 |true=>rw[decide_eq_false λk=>by rw[h.1 k] at hf;cases hf];rfl
theorem jd2{c:List Pln}{s:List (List Pln)}(h:c∈s):Cov s c:=λhf _ hz=>⟨c,h,hf,hz⟩
theorem Db4{c:List Pln}{p:Pln}{s:List (List Pln)}(h:c∈s):Cov s (c++[p]):=λhf _ hz=>⟨c,h,he7 hf,(Rb7.1 hz).1⟩
theorem pe1{c:List Pln}{p:Pln}{s:List (List Pln)}(hl:c.length<=47)(hp:okp p=true)(h1:c++[p]∈s)(h2:c++[o3 p]∈s):Cov s c:=λhf _ hz =>
 (Yd0 hf hl hp hz).elim (λh=>⟨_,h1,h.1,h.2⟩) λh=>⟨_,h2,h.1,h.2⟩
theorem ye7{s t:List (List Pln)}{c:List Pln}(h:Cov s c)(h2:∀q∈s,Cov t q):Cov t c:=λhf z hz=>by
 obtain⟨q,hq,hqf,hqz⟩:=h hf z hz;exact h2 q hq hqf z hqz
structure HvF(c:List Pln)(p q:Pln):Prop where
 a:ab4 [c] [c++[p],c++[o3 p]]=(true,0)
 a':ab4 [c++[p],c++[o3 p]] [c]=(true,0)
 h:s9 [c++[p]] c=(!ful (c++[o3 p]),0)
 h':s9 [c++[o3 p]] c=(!ful (c++[p]),0)
 s:ab4 [c++[o3 p],c++[p]++[q],c++[p]++[o3 q]] [c++[p],c++[o3 p]]=(true,0)
 v:s9 [c++[o3 p],c++[p]++[q],c++[p]++[o3 q]] c=(true,0)
 d:apart (c++[p]) (c++[o3 p])=true
theorem hvF{c:List Pln}{p q:Pln}(hc:Mc c)(hp:okp p=true)(hq:okp q=true):HvF c p q:=by
 have hl:=hc.l;have hch:=hc.chk;have k1:=rb0 hch (by omega) hp
 have k2:=rb0 hch (by omega) (Ya8 hp)
 have k3:=rb0 k1 (by simp only[Qlb,List.length_singleton];omega) hq
 have k4:=rb0 k1 (by simp only[Qlb,List.length_singleton];omega) (Ya8 hq)
 have c0:∀x∈[c],(chk x==0)=true:=λx hx=>by rw[Qla.1 hx];exact hch
 have c2:∀x∈[c++[p],c++[o3 p]],(chk x==0)=true:=λx hx=>by
  simp only[Qld,Qlg,or_false] at hx
  rcases hx with rfl|rfl
  ·exact k1
  ·exact k2
 have c3:∀x∈[c++[o3 p],c++[p]++[q],c++[p]++[o3 q]],(chk x==0)=true:=λx hx=>by
  simp only[Qld,Qlg,or_false] at hx
  rcases hx with rfl|rfl|rfl
  ·exact k2
  ·exact k3
  ·exact k4
 have u0:∀x∈[c],∀y∈x,y∈c\/y∈[p,o3 p,q,o3 q]:=λx hx y hy=>by rw[Qla.1 hx] at hy;exact .inl hy
 have u2:∀x∈[c++[p],c++[o3 p]],∀y∈x,y∈c\/y∈[p,o3 p,q,o3 q]:=λx hx y hy=>by
  simp only[Qld,Qlg,or_false] at hx ⊢
  rcases hx with rfl|rfl<;>simp only[Qlf,Qla] at hy<;>rcases hy with h|h<;>simp[h]
 have u3:∀x∈[c++[o3 p],c++[p]++[q],c++[p]++[o3 q]],∀y∈x,y∈c\/y∈[p,o3 p,q,o3 q]:=λx hx y hy=>by
  simp only[Qld,Qlg,or_false] at hx ⊢
  rcases hx with rfl|rfl|rfl<;>simp only[Qlf,Qla] at hy
  ·rcases hy with h|h<;>simp[h]
  ·rcases hy with (h|h)|h<;>simp[h]
  ·rcases hy with (h|h)|h<;>simp[h]
 have up:∀{s:List (List Pln)} {d:List Pln},(∀x∈s,∀y∈x,y∈c\/y∈[p,o3 p,q,o3 q])->(∀y∈c,y∈d)->∀x∈s,∀y∈x,y∈d\/y∈[p,o3 p,q,o3 q]:=λh hs x hx y hy=>(h x hx y hy).imp (hs y) id
 have i1:∀z,∀y∈c,y∈c++[z]:=λz y hy=>Qlc _ hy
 have i2:∀w z,∀y∈c,y∈c++[w]++[z]:=λw z y hy=>Qlc _ (Qlc _ hy)
 have l1:∀z,(c++[z]).length<=14:=λz=>by simp only[Qlb,List.length_singleton];omega
 have l2:∀w z,(c++[w]++[z]).length<=14:=λw z=>by simp only[Qlb,List.length_singleton];omega
 have v0:Cov [c++[p],c++[o3 p]] c:=pe1 (by omega) hp (by simp) (by simp)
 have v1:Cov [c++[o3 p],c++[p]++[q],c++[p]++[o3 q]] (c++[p]):=pe1 (by have:=l1 p;omega) hq (by simp) (by simp)
 have v2:Cov [c++[o3 p],c++[p]++[q],c++[p]++[o3 q]] (c++[o3 p]):=jd2 (by simp)
 have a:∀d∈[c],s9 [c++[p],c++[o3 p]] d=(true,0):=λd hd=>by
  rw[Qla.1 hd];exact Za5 hch c2 u2 rfl (by omega) (by simp) v0
 have b:∀d∈[c++[p],c++[o3 p]],s9 [c] d=(true,0):=λd hd=>by
  simp only[Qld,Qlg,or_false] at hd
  rcases hd with rfl|rfl
  ·exact Za5 k1 c0 (up u0 (i1 _)) rfl (l1 _) (by simp) (Db4 (by simp))
  ·exact Za5 k2 c0 (up u0 (i1 _)) rfl (l1 _) (by simp) (Db4 (by simp))
 have s0:=qb9 (s:=[c]) (by simp) c0
 have s2:=qb9 (s:=[c++[p],c++[o3 p]]) (by simp) c2
 have s3:=qb9 (s:=[c++[o3 p],c++[p]++[q],c++[p]++[o3 q]]) (by simp) c3
 have hh:=xd4 (E:=[p,o3 p,q,o3 q]) hc.ful (Ya8 hp) (by simp) rfl hl
 rw[we4] at hh;refine⟨tc0 s0 s2 a b,tc0 s2 s0 b a,xd4 (E:=[p,o3 p,q,o3 q]) hc.ful hp (by simp) rfl hl,hh,tc0 s3 s2 (λd hd=>?_) λd hd=>?_,Za5 hch c3 u3 rfl (by omega) (by simp) (ye7 v0 λx hx=>?_),Id5 hch (by omega) hp⟩
 ·simp only[Qld,Qlg,or_false] at hd
  rcases hd with rfl|rfl|rfl
  ·exact Za5 k2 c2 (up u2 (i1 _)) rfl (l1 _) (by simp) (jd2 (by simp))
  ·exact Za5 k3 c2 (up u2 (i2 _ _)) rfl (l2 _ _) (by simp) (Db4 (by simp))
  ·exact Za5 k4 c2 (up u2 (i2 _ _)) rfl (l2 _ _) (by simp) (Db4 (by simp))
 ·simp only[Qld,Qlg,or_false] at hd
  rcases hd with rfl|rfl
  ·exact Za5 k1 c3 (up u3 (i1 _)) rfl (l1 _) (by simp) v1
  ·exact Za5 k2 c3 (up u3 (i1 _)) rfl (l1 _) (by simp) v2
 ·simp only[Qld,Qlg,or_false] at hx
  rcases hx with rfl|rfl
  ·exact v1
  ·exact v2
theorem jd3(x y z:List Int):ha6 x y z=some (b true,[]):=by
 have ho:Mc (Ua2 x):=Bf9 x;unfold ha6;simp only[i5,q8,i8,he4,he5,Cf0,Nf1,kb9 tI (f:=λk=>gL tI y (0+k)) λ_ _=>rfl,kb9 tI (f:=λk=>gL tI z (0+k)) λ_ _=>rfl,me3,tb4,df0]
 have hp:=Hd4 (lsL tI ((if 12<(y.length:Int) then 12 else (y.length:Int)).toNat-0) λk=>(λk=>tI.row (gL tI y k)) (0+k))
 have hq:=Hd4 (lsL tI ((if 12<(z.length:Int) then 12 else (z.length:Int)).toNat-0) λk=>(λk=>tI.row (gL tI z k)) (0+k))
 generalize Ua2 x=c at *
 generalize ya0 (lsL tI ((if 12<(y.length:Int) then 12 else (y.length:Int)).toNat-0) λk=>(λk=>tI.row (gL tI y k)) (0+k))=p at *
 generalize ya0 (lsL tI ((if 12<(z.length:Int) then 12 else (z.length:Int)).toNat-0) λk=>(λk=>tI.row (gL tI z k)) (0+k))=q at *
 have hl:=ho.l;have hF:=hvF ho hp hq;have ea:∀(d:List Pln) (w:Pln),app (bL tP d) [[i w.n.x,i w.n.y,i w.n.z,i w.b]]=bL tP (d++[w]):=λd w=>cc8 d w.n.x w.n.y w.n.z w.b
 have es:∀(d:List Pln) (w:Pln),slR tP (bL tP (d++[w])) 0 (d.length+1)=d++[w]:=λd w=>Ze8 _ (by simp)
 have eo:∀(d:List Pln) (w:Pln),okS tP (bL tP (d++[w])) 0 (d.length+1)=true:=λd w=>Ze7 _ (by simp)
 have et:∀(d:List Pln) (w:Pln),q9 (f9 (bL tP (d++[w])) 0) (d.length+1)=bL tP (d++[w]):=λd w=>by
  rw[L4,L5,Qly];refine List.take_of_length_le ?_;rw[<- n7,P7,Qlb,List.length_singleton];omega
 have rm:∀n:Nat,n<=100->Nat.ble (n*32) room=true:=λn h=>Nat.ble_eq_true_of_le (by unfold room;omega)
 have l1:∀w:Pln,(c++[w]).length<=13:=λw=>by simp only[Qlb,List.length_singleton];omega
 have l2:∀w v:Pln,(c++[w]++[v]).length<=14:=λw v=>by simp only[Qlb,List.length_singleton];omega
 have r1:=rm (c.length) (by omega)
 have r2:=rm (c.length+1) (by omega)
 have r3:=rm ((c++[p]).length) (by have:=l1 p;omega)
 have r4:=rm ((c++[p]).length+1) (by have:=l1 p;omega)
 simp only[ic5 (Pb1 hp),ic5 (Pb1 hq),P7,ea,es,eo,et,r1,r2,r3,r4,show Nat.beq 0 0=true from rfl,Nat.zero_add,Nat.beq_refl,Qlm,Bool.and_true,g9,rc0 (c:=c++[p]) (by have:=l1 p;omega),rc1 (c:=c++[p]) (by have:=l1 p;omega),rc0 (c:=c++[o3 p]) (by have:=l1 (o3 p);omega),rc1 (c:=c++[o3 p]) (by have:=l1 (o3 p);omega),
  Fd7 (a:=c++[p]) (c:=c++[o3 p]) (by have:=l1 p;omega) (by have:=l1 (o3 p);omega),Fd8 (a:=c++[p]) (c:=c++[o3 p]) (by have:=l1 p;omega) (by have:=l1 (o3 p);omega),hF.d]
 have n1:∀d∈[c],d.length<=1000000:=λd hd=>by rw[Qla.1 hd];omega
 have n2:∀d∈[c++[p],c++[o3 p]],d.length<=1000000:=λd hd=>by
  simp only[Qld,Qlg,or_false] at hd
  rcases hd with rfl|rfl
  ·have:=l1 p;omega
  ·have:=l1 (o3 p);omega
 have n3:∀d∈[c++[o3 p],c++[p]++[q],c++[p]++[o3 q]],d.length<=1000000:=λd hd=>by
  simp only[Qld,Qlg,or_false] at hd
  rcases hd with rfl|rfl|rfl
  ·have:=l1 (o3 p);omega
  ·have:=l2 p q;omega
  ·have:=l2 p (o3 q);omega
 have n4:∀w,∀d∈[c++[w]],d.length<=1000000:=λw d hd=>by rw[Qla.1 hd];have:=l1 w;omega
 obtain⟨a1,a2⟩:=Cc7 (x:=[c]) (y:=[c++[p],c++[o3 p]]) (z:=true) (by simp) n1 (by simp) n2
 obtain⟨b1,b2⟩:=Cc7 (x:=[c++[p],c++[o3 p]]) (y:=[c]) (z:=true) (by simp) n2 (by simp) n1
 obtain⟨c1,c2⟩:=Cc7 (x:=[c++[o3 p],c++[p]++[q],c++[p]++[o3 q]]) (y:=[c++[p],c++[o3 p]]) (z:=true) (by simp) n3 (by simp) n2
 obtain⟨d1,d2⟩:=Lb5 (x:=[c++[o3 p],c++[p]++[q],c++[p]++[o3 q]]) (y:=c) (z:=true) (by omega) (by simp) n3
 obtain⟨e1,e2⟩:=Lb5 (x:=[c++[p]]) (y:=c) (z:=!ful (c++[o3 p])) (by omega) (by simp) (n4 _)
 obtain⟨f1,f2⟩:=Lb5 (x:=[c++[o3 p]]) (y:=c) (z:=!ful (c++[p])) (by omega) (by simp) (n4 _)
 rw[hF.a] at a1;rw[hF.a'] at b1;rw[hF.s] at c1;rw[hF.v] at d1;rw[hF.h] at e1;rw[hF.h'] at f1;have bb:∀v:Bool,((0:Int)==0&&v==v)=true:=λv=>by cases v<;>rfl
 have a1:=a1.trans (bb true);have b1:=b1.trans (bb true);have c1:=c1.trans (bb true);have d1:=d1.trans (bb true);have e1:=e1.trans (bb _);have f1:=f1.trans (bb _);simp only[a1,a2,b1,b2,c1,c2,d1,d2,e1,e2,f1,f2,g9,Bool.not_true,N2]
theorem Qe7(x y z:List Int):ta4 x y z=true:=by unfold ta4;rw[jd3];rfl
theorem Qe8(x y z:List Int):ta5 x y z=true:=by unfold ta5;rw[jd3];rfl
end Go.Ev.Ce
