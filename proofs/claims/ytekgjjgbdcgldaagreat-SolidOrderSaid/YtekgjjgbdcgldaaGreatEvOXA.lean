/- Own work. -/
import Derived.Test.YtekgjjgbdcgldaaGreatEvOX3
import Derived.ChangeStays
import Derived.ChangeSame
import Derived.OpenShut
import Derived.RowKit
set_option linter.all false
def Qla:=@List.length_append
def Qlb:=@List.mem_singleton
def Qlc:=@List.getElem?_eq_getElem
def Qld:=@Nat.zero_le
def Qle:=@List.mem_filter
def Qlf:=@Nat.le_trans
def Qlg:=@Bool.and_self
def Qlh:=@Nat.lt_irrefl
def Qli:=@List.mem_append
def Qlj:=@List.all_eq_true
def Qlk:=@List.countP_eq_length_filter
def Qll:=@Int.mul_eq_zero
def Qlm:=@Bool.not_true
def Qln:=@Option.bind_eq_some_iff
def Qlo:=@List.mem_cons
def Qlp:=@Nat.ble_eq_true_of_le
def Qlq:=@List.getD_eq_getElem?_getD
def Qlr:=@List.length_reverse
def Qls:=@Int.mul_pos_of_neg_of_neg
def Qlt:=@Bool.false_eq_true
def Qlu:=@List.drop_zero
def Qlv:=@Classical.axiomOfChoice
def Qlw:=@Int.mul_nonpos_of_nonneg_of_nonpos
def Qlx:=@List.length_eq_countP_add_countP
def Qly:=@List.mem_reverse
def Qlz:=@List.mem_iff_getElem
def Qlaa:=@List.mem_cons_of_mem
def Qlab:=@Nat.beq_refl
def Qlac:=@List.getElem?_range
def Qlad:=@Nat.lt_or_gt_of_ne
def Qlae:=@Classical.byContradiction
def Qlaf:=@Int.mul_neg_of_pos_of_neg
def Qlag:=@List.getElem?_eq_some_iff
def Qlah:=@Nat.zero_add
def Qlai:=@Option.map_eq_some_iff
def Qlaj:=@Go.Ev.Ce.V3.ext'
namespace Go.Ev.Ce
open Go Go.Ev Go.Ev.L Go.Proofs
set_option maxRecDepth 100000
structure Ua1 where
 (d7 g7:List Pln)
noncomputable def Nc4:List (Nat×Sum):=[(56,Ub7)]
theorem Gc5:i9 prog G Nc4:=⟨rc1,trivial⟩
structure Ua2 where
 alt:Nat
 bs0:Bool
noncomputable def ra6{α:Type}(kk:Ua2->α)(x:Ua1):α:=let t1:=(Ma5 (rt tP x.g7) (rt tP x.d7));(sl (okE tP x.g7) (sl (okE tP x.d7) (sl (Ma6 (rt tP x.g7) (rt tP x.d7)) (kk ⟨1,!t1⟩) (kk ⟨0,false⟩)) (kk ⟨0,false⟩)) (kk ⟨0,false⟩))
noncomputable def Ua3(x:Ua1):Ua2:=ra6 (λr=>r) x
noncomputable def ib2(x:Ua1)(r:Ua2):DT (b7×List b8):=(.ite (Nat.beq r.alt 1) (.ret (b r.bs0,[⟨0,1,[[eL tP x.g7]],true,false,0⟩])) .fail)
theorem Wc2{α β:Type}(F:α->β)(kk:Ua2->α)(x:Ua1):F (ra6 kk x)=ra6 (λr=>F (kk r)) x:=by unfold ra6;(repeat' apply m0 (f:=F))<;>rfl
noncomputable def Yb0:Sum:=Ya5 ⟨[sLq tP,sPq 0],[⟨0,1,true,some [[.c 4 (nL tP)]]⟩],λa H=>(⟨aLq tP a 0,hLq tP H 0 0 0⟩,())⟩ (λx=>ib2 x (Ua3 x))
theorem Nc5:i5 prog G 104 Yb0:=O5 (enc:=λx=>⟨[eL tP x.d7,.ptr 0 0 0 0],[⟨0,1,[[eL tP x.g7]],true,false,0⟩]⟩) (λa H=>by kernel_rfl) (bd Of2 Gc5) λx=>y8 (Eq.trans (b:=ra6 (λr=>(ib2 x r).run) x) (by kernel_rfl) (Wc2 (λr=>(ib2 x r).run) (λr=>r) x).symm)
structure Z8 where
 X1:List (List Pln)
 g7:List Pln
noncomputable def Ga6:List (Nat×Sum):=[(104,Yb0)]
theorem rb7:i9 prog G Ga6:=⟨Nc5,trivial⟩
structure L4 where
 X1:List (List Pln)
 is7:Int
structure p7 where
 is8:Int
 g7:List Pln
noncomputable def za2(p:L4)(s:p7):St:=⟨eL (tLs tP) p.X1::.fn 104 [.ptr 0 0 0 0]::ra 5 (i p.is7::i s.is8::ra 10 []),[⟨0,1,[[eL tP s.g7]],true,false,0⟩]⟩
noncomputable def G7{α:Type}(k:p7->α)(e:Nat->α)(z:α)(p:L4)(s:p7):α:=let t1:=(Ua3 ⟨rt tP (gL (tLs tP) p.X1 s.is8.toNat),rt tP s.g7⟩);(sl (decide (s.is8<p.is7)) (sl (inB s.is8 (List.length p.X1)) (sl ((cnE tP (gL (tLs tP) p.X1 s.is8.toNat))&&((cnE tP s.g7)&&true)) (sl (Nat.beq t1.alt 1) (sl t1.bs0 (e 1) (k ⟨W (s.is8+1),rt tP s.g7⟩)) z) z) z) (e 2))
noncomputable def I5(p:L4)(s:p7):Stp p7:=G7 .next .exit .fail p s
noncomputable def ja3:Lo L4 p7:=⟨En Ga6,1,Ne0,[1,0,1,4,4],[0,1,7,8],.p,[⟨.s (.c 1 (nL (tLs tP)))::.fn 104 [.o (.ptr 0 0 0 0)]::ru2 5 (sIq::sIq::ru2 10 []),[⟨0,1,true,some [[.c 4 (nL tP)]]⟩],λa H=>(⟨rL (tLs tP) (slT a 0),aIq a 7⟩,⟨aIq a 8,hLq tP H 0 0 0⟩)⟩],I5,[(none,λp s=>⟨[i s.is8],[⟨0,1,[[eL tP (rt tP s.g7)]],true,false,0⟩]⟩),(some 0,λp s=>upq (za2 p s) [(9,b (decide (s.is8<p.is7)))])],za2⟩
theorem ob2:ja3.Ok:=Lo.ok [] (by kernel_rfl) .nil rfl (.cons (λa H=>by kernel_rfl) .nil) λp s=>(.of @G7 (λF _ _ _ _ _=>by unfold G7;(repeat' apply m0 (f:=F))<;>rfl) (by kernel_rfl))
structure Z9 where
 alt:Nat
 is0:Int
 g7:List Pln
noncomputable def G8{α:Type}(kk:Z9->α)(x:Z8):α:=let t1:=(lp (I5 (⟨rt (tLs tP) x.X1,(↑(List.length x.X1):Int)⟩:L4)) (⟨0,rt tP x.g7⟩:p7));(sl ((cnE (tLs tP) x.X1)&&((cnE tP x.g7)&&true)) (sl (Nat.beq t1.1 1) (kk ⟨1,t1.2.is8,rt tP t1.2.g7⟩) (sl (Nat.beq t1.1 2) (kk ⟨1,-1,t1.2.g7⟩) (kk ⟨0,0,[]⟩))) (kk ⟨0,0,[]⟩))
noncomputable def aa0(x:Z8):Z9:=G8 (λr=>r) x
noncomputable def ma5(x:Z8)(r:Z9):DT (b7×List b8):=(.ite (Nat.beq r.alt 1) (.ret (i r.is0,[⟨0,1,[[eL tP r.g7]],true,false,0⟩])) .fail)
theorem Cb1{α β:Type}(F:α->β)(kk:Z9->α)(x:Z8):F (G8 kk x)=G8 (λr=>F (kk r)) x:=by unfold G8;(repeat' apply m0 (f:=F))<;>rfl
noncomputable def Ka8:Sum:=Ya5 ⟨[.s (.c 1 (nL (tLs tP))),.fn 104 [.o (.ptr 0 0 0 0)]],[⟨0,1,true,some [[.c 4 (nL tP)]]⟩],λa H=>(⟨rL (tLs tP) (slT a 0),hLq tP H 0 0 0⟩,())⟩ (λx=>ma5 x (aa0 x))
theorem ub9:i5 prog G 161 Ka8:=O5 (enc:=λx=>⟨[eL (tLs tP) x.X1,.fn 104 [.ptr 0 0 0 0]],[⟨0,1,[[eL tP x.g7]],true,false,0⟩]⟩) (λa H=>by kernel_rfl) (bd Hf0 rb7) λx=>va6 (.s .p (.s (.s .p (.b (.u ja3.ls))) .p)) [ja3.pr] (by kernel_rfl) (.cons ob2 .nil) (Eq.trans (b:=G8 (λr=>(ma5 x r).run) x) (by kernel_rfl) (Cb1 (λr=>(ma5 x r).run) (λr=>r) x).symm)
structure S5 where
 X1:List (List Pln)
 g7:List Pln
noncomputable def ib3:List (Nat×Sum):=[(161,Ka8)]
theorem eb1:i9 prog G ib3:=⟨ub9,trivial⟩
structure S6 where
 alt:Nat
 bs0:Bool
 g7:List Pln
noncomputable def C5{α:Type}(kk:S6->α)(x:S5):α:=let t1:=(aa0 ⟨rt (tLs tP) x.X1,rt tP x.g7⟩);(sl ((cnE (tLs tP) x.X1)&&((cnE tP x.g7)&&true)) (sl (Nat.beq t1.alt 1) (kk ⟨1,decide (t1.is0>=0),t1.g7⟩) (kk ⟨0,false,[]⟩)) (kk ⟨0,false,[]⟩))
noncomputable def ha5(x:S5):S6:=C5 (λr=>r) x
noncomputable def ea1(x:S5)(r:S6):DT (b7×List b8):=(.ite (Nat.beq r.alt 1) (.ret (b r.bs0,[⟨0,1,[[eL tP r.g7]],true,false,0⟩])) .fail)
theorem ob3{α β:Type}(F:α->β)(kk:S6->α)(x:S5):F (C5 kk x)=C5 (λr=>F (kk r)) x:=by unfold C5;(repeat' apply m0 (f:=F))<;>rfl
noncomputable def za3:Sum:=Ya5 ⟨[.s (.c 1 (nL (tLs tP))),.fn 104 [.o (.ptr 0 0 0 0)]],[⟨0,1,true,some [[.c 4 (nL tP)]]⟩],λa H=>(⟨rL (tLs tP) (slT a 0),hLq tP H 0 0 0⟩,())⟩ (λx=>ea1 x (ha5 x))
theorem ib4:i5 prog G 103 za3:=O5 (enc:=λx=>⟨[eL (tLs tP) x.X1,.fn 104 [.ptr 0 0 0 0]],[⟨0,1,[[eL tP x.g7]],true,false,0⟩]⟩) (λa H=>by kernel_rfl) (bd Gf7 eb1) λx=>y8 (Eq.trans (b:=C5 (λr=>(ea1 x r).run) x) (by kernel_rfl) (ob3 (λr=>(ea1 x r).run) (λr=>r) x).symm)
noncomputable def md7:List (Nat×Sum):=[(103,za3)]
theorem Wc3:i9 prog G md7:=⟨ib4,trivial⟩
noncomputable def Sa8(x:List Pln)(y:List (List Pln)):Option (b7×List b8):=let t1:=(ha5 ⟨rt (tLs tP) y,rt tP x⟩);(sl ((cnE (tLs tP) y)&&((cnE tP x)&&true)) (sl (Nat.beq t1.alt 1) (some (b (!t1.bs0),[])) none) none)
noncomputable def Ea9(x:List Pln)(y:List (List Pln)):Bool:=O3 (one r1B) (Sa8 x y)
noncomputable def Fa0(x:List Pln)(y:List (List Pln)):Bool:=okO (one r1B) (Sa8 x y)
noncomputable def Lb3:Sum:=ra8 (P8 tP) (P8 (tLs tP)) (λx y=>.guard (Fa0 x y) (.ret ((one r1B).enc (Ea9 x y),[])))
theorem jc4:i5 prog G 45 Lb3:=sb9 (bd b45 Wc3) (one r1B) (o:=Sa8) λx y=>y8 (by kernel_rfl)
noncomputable def rc4:List (Nat×Sum):=[(49,Sa6),(42,cb4)]
theorem md8:i9 prog G rc4:=⟨cb1,rb6,trivial⟩
structure ya3 where
 (Cd9 Dd0 Dd1 Dd2:List (List Pln))
 Kf1:Int
 db8:List (List Pln)
 Xe5:Int
 (od3 Va7:List (List Pln))
structure aa1 where
 bs9:Bool
 (ua0 kc1:Int)
noncomputable def Yb1(p:ya3)(s:aa1):St:=⟨ra 9 (b s.bs9::i s.ua0::.unk::.ptr 0 0 0 0::ra 20 (.agg [eL (tLs tP) p.Cd9,eL (tLs tP) p.Dd0,eL (tLs tP) p.Dd1,eL (tLs tP) p.Dd2]::i p.Kf1::ra 3 (eL (tLs tP) p.db8::i p.Xe5::i s.kc1::ra 16 []))),[⟨0,2,[[eL (tLs tP) p.od3,eL (tLs tP) p.Va7]],true,false,0⟩]⟩
noncomputable def ya4{α:Type}(k:aa1->α)(e:Nat->α)(z:α)(p:ya3)(s:aa1):α:=let t1:=(T6 (rt (tLs tP) p.Va7) (rt tP (gL (tLs tP) p.db8 s.kc1.toNat)));(sl (decide (s.kc1<p.Xe5)) (sl (inB s.kc1 (List.length p.db8)) (sl (okE (tLs tP) p.Va7) (sl (okE tP (gL (tLs tP) p.db8 s.kc1.toNat)) (sl (ha4 (rt (tLs tP) p.Va7) (rt tP (gL (tLs tP) p.db8 s.kc1.toNat))) (sl (!t1.1) (e 1) (k ⟨t1.1,t1.2,W (s.kc1+1)⟩)) z) z) z) z) (e 2))
noncomputable def ja4(p:ya3)(s:aa1):Stp aa1:=ya4 .next .exit .fail p s
noncomputable def Cb2:Lo ya3 aa1:=⟨En rc4,0,Cf5,[1,1,1,1,0,1,4,4,1,1,0,4,1,1,4,4],[9,10,12,33,34,38,39,40],.p,[⟨ru2 9 (sBq::sIq::sUq::sPq 0::ru2 20 (.agg [.c 1 (nL (tLs tP)),.c 1 (nL (tLs tP)),.c 1 (nL (tLs tP)),.c 1 (nL (tLs tP))]::sIq::ru2 3 (.s (.c 1 (nL (tLs tP)))::sIq::sIq::ru2 16 []))),[⟨0,2,true,some [[.c 1 (nL (tLs tP)),.c 1 (nL (tLs tP))]]⟩],λa H=>(⟨rL (tLs tP) (slT (cellsOf (slT a 33)) 0),rL (tLs tP) (slT (cellsOf (slT a 33)) 1),rL (tLs tP) (slT (cellsOf (slT a 33)) 2),rL (tLs tP) (slT (cellsOf (slT a 33)) 3),aIq a 34,rL (tLs tP) (slT a 38),aIq a 39,rL (tLs tP) (slT (rwT (elT H 0) 0) 0),rL (tLs tP) (slT (rwT (elT H 0) 0) 1)⟩,⟨aBq a 9,aIq a 10,aIq a 40⟩)⟩],ja4,[(some 2,λp s=>let t1:=(T6 (rt (tLs tP) p.Va7) (rt tP (gL (tLs tP) p.db8 s.kc1.toNat)));⟨ra 9 (b t1.1::i t1.2::.unk::.ptr 0 0 0 0::.unk::eL tP (gL (tLs tP) p.db8 s.kc1.toNat)::ra 18 (.agg [eL (tLs tP) p.Cd9,eL (tLs tP) p.Dd0,eL (tLs tP) p.Dd1,eL (tLs tP) p.Dd2]::i p.Kf1::ra 3 (eL (tLs tP) p.db8::i p.Xe5::i s.kc1::b (decide (s.kc1<p.Xe5))::.tptr [eL tP (gL (tLs tP) p.db8 s.kc1.toNat)]::eL tP (gL (tLs tP) p.db8 s.kc1.toNat)::.tup [b t1.1,i t1.2]::.ptr 0 0 1 0::eL (tLs tP) p.Va7::eL tP (gL (tLs tP) p.db8 s.kc1.toNat)::.tup [b t1.1,i t1.2]::b t1.1::i t1.2::b t1.1::b (!t1.1)::ra 4 []))),[⟨0,2,[[eL (tLs tP) p.od3,eL (tLs tP) p.Va7]],true,false,0⟩]⟩),(some 4,λp s=>upq (Yb1 p s) [(41,b (decide (s.kc1<p.Xe5)))])],Yb1⟩
theorem Wc4:Cb2.Ok:=Lo.ok [] (by kernel_rfl) .nil rfl (.cons (λa H=>by kernel_rfl) .nil) λp s=>(.of @ya4 (λF _ _ _ _ _=>by unfold ya4;(repeat' apply m0 (f:=F))<;>rfl) (by kernel_rfl))
noncomputable def cb5(x:List (List Pln))(y:List (List Pln)):Option (b7×List b8):=let t1:=(T4 (rt (tLs tP) x));let t2:=(T4 (rt (tLs tP) y));let t3:=(lp (ja4 (⟨rt (tLs tP) x,rt (tLs tP) y,rt (tLs tP) y,rt (tLs tP) x,0,rt (tLs tP) x,(↑(List.length x):Int),rt (tLs tP) x,rt (tLs tP) y⟩:ya3)) (⟨true,0,0⟩:aa1));let t4:=(T6 (rt (tLs tP) (rt (tLs tP) y)) (rt tP (gL (tLs tP) (rt (tLs tP) x) t3.2.kc1.toNat)));let t5:=(lp (ja4 (⟨rt (tLs tP) (rt (tLs tP) x),rt (tLs tP) (rt (tLs tP) y),rt (tLs tP) (rt (tLs tP) y),rt (tLs tP) (rt (tLs tP) x),1,rt (tLs tP) (rt (tLs tP) y),(↑(List.length (rt (tLs tP) y)):Int),rt (tLs tP) (rt (tLs tP) y),rt (tLs tP) (rt (tLs tP) x)⟩:ya3)) (⟨t3.2.bs9,t3.2.ua0,0⟩:aa1));let t6:=(T6 (rt (tLs tP) (rt (tLs tP) (rt (tLs tP) x))) (rt tP (gL (tLs tP) (rt (tLs tP) (rt (tLs tP) y)) t5.2.kc1.toNat)));(sl (okE (tLs tP) x) (sl (T5 (rt (tLs tP) x)) (sl (t1 != 0) (some (.tup [b false,i t1],[])) (sl (okE (tLs tP) y) (sl (T5 (rt (tLs tP) y)) (sl (t2 != 0) (some (.tup [b false,i t2],[])) (sl ((cnE (tLs tP) x)&&((cnE (tLs tP) y)&&((cnE (tLs tP) y)&&((cnE (tLs tP) x)&&((cnE (tLs tP) x)&&((cnE (tLs tP) x)&&((cnE (tLs tP) y)&&true))))))) (sl (Nat.beq t3.1 1) (some (.tup [b t4.1,i t4.2],[])) (sl (Nat.beq t3.1 2) (sl ((cnE (tLs tP) (rt (tLs tP) x))&&((cnE (tLs tP) (rt (tLs tP) y))&&((cnE (tLs tP) (rt (tLs tP) y))&&((cnE (tLs tP) (rt (tLs tP) x))&&((cnE (tLs tP) (rt (tLs tP) y))&&((cnE (tLs tP) (rt (tLs tP) y))&&((cnE (tLs tP) (rt (tLs tP) x))&&true))))))) (sl (Nat.beq t5.1 1) (some (.tup [b t6.1,i t6.2],[])) (sl (Nat.beq t5.1 2) (some (.tup [b t5.2.bs9,i t5.2.ua0],[])) none)) none) none)) none)) none) none)) none) none)
noncomputable def vb0(x:List (List Pln))(y:List (List Pln)):Bool×Int:=O3 (two r1B r1I) (cb5 x y)
noncomputable def vb1(x:List (List Pln))(y:List (List Pln)):Bool:=okO (two r1B r1I) (cb5 x y)
noncomputable def Gc6:Sum:=ra8 (P8 (tLs tP)) (P8 (tLs tP)) (λx y=>.guard (vb1 x y) (.ret ((two r1B r1I).enc (vb0 x y),[])))
theorem ud6:i5 prog G 47 Gc6:=sb9 (bd b47 md8) (two r1B r1I) (o:=cb5) λx y=>va6 (.s .p (.s .p (.s .p (.s .p (.s (.s .p (.b (.l (.s .p (.s .p (.s (.b (.s .p (.s .p (.b (.u Cb2.ls))))) .p)))))) .p))))) [Cb2.pr] (by kernel_rfl) (.cons Wc4 .nil) (by kernel_rfl)
noncomputable def cb6(c:List Pln)(s:List (List Pln)):Bool:=!s.any λq=>!apart c q
theorem Ee2{c q:List Pln}(hc:c.length<=1000000)(hq:q.length<=1000000):Ua3 ⟨q,c⟩=⟨1,!apart c q⟩:=by
 unfold Ua3 ra6;simp only[i6,p6,se7 (a:=c) (c:=q) (by omega) (by omega),se8 (a:=c) (c:=q) (by omega) (by omega),g8]
theorem Cd0(c:List Pln)(s:List (List Pln))(hc:c.length<=1000000)(hs:s.length<=1000000)(hl:∀q∈s,q.length<=1000000):Sa8 c s=some (b (cb6 c s),[]):=by
 have h:=Ta1 (step:=I5 ⟨s,(s.length:Int)⟩) (mk:=λj=>(⟨(j:Int),c⟩:p7)) (c:=λq=>!apart c q) (u:=1) (fin:=2) (tLs tP) s (by omega)
  (λj hj=>by
   have hq:=hl _ (Fa3 (tLs tP) hj);simp only[I5,G7,Int.toNat_natCast,i6,i8,Ee2 hc hq,o3 hj (show s.length<=4611686018427387904 by omega),g8,Qlg]
   rw[btD (g9 hj),bt (f7 hj)]
   rfl)
  (by simp only[I5,G7];rw[bfD (m9 (Qlh _))]) 0 (Qld _)
 rw[Qlu,Qlah] at h;have hI:aa0 ⟨s,c⟩=⟨1,if s.any (λq=>!apart c q) then ((s.findIdx (λq=>!apart c q):Nat):Int) else -1,c⟩:=by
  unfold aa0 G8;simp only[i6,i8];rw[show (⟨0,c⟩:p7)=⟨((0:Nat):Int),c⟩ from rfl,h]
  cases s.any (λq=>!apart c q)<;>rfl
 unfold Sa8 cb6 ha5 C5;simp only[i6,i8,hI];cases hA:s.any (λq=>!apart c q) with
 |true =>
  simp only[if_true]
  have:decide (((s.findIdx (λq=>!apart c q):Nat):Int)>=0)=true:=decide_eq_true (by omega)
  rw[this];rfl
 |false=>rfl
theorem ce9{c:List Pln}{s:List (List Pln)}(hc:c.length<=1000000)(hs:s.length<=1000000)(hl:∀q∈s,q.length<=1000000):Ea9 c s=cb6 c s:=by unfold Ea9;rw[Cd0 c s hc hs hl];rfl
theorem de0{c:List Pln}{s:List (List Pln)}(hc:c.length<=1000000)(hs:s.length<=1000000)(hl:∀q∈s,q.length<=1000000):Fa0 c s=true:=by unfold Fa0;rw[Cd0 c s hc hs hl];rfl
noncomputable def inR(s t:List (List Pln)):Bool×Int:=match s.find? λc=>!(p4 t c).1 with
 |some c=>p4 t c
 |none=>(true,0)
noncomputable def sb4(x y:List (List Pln)):Bool×Int:=if schk x != 0 then (false,schk x) else if schk y != 0 then (false,schk y) else if (inR x y).1 then inR y x else inR x y
theorem Nd3{x:List (List Pln)}{y:List Pln}(h:(p4 x y).1=true):(p4 x y).2=0:=by
 unfold p4 at *
 rw[Bool.and_eq_true] at h;exact beq_iff_eq.1 h.1
theorem Cd1 (a0 a1 a2 a3 : List (List Pln)) (n34 : Int) (s t u : List (List Pln)) (hs : s.length ≤ 1000000) (hl : ∀ q ∈ s, q.length ≤ 1000000) (ht : t.length ≤ 1000000) (htl : ∀ q ∈ t, q.length ≤ 1000000) :
  lp (ja4 ⟨a0,a1,a2,a3,n34,s,(s.length:Int),u,t⟩) ⟨true,0,0⟩=if s.any (λc=>!(p4 t c).1) then (1,⟨true,0,((s.findIdx (λc=>!(p4 t c).1):Nat):Int)⟩) else (2,⟨true,0,(s.length:Int)⟩):=by
 have h:=Ta1 (step:=ja4 ⟨a0,a1,a2,a3,n34,s,(s.length:Int),u,t⟩) (mk:=λj=>(⟨true,0,(j:Int)⟩:aa1)) (c:=λc=>!(p4 t c).1) (u:=1) (fin:=2) (tLs tP) s (by omega)
  (λj hj=>by
   have hq:=hl _ (Fa3 (tLs tP) hj);simp only[ja4,ya4,Int.toNat_natCast,i6,p6,Pb8 hq ht htl,Gc4 hq ht htl,o3 hj (show s.length<=4611686018427387904 by omega),g8]
   rw[btD (g9 hj),bt (f7 hj)];cases hc:(p4 t (gL (tLs tP) s j)).1 with
   |false=>rfl
   |true=>rw[Nd3 hc])
  (by simp only[ja4,ya4];rw[bfD (m9 (Qlh _))]) 0 (Qld _)
 rw[Qlu,Qlah] at h;exact h
theorem ue8{s t:List (List Pln)}(h:s.any (λc=>!(p4 t c).1)=true):inR s t=p4 t (gL (tLs tP) s (s.findIdx λc=>!(p4 t c).1))/\(inR s t).1=false/\gL (tLs tP) s (s.findIdx λc=>!(p4 t c).1)∈s:=by
 have hlt:s.findIdx (λc=>!(p4 t c).1)<s.length:=List.findIdx_lt_length.2 (List.any_eq_true.1 h)
 have e:inR s t=p4 t (gL (tLs tP) s (s.findIdx λc=>!(p4 t c).1)):=by unfold inR;rw[Nd2 (tLs tP) s _ h]
 have:=List.find?_some (Nd2 (tLs tP) s _ h)
 exact⟨e,by rw[e];simpa using this,Fa3 (tLs tP) hlt⟩
theorem Gc7{s t:List (List Pln)}(h:s.any (λc=>!(p4 t c).1)=false):inR s t=(true,0):=by
 unfold inR;rw[List.find?_eq_none.2 λc hc=>by have:=List.any_eq_false.1 h c hc;simpa using this]
theorem de1(x y:List (List Pln))(hx:x.length<=1000000)(hxl:∀q∈x,q.length<=1000000)(hy:y.length<=1000000)(hyl:∀q∈y,q.length<=1000000):cb5 x y=some (.tup [b (sb4 x y).1,i (sb4 x y).2],[]):=by
 unfold cb5 sb4;simp only[i6,p6,i8,Pb6 hx hxl,Pb7 hx hxl,Pb6 hy hyl,Pb7 hy hyl,g8,Qlg];rw[Cd1 x y y x 0 x y x hx hxl hy hyl];cases h1:schk x != 0 with
 |true=>rfl
 |false =>
  cases h2:schk y != 0 with
  |true=>rfl
  |false =>
   simp only[C8,Qlt,if_false];cases ha:x.any λc=>!(p4 y c).1 with
   |true =>
    obtain⟨e1,e2,e3⟩:=ue8 ha;simp only[if_true,Int.toNat_natCast,Pb8 (hxl _ e3) hy hyl,e2,Qlt,if_false];rw[e1] at e2 ⊢;rw[e2];rfl
   |false =>
    have e:=Gc7 ha;simp only[Qlt,if_false,e,if_true];rw[Cd1 x y y x 1 y x y hy hyl hx hxl];cases hc:y.any λc=>!(p4 x c).1 with
    |true =>
     obtain⟨e1,e2,e3⟩:=ue8 hc;simp only[if_true,Int.toNat_natCast,Pb8 (hyl _ e3) hx hxl];rw[e1];rfl
    |false =>
     rw[Gc7 hc];rfl
theorem if2{x y:List (List Pln)}(hx:x.length<=1000000)(hxl:∀q∈x,q.length<=1000000)(hy:y.length<=1000000)(hyl:∀q∈y,q.length<=1000000):vb0 x y=sb4 x y:=by unfold vb0;rw[de1 x y hx hxl hy hyl];rfl
theorem if3{x y:List (List Pln)}(hx:x.length<=1000000)(hxl:∀q∈x,q.length<=1000000)(hy:y.length<=1000000)(hyl:∀q∈y,q.length<=1000000):vb1 x y=true:=by unfold vb1;rw[de1 x y hx hxl hy hyl];rfl
end Go.Ev.Ce
namespace Go.Ev.Ce
def Pa6(a b:V3):V3:=⟨a.x-b.x,a.y-b.y,a.z-b.z⟩
def N3(u w x:V3):V3:=f0 (Pa6 w u) (Pa6 x u)
def Sol(l:List V3):Prop:=∃a c k v,a∈l/\c∈l/\k∈l/\v∈l/\dot (N3 a c k) (Pa6 v a)≠0
theorem Sol.off{l:List V3}(h:Sol l){n:V3}(hn:n≠⟨0,0,0⟩)(b:Int):∃v∈l,dot n v≠b:=by
 obtain⟨a,c,k,v,ha,hc,hk,hv,hd⟩:=h;by_cases h1:dot n a=b
 ·by_cases h2:dot n c=b
  ·by_cases h3:dot n k=b
   ·by_cases h4:dot n v=b
    ·exfalso;unfold N3 at hd;generalize hD:dot (f0 (Pa6 c a) (Pa6 k a)) (Pa6 v a)=D at *
     have q1:dot n (Pa6 c a)=0:=by unfold dot Pa6 at *;grind
     have q2:dot n (Pa6 k a)=0:=by unfold dot Pa6 at *;grind
     have q3:dot n (Pa6 v a)=0:=by unfold dot Pa6 at *;grind
     generalize Pa6 c a=p at *
     generalize Pa6 k a=q at *
     generalize Pa6 v a=r at *
     have i1:D*n.x=(f0 q r).x*dot n p+(f0 r p).x*dot n q+(f0 p q).x*dot n r:=by rw[<- hD];simp only[dot,f0];grind
     have i2:D*n.y=(f0 q r).y*dot n p+(f0 r p).y*dot n q+(f0 p q).y*dot n r:=by rw[<- hD];simp only[dot,f0];grind
     have i3:D*n.z=(f0 q r).z*dot n p+(f0 r p).z*dot n q+(f0 p q).z*dot n r:=by rw[<- hD];simp only[dot,f0];grind
     rw[q1,q2,q3] at i1 i2 i3;have z:∀{x:Int},D*x=0->x=0:=λh=>(Qll.1 h).resolve_left hd
     exact hn (Qlaj (z (by omega)) (z (by omega)) (z (by omega)))
    ·exact⟨v,hv,h4⟩
   ·exact⟨k,hk,h3⟩
  ·exact⟨c,hc,h2⟩
 ·exact⟨a,ha,h1⟩
theorem Sol.ne{l:List V3}(h:Sol l):∃v,v∈l:=by obtain⟨a,_,_,_,ha,_⟩:=h;exact⟨a,ha⟩
structure Fac(l:List V3)(n:V3)(b:Int):Prop where
 hd:∀v∈l,dot n v<=b
 on:∃u w x,u∈l/\w∈l/\x∈l/\N3 u w x≠⟨0,0,0⟩/\dot n u=b/\dot n w=b/\dot n x=b
end Go.Ev.Ce
namespace Go.Ev.Ce
open Go Go.Ev Go.Ev.L Go.Proofs
theorem yf7{l:List V3}(hf:nf0 l=true):Sol l:=(xf7 hf).h
theorem if4{v:V3}(h:g3 v=0):v=⟨0,0,0⟩:=by
 unfold g3 at h;have h:Nat.gcd (Nat.gcd v.x.natAbs v.y.natAbs) v.z.natAbs=0:=by omega
 rw[Nat.gcd_eq_zero_iff,Nat.gcd_eq_zero_iff] at h;exact Qlaj (by show v.x=0;omega) (by show v.y=0;omega) (by show v.z=0;omega)
theorem de2{a c k:V3}(ha:inV a=true)(hc:inV c=true)(hk:inV k=true)(h:N3 a c k≠⟨0,0,0⟩):(Ca7 a c k).2=true:=by
 unfold Ca7;rw[ha,hc,hk];simp only[Qlg,if_true];rw[if_neg (λh0=>h (if4 h0):¬ g3 (f0 (sub c a) (sub k a))=0)]
theorem Cd2{a c k:V3}{p:Pln}(h:Thr a c k p):N3 a c k≠⟨0,0,0⟩:=λe=>by
 obtain⟨ok,⟨g,hg,e1,e2,e3⟩,_⟩:=h;have e':f0 (sub c a) (sub k a)=⟨0,0,0⟩:=e;rw[e'] at e1 e2 e3;have z:∀{x:Int},g*x=0->x=0:=λh=>(Qll.1 h).resolve_left (by omega)
 exact ld7 ok (Qlaj (z e1) (z e2) (z e3))
theorem ne3{a c k:V3}{p:Pln}(h:Thr a c k p):dot p.n a=p.b/\dot p.n c=p.b/\dot p.n k=p.b:=by
 obtain⟨ok,⟨g,hg,e1,e2,e3⟩,o⟩:=h;have z:∀{x y:Int},g*(x-y)=0->x=y:=λh=>by have:=(Qll.1 h).resolve_left (by omega);omega
 refine⟨o.symm,?_,?_⟩
 ·rw[o];apply z
  have:g*(dot p.n c-dot p.n a)=(g*p.n.x)*(c.x-a.x)+(g*p.n.y)*(c.y-a.y)+(g*p.n.z)*(c.z-a.z):=by simp only[dot];grind
  rw[this,e1,e2,e3];simp only[f0,sub];grind
 ·rw[o];apply z
  have:g*(dot p.n k-dot p.n a)=(g*p.n.x)*(k.x-a.x)+(g*p.n.y)*(k.y-a.y)+(g*p.n.z)*(k.z-a.z):=by simp only[dot];grind
  rw[this,e1,e2,e3];simp only[f0,sub];grind
theorem Nc6(p:Pln)(v:V3):dot (O4 p).n v=(O4 p).b↔dot p.n v=p.b:=by
 rw[ce2];show -dot p.n v=-p.b↔_;omega
theorem md9{a c k:V3}{p q:Pln}(h:Thr a c k q)(hp:okp p=true)(t1:dot p.n a=p.b)(t2:dot p.n c=p.b)(t3:dot p.n k=p.b):p=q\/p=O4 q:=by
 obtain⟨s1,s2,s3⟩:=ne3 h;obtain⟨ok,⟨g,hg,e1,e2,e3⟩,o⟩:=h;have d1:dot p.n (sub c a)=0:=by simp only[dot,sub] at *;grind
 have d2:dot p.n (sub k a)=0:=by simp only[dot,sub] at *;grind
 have hc:f0 q.n p.n=⟨0,0,0⟩:=by
  have z:∀{x:Int},g*x=0->x=0:=λh=>(Qll.1 h).resolve_left (by omega)
  generalize sub c a=u at *
  generalize sub k a=w at *
  refine Qlaj (z ?_) (z ?_) (z ?_)
  ·have:g*(f0 q.n p.n).x=(g*q.n.y)*p.n.z-(g*q.n.z)*p.n.y:=by simp only[f0];grind
   rw[this,e2,e3]
   have:(f0 u w).y*p.n.z-(f0 u w).z*p.n.y=w.x*dot p.n u-u.x*dot p.n w:=by simp only[f0,dot];grind
   rw[this,d1,d2];simp
  ·have:g*(f0 q.n p.n).y=(g*q.n.z)*p.n.x-(g*q.n.x)*p.n.z:=by simp only[f0];grind
   rw[this,e1,e3]
   have:(f0 u w).z*p.n.x-(f0 u w).x*p.n.z=w.y*dot p.n u-u.y*dot p.n w:=by simp only[f0,dot];grind
   rw[this,d1,d2];simp
  ·have:g*(f0 q.n p.n).z=(g*q.n.x)*p.n.y-(g*q.n.y)*p.n.x:=by simp only[f0];grind
   rw[this,e1,e2]
   have:(f0 u w).x*p.n.y-(f0 u w).y*p.n.x=w.z*dot p.n u-u.z*dot p.n w:=by simp only[f0,dot];grind
   rw[this,d1,d2];simp
 obtain⟨pn,pb⟩:=p;obtain⟨qn,qb⟩:=q
 rcases Ue3 (me6 ok) (me6 hp) hc with e|e
 ·left
  simp only at e o t1 s1 t2 t3
  subst e;rw[<- t1,s1]
 ·right
  simp only at e o t1 s1 t2 t3
  subst e;rw[<- t1];simp only[dot,neg,O4] at s1 ⊢;simp only[Pln.mk.injEq,true_and]
  grind
structure Gc8(l:List V3)(p:Pln):Prop extends Fac l p.n p.b where
 ok:okp p=true
theorem Ve2{l:List V3}{p:Pln}{u w x:V3}(hu:u∈l)(hw:w∈l)(hx:x∈l)(h:Thr u w x p)(hh:∀v∈l,dot (O4 p).n v<=(O4 p).b):Gc8 l (O4 p):=by
 obtain⟨s1,s2,s3⟩:=ne3 h;exact⟨⟨hh,u,w,x,hu,hw,hx,Cd2 h,(Nc6 p u).2 s1,(Nc6 p w).2 s2,(Nc6 p x).2 s3⟩,Fc5 h.ok⟩
theorem if5{l:List V3}{p:Pln}{u w x:V3}(hu:u∈l)(hw:w∈l)(hx:x∈l)(h:Thr u w x p)(hh:∀v∈l,dot p.n v<=p.b):Gc8 l p:=by
 obtain⟨s1,s2,s3⟩:=ne3 h;exact⟨⟨hh,u,w,x,hu,hw,hx,Cd2 h,s1,s2,s3⟩,h.ok⟩
theorem Jf5{u w x:V3}(h:N3 u w x≠⟨0,0,0⟩):N3 w u x≠⟨0,0,0⟩/\N3 u x w≠⟨0,0,0⟩/\N3 x w u≠⟨0,0,0⟩/\N3 w x u≠⟨0,0,0⟩/\N3 x u w≠⟨0,0,0⟩:=by
 have e1:N3 w u x=neg (N3 u w x):=Qlaj (by simp only[N3,f0,Pa6,neg];grind) (by simp only[N3,f0,Pa6,neg];grind) (by simp only[N3,f0,Pa6,neg];grind)
 have e2:N3 u x w=neg (N3 u w x):=Qlaj (by simp only[N3,f0,Pa6,neg];grind) (by simp only[N3,f0,Pa6,neg];grind) (by simp only[N3,f0,Pa6,neg];grind)
 have e3:N3 x w u=neg (N3 u w x):=Qlaj (by simp only[N3,f0,Pa6,neg];grind) (by simp only[N3,f0,Pa6,neg];grind) (by simp only[N3,f0,Pa6,neg];grind)
 have e4:N3 w x u=N3 u w x:=Qlaj (by simp only[N3,f0,Pa6];grind) (by simp only[N3,f0,Pa6];grind) (by simp only[N3,f0,Pa6];grind)
 have e5:N3 x u w=N3 u w x:=Qlaj (by simp only[N3,f0,Pa6];grind) (by simp only[N3,f0,Pa6];grind) (by simp only[N3,f0,Pa6];grind)
 rw[e1,e2,e3,e4,e5];exact⟨Md4 h,Md4 h,Md4 h,h,h⟩
theorem qf5{u w x:V3}(h:N3 u w x≠⟨0,0,0⟩):u≠w/\u≠x/\w≠x:=by
 refine⟨λe=>h ?_,λe=>h ?_,λe=>h ?_⟩<;>subst e<;>refine Qlaj ?_ ?_ ?_<;>simp only[N3,f0,Pa6]<;>grind
theorem Vf2 {l : List V3} {u w x : V3} (hu : u ∈ l) (hw : w ∈ l) (hx : x ∈ l) (h : N3 u w x ≠ ⟨0, 0, 0⟩) :
  ∃a,a<l.length/\∃c,c<a/\∃k,k<c/\N3 (gL tV l a) (gL tV l c) (gL tV l k)≠⟨0,0,0⟩/\∀f:V3->Prop,f u->f w->f x->f (gL tV l a)/\f (gL tV l c)/\f (gL tV l k):=by
 obtain⟨i,hi,rfl⟩:=Qlz.1 hu;obtain⟨j,hj,rfl⟩:=Qlz.1 hw;obtain⟨k,hk,rfl⟩:=Qlz.1 hx;obtain⟨n1,n2,n3⟩:=qf5 h;obtain⟨s1,s2,s3,s4,s5⟩:=Jf5 h;have d1:i≠j:=λe=>n1 (by subst e;rfl)
 have d2:i≠k:=λe=>n2 (by subst e;rfl)
 have d3:j≠k:=λe=>n3 (by subst e;rfl)
 rw[<- Wa0 tV hi,<- Wa0 tV hj,<- Wa0 tV hk] at *
 rcases Qlad d1 with h1|h1<;>rcases Qlad d2 with h2|h2<;>rcases Qlad d3 with h3|h3
 ·exact⟨k,hk,j,h3,i,h1,s3,λf a b c=>⟨c,b,a⟩⟩
 ·exact⟨j,hj,k,h3,i,h2,s4,λf a b c=>⟨b,c,a⟩⟩
 ·omega
 ·exact⟨j,hj,i,h1,k,h2,s1,λf a b c=>⟨b,a,c⟩⟩
 ·exact⟨k,hk,i,h2,j,h1,s5,λf a b c=>⟨c,a,b⟩⟩
 ·omega
 ·exact⟨i,hi,k,h2,j,h3,s2,λf a b c=>⟨a,c,b⟩⟩
 ·exact⟨i,hi,j,h1,k,h3,h,λf a b c=>⟨a,b,c⟩⟩
theorem if6{l:List V3}(hl:l.all inV=true)(p:Pln):p∈F0 l↔Gc8 l p:=by
 have hin:=Qlj.1 hl;constructor
 ·intro hp;obtain⟨a,ha,c,hc,k,hk,h1,h2⟩:=(me7 l p).1 hp;have ma:=gLm ha;have mc:=gLm (show c<l.length by omega)
  have mk:=gLm (show k<l.length by omega)
  have ht:=(Gb8 h1).2
  rcases h2 with⟨rfl,h3⟩|⟨rfl,h3⟩
  ·exact if5 ma mc mk ht ((Fc7 ht.ok hl).1 h3)
  ·exact Ve2 ma mc mk ht ((Fc7 (Fc5 ht.ok) hl).1 h3)
 ·intro h;obtain⟨u,w,x,hu,hw,hx,h3,t1,t2,t3⟩:=h.on;obtain⟨a,ha,c,hc,k,hk,hn,hall⟩:=Vf2 hu hw hx h3;obtain⟨i1,i2,i3⟩:=hall (λv=>inV v=true) (hin u hu) (hin w hw) (hin x hx)
  obtain⟨e1,e2,e3⟩:=hall (λv=>dot p.n v=p.b) t1 t2 t3
  have h2:=de2 i1 i2 i3 hn;refine (me7 l p).2 ⟨a,ha,c,hc,k,hk,h2,?_⟩;have hh:=(Fc7 h.ok hl).2 h.hd
  rcases md9 (Gb8 h2).2 h.ok e1 e2 e3 with e|e
  ·exact .inl ⟨e,hh⟩
  ·exact .inr ⟨e,hh⟩
def Fv:V3:=⟨10000,100,1⟩
theorem yf8{a c:V3}(ha:inV a=true)(hc:inV c=true)(h:dot Fv a=dot Fv c):a=c:=by
 obtain⟨⟨a1,a2⟩,⟨a3,a4⟩,a5,a6⟩:=(Ub5 a).1 ha;obtain⟨⟨c1,c2⟩,⟨c3,c4⟩,c5,c6⟩:=(Ub5 c).1 hc;simp only[dot,Fv] at h;exact Qlaj (by omega) (by omega) (by omega)
structure Crs(l:List V3)(p:Pln)(v:V3):Prop where
 h:∃u w,u∈l/\w∈l/\dot p.n u=p.b/\dot p.n w=p.b/\dot Fv w<dot Fv v/\dot Fv v<dot Fv u/\N3 v u w≠⟨0,0,0⟩
 on:dot p.n v=p.b
theorem if7(u w x:V3):N3 u x w=neg (N3 u w x):=by simp only[N3,f0,Pa6,neg,V3.mk.injEq];refine⟨?_,?_,?_⟩<;>grind
theorem Ve3(u w x:V3):N3 w x u=N3 u w x:=by simp only[N3,f0,Pa6,V3.mk.injEq];refine⟨?_,?_,?_⟩<;>grind
theorem Jf6{d:V3}(h:neg d=⟨0,0,0⟩):d=⟨0,0,0⟩:=by
 simp only[neg,V3.mk.injEq] at h;exact Qlaj (by show d.x=0;omega) (by show d.y=0;omega) (by show d.z=0;omega)
section
variable{l:List V3}(hl:l.all inV=true)
include hl
theorem Ve4{p:Pln}(hp:Gc8 l p):∃v∈l,Crs l p v:=by
 obtain⟨u,w,x,hu,hw,hx,h3,t1,t2,t3⟩:=hp.on;have hi:=Qlj.1 hl;obtain⟨n1,n3,n2⟩:=qf5 h3;have ne:∀{a c:V3},a∈l->c∈l->a≠c->dot Fv a<dot Fv c\/dot Fv c<dot Fv a:=λ{a c} ha hc h=>by
  have:dot Fv a≠dot Fv c:=λe=>h (yf8 (hi a ha) (hi c hc) e)
  omega
 have sw:∀{a c d:V3},N3 a c d≠⟨0,0,0⟩->N3 a d c≠⟨0,0,0⟩:=λ{a c d} h e=>h (by
  have e2:=if7 a c d;rw[e] at e2;exact Jf6 e2.symm)
 have m:∀{a c d:V3},a∈l->c∈l->d∈l->N3 c d a≠⟨0,0,0⟩->dot p.n a=p.b->dot p.n c=p.b->dot p.n d=p.b->dot Fv a<dot Fv c->dot Fv c<dot Fv d->∃v∈l,Crs l p v :=
  λ{a c d} ha hc hd hn ta tc td h1 h2=>⟨c,hc,⟨⟨d,a,hd,ha,td,ta,h1,h2,hn⟩,tc⟩⟩
 have r1:N3 w x u≠⟨0,0,0⟩:=by rw[Ve3];exact h3
 have r2:N3 x u w≠⟨0,0,0⟩:=by rw[Ve3];exact r1
 rcases ne hu hw n1 with a|a<;>rcases ne hw hx n2 with c|c<;>rcases ne hu hx n3 with d|d
 ·exact m hu hw hx r1 t1 t2 t3 a c
 ·omega
 ·exact m hu hx hw (sw r2) t1 t3 t2 d c
 ·exact m hx hu hw (h3) t3 t1 t2 d a |>.elim λv h=>⟨v,h⟩
 ·exact m hw hu hx (sw h3) t2 t1 t3 a d
 ·exact m hw hx hu r2 t2 t3 t1 c d
 ·omega
 ·exact m hx hw hu (sw r1) t3 t2 t1 c a
theorem Ve5(hs:Sol l){p q:Pln}(hp:Gc8 l p)(hq:Gc8 l q){u w x:V3}(hu:u∈l)(hw:w∈l)(hx:x∈l)(h3:N3 u w x≠⟨0,0,0⟩)(p1:dot p.n u=p.b)(p2:dot p.n w=p.b)(p3:dot p.n x=p.b)(q1:dot q.n u=q.b)(q2:dot q.n w=q.b)(q3:dot q.n x=q.b):p=q:=by
 have hi:=Qlj.1 hl;have hT:=(Gb8 (de2 (hi u hu) (hi w hw) (hi x hx) h3)).2;have fl:∀{p:Pln},Gc8 l p->Gc8 l (O4 p)->False:=λ{p} h h'=>by
  obtain⟨v,hv,hne⟩:=hs.off (ld7 h.ok) p.b;have a:=h.hd v hv;have c:=h'.hd v hv;rw[ce2] at c;have c:-dot p.n v<=-p.b:=c;omega
 rcases md9 hT hp.ok p1 p2 p3 with e|e<;>rcases md9 hT hq.ok q1 q2 q3 with e'|e'
 ·rw[e,e']
 ·rw[e',<- e] at hq;exact (fl hp hq).elim
 ·rw[e,<- e'] at hp;exact (fl hq hp).elim
 ·rw[e,e']
theorem Nd4(hs:Sol l){p:Pln}{v:V3}(hp:Gc8 l p)(hv:v∈l)(h:Crs l p v):∃d:V3,dot Fv d=0/\dot p.n d=0/\∀q,Gc8 l q->dot q.n v=q.b->q≠p->dot q.n d<0:=by
 obtain⟨⟨u,w,hu,hw,tu,tw,h1,h2,h3⟩,tv⟩:=h;generalize ha:dot Fv v-dot Fv w=a at *
 generalize hc:dot Fv u-dot Fv v=c at *
 have dd:∀n:V3,dot n ⟨c*(w.x-v.x)+a*(u.x-v.x),c*(w.y-v.y)+a*(u.y-v.y),c*(w.z-v.z)+a*(u.z-v.z)⟩=c*(dot n w-dot n v)+a*(dot n u-dot n v):=λn=>by simp only[dot];grind
 refine⟨⟨c*(w.x-v.x)+a*(u.x-v.x),c*(w.y-v.y)+a*(u.y-v.y),c*(w.z-v.z)+a*(u.z-v.z)⟩,?_,?_,λq hq tq hne=>?_⟩
 ·rw[dd,<- ha,<- hc];grind
 ·rw[dd,tu,tw,tv];simp
 ·rw[dd,tq];have g1:=hq.hd w hw;have g2:=hq.hd u hu;have e1:c*(dot q.n w-q.b)<=0:=Qlw (by omega) (by omega)
  have e2:a*(dot q.n u-q.b)<=0:=Qlw (by omega) (by omega)
  apply Qlae;intro hno;have z1:=(Qll.1 (show c*(dot q.n w-q.b)=0 by omega)).resolve_left (by omega)
  have z2:=(Qll.1 (show a*(dot q.n u-q.b)=0 by omega)).resolve_left (by omega)
  exact hne (Ve5 hl hs hq hp hv hu hw h3 tq (by omega) (by omega) tv tu tw)
end
theorem opp{x y A B:Int}(hA:A<0)(hB:B<0)(h:x*A+y*B=0):(0<x->y<0)/\(x<0->0<y)/\(x=0->y=0):=by
 refine⟨λhx=>?_,λhx=>?_,λhx=>?_⟩
 ·have:=Qlaf hx hA
  have h2:0<y*B:=by omega
  rcases Int.lt_trichotomy y 0 with h3|h3|h3
  ·exact h3
  ·rw[h3] at h2;simp at h2
  ·have:=Qlaf h3 hB;omega
 ·have:=Qls hx hA
  have h2:y*B<0:=by omega
  rcases Int.lt_trichotomy y 0 with h3|h3|h3
  ·have:=Qls h3 hB;omega
  ·rw[h3] at h2;simp at h2
  ·exact h3
 ·rw[hx] at h;exact (Qll.1 (show y*B=0 by omega)).resolve_right (by omega)
theorem if8{l:List V3}(hl:l.all inV=true)(hs:Sol l){p q r:Pln}{v:V3}(hv:v∈l)(hp:Gc8 l p)(hq:Gc8 l q)(hr:Gc8 l r)(cp:Crs l p v)(cq:Crs l q v)(cr:Crs l r v):p=q\/q=r\/p=r:=by
 apply Qlae;intro hno;have n1:p≠q:=λe=>hno (.inl e)
 have n2:q≠r:=λe=>hno (.inr (.inl e))
 have n3:p≠r:=λe=>hno (.inr (.inr e))
 obtain⟨a,fa,pa,ha⟩:=Nd4 hl hs hp hv cp;obtain⟨c,fc,qc,hc⟩:=Nd4 hl hs hq hv cq;obtain⟨d,fd,rd,hd⟩:=Nd4 hl hs hr hv cr;have pc:=hc p hp cp.on n1;have pd:=hd p hp cp.on n3;have qa:=ha q hq cq.on (Ne.symm n1);have qd:=hd q hq cq.on n2;have ra:=ha r hr cr.on (Ne.symm n3);have rc:=hc r hr cr.on (Ne.symm n2)
 -- the Bf3 directions lie in a plane
 have hdet:dot a (f0 c d)=0:=by
  have e:dot Fv Fv*dot a (f0 c d)=dot Fv a*dot Fv (f0 c d)+dot Fv c*dot Fv (f0 d a)+dot Fv d*dot Fv (f0 a c):=by simp only[dot,f0,Fv];grind
  rw[fa,fc,fd] at e;have hF:dot Fv Fv=100010001:=by decide
  rw[hF] at e;omega
 have lin:∀n:V3,dot Fv (f0 c d)*dot n a+dot Fv (f0 d a)*dot n c+dot Fv (f0 a c)*dot n d=0:=λn=>by
  have e:dot Fv (f0 c d)*dot n a+dot Fv (f0 d a)*dot n c+dot Fv (f0 a c)*dot n d=dot a (f0 c d)*dot n Fv:=by simp only[dot,f0];grind
  rw[e,hdet,Int.zero_mul]
 have lp:=lin p.n;have lq:=lin q.n;have lr:=lin r.n;rw[pa] at lp;rw[qc] at lq;rw[rd] at lr;obtain⟨i1,i2,i3⟩:=opp pc pd (by omega:dot Fv (f0 d a)*dot p.n c+dot Fv (f0 a c)*dot p.n d=0)
 obtain⟨j1,j2,j3⟩:=opp qa qd (by omega:dot Fv (f0 c d)*dot q.n a+dot Fv (f0 a c)*dot q.n d=0)
 obtain⟨k1,k2,k3⟩:=opp ra rc (by omega:dot Fv (f0 c d)*dot r.n a+dot Fv (f0 d a)*dot r.n c=0)
 have z:dot Fv (f0 a c)=0:=by omega
 -- so two of them are alike
 have cr0:f0 a c=⟨0,0,0⟩:=by
  have e1:dot Fv Fv*(f0 a c).x=Fv.x*dot Fv (f0 a c)+dot Fv a*(f0 Fv c).x-dot Fv c*(f0 Fv a).x:=by simp only[dot,f0,Fv];grind
  have e2:dot Fv Fv*(f0 a c).y=Fv.y*dot Fv (f0 a c)+dot Fv a*(f0 Fv c).y-dot Fv c*(f0 Fv a).y:=by simp only[dot,f0,Fv];grind
  have e3:dot Fv Fv*(f0 a c).z=Fv.z*dot Fv (f0 a c)+dot Fv a*(f0 Fv c).z-dot Fv c*(f0 Fv a).z:=by simp only[dot,f0,Fv];grind
  rw[z,fa,fc] at e1 e2 e3;have hF:dot Fv Fv=100010001:=by decide
  rw[hF] at e1 e2 e3;exact Qlaj (by show (f0 a c).x=0;omega) (by show (f0 a c).y=0;omega) (by show (f0 a c).z=0;omega)
 have k:∀n:V3,dot p.n c*dot n a=dot p.n a*dot n c+dot n (f0 p.n (f0 a c)):=λn=>by simp only[dot,f0];grind
 have hk:=k q.n;rw[cr0,pa,qc] at hk;have e0:dot q.n (f0 p.n ⟨0,0,0⟩)=0:=by simp[dot,f0]
 rw[e0] at hk
 have:=Qls pc qa
 omega
theorem yf9{α:Type}{l:List α}(hn:l.Nodup)(h:∀x∈l,∀y∈l,∀z∈l,x=y\/y=z\/x=z):l.length<=2:=by
 match l with
 |[]=>simp
 |[_]=>simp
 |[_,_]=>simp
 |x::y::z::l =>
  exfalso;simp only[List.nodup_cons,Qlo,not_or] at hn
  rcases h x (by simp) y (by simp) z (by simp) with e|e|e
  ·exact hn.1.1 e
  ·exact hn.2.1.1 e
  ·exact hn.1.2.1 e
theorem Cd3{α β:Type}{R:α->β->Prop}:∀(B:List β) (A:List α),A.Nodup->(∀x∈A,∃v∈B,R x v)->(∀v∈B,∀x∈A,∀y∈A,∀z∈A,R x v->R y v->R z v->x=y\/y=z\/x=z)->A.length<=2*B.length
 |[],A,_,h1,_=>by
  cases A with
  |nil=>simp
  |cons a A=>obtain⟨v,hv,_⟩:=h1 a (by simp);cases hv
 |b::B,A,hn,h1,h2=>by
  classical
  have hs:A.length=(A.filter λx=>decide (R x b)).length+(A.filter λx=>!decide (R x b)).length:=by
   rw[<- Qlk,<- Qlk]
   have:=Qlx (λx=>decide (R x b)) (l:=A)
   rw[this];congr 1;apply List.countP_congr;intro x _;simp
  have a1:(A.filter λx=>decide (R x b)).length<=2:=yf9 (hn.filter _) λx hx y hy z hz=>by
   obtain⟨x1,x2⟩:=Qle.1 hx;obtain⟨y1,y2⟩:=Qle.1 hy;obtain⟨z1,z2⟩:=Qle.1 hz;exact h2 b (by simp) x x1 y y1 z z1 (of_decide_eq_true x2) (of_decide_eq_true y2) (of_decide_eq_true z2)
  have a2:=Cd3 (R:=R) B (A.filter λx=>!decide (R x b)) (hn.filter _) (λx hx=>by
   obtain⟨x1,x2⟩:=Qle.1 hx;have x2:¬ R x b:=by simpa using x2
   obtain⟨v,hv,hr⟩:=h1 x x1
   rcases Qlo.1 hv with rfl|hv
   ·exact absurd hr x2
   ·exact⟨v,hv,hr⟩) (λv hv x hx y hy z hz=>h2 v (by simp[hv]) x (Qle.1 hx).1 y (Qle.1 hy).1 z (Qle.1 hz).1)
  simp only[List.length_cons];omega
theorem Ve6{α:Type}(f:α->Int):∀l:List α,l≠[]->∃m∈l,∀x∈l,f m<=f x
 |[],h=>absurd rfl h
 |[a],_=>⟨a,by simp,λx hx=>by rw[Qlb.1 hx];exact Int.le_refl _⟩
 |a::c::l,_=>by
  obtain⟨m,hm,h⟩:=Ve6 f (c::l) (by simp)
  by_cases hle:f a<=f m
  ·refine⟨a,by simp,λx hx=>?_⟩
   rcases Qlo.1 hx with rfl|hx
   ·exact Int.le_refl _
   ·have:=h x hx;omega
  ·refine⟨m,Qlaa _ hm,λx hx=>?_⟩
   rcases Qlo.1 hx with rfl|hx
   ·omega
   ·exact h x hx
theorem zf0{l:List V3}(hl:l.all inV=true)(hf:nf0 l=true):(F0 l).length<=2*(l.length-2):=by
 classical
 have hs:=yf7 hf;have hF:∀p∈F0 l,Gc8 l p:=λp hp=>(if6 hl p).1 hp
 obtain⟨v0,hv0⟩:=hs.ne;have hne:l≠[]:=λe=>by rw[e] at hv0;cases hv0
 obtain⟨m,hm,hmin⟩:=Ve6 (dot Fv) l hne;obtain⟨M,hM,hmax⟩:=Ve6 (λv=>-dot Fv v) l hne
 by_cases h0:F0 l=[]
 ·rw[h0];simp
 obtain⟨p0,hp0⟩:=List.exists_mem_of_ne_nil _ h0;obtain⟨v1,hv1,c1⟩:=Ve4 hl (hF p0 hp0);obtain⟨u1,w1,hu1,hw1,_,_,q1,q2,_⟩:=c1.h;have hmM:m≠M:=λe=>by
  have a1:=hmin w1 hw1;have a2:=hmax u1 hu1;subst e;omega
 have hB:(l.filter λv=>decide (v≠m)&&decide (v≠M)).length+2<=l.length:=by
  have e:=Qlx (λv=>decide (v≠m)&&decide (v≠M)) (l:=l)
  rw[Qlk] at e;rw[Qlk] at e
  have:([m,M]:List V3).length<=(l.filter λa=>decide (¬ (decide (a≠m)&&decide (a≠M))=true)).length :=
   List.Nodup.length_le_of_subset (by simp[hmM]) (λx hx=>by
    simp only[Qlo,List.not_mem_nil,or_false] at hx;rw[Qle]
    rcases hx with rfl|rfl
    ·exact⟨hm,by simp⟩
    ·exact⟨hM,by simp⟩)
  simp only[List.length_cons,List.length_nil] at this;omega
 have:=Cd3 (R:=λp v=>Crs l p v) (l.filter λv=>decide (v≠m)&&decide (v≠M)) (F0 l) (Ce9 (yf2 l))
  (λp hp=>by
   obtain⟨v,hv,c⟩:=Ve4 hl (hF p hp);refine⟨v,Qle.2 ⟨hv,?_⟩,c⟩;obtain⟨u,w,hu,hw,_,_,g1,g2,_⟩:=c.h;have a1:=hmin w hw;have a2:=hmax u hu;have k1:v≠m:=λe=>by subst e;omega
   have k2:v≠M:=λe=>by subst e;omega
   simp[k1,k2])
  (λv hv p hp q hq r hr=>if8 hl hs (Qle.1 hv).1 (hF p hp) (hF q hq) (hF r hr))
 omega
set_option maxRecDepth 100000
structure Xe6 where
 (Da5 Da6 Da7 j9 d8 k8 k9:Int)
structure Xe7 where
 alt:Nat
 bs0:Bool
structure Cd4 where
 j6:List V3
 (j9 d8 k8 k9:Int)
structure od7 where
 j6:List V3
 (is7 j9 d8 k8 k9:Int)
structure od8 where
 is8:Int
structure Cd5 where
 alt:Nat
 is0:Int
structure nd0 where
 j6:List V3
 (j9 d8 k8 k9:Int)
structure nd1 where
 alt:Nat
 bs0:Bool
structure Xe8 where
 (is3 is4 is9 ua0 Vf7 Vf8 Wf2:Int)
 (Dd3 Dd4:List V3)
structure Xe9 where
 Wf3:Int
structure Ye0 where
 (is3 is9 ua0 Vf7:Int)
structure Ye1 where
 Vf8:Int
 (Dd3 Dd4:List V3)
structure Ye2 where
 is9:Int
structure Ye3 where
 ua0:Int
 (Dd3 Dd4:List V3)
end Go.Ev.Ce
namespace Go.Ev
open Go Go.ChangeShapes Go.RowKit
structure nd2(w w':World):Prop where
 os:w'.os=w.os
 output:w'.output=w.output
 size:w.heap.size<=w'.heap.size
 block:∀k,k<w.heap.size->w'.heap[k]?=w.heap[k]?
theorem nd2.kept{w w':World}(h:nd2 w w')(may:MemPlace->Prop):w.keptBut w' may:=by
 refine⟨h.os,h.output,λi hi=>?_⟩
 rw[h.block i hi];cases w.heap[i]? with
 |none=>rfl
 |some o=>cases o<;>first | exact⟨rfl,rfl,rfl,λ_ _=>rfl⟩ | exact .inr ⟨rfl,rfl⟩ | rfl
theorem nd2.frozen{w w':World}(h:nd2 w w')(b off:Nat)(hb:b<w.heap.size):w'.frozen? ⟨b,off,none⟩=w.frozen? ⟨b,off,none⟩:=by
 simp only[World.frozen?,h.block b hb]
theorem nd2.cell{w w':World}(h:nd2 w w')(b off:Nat)(hb:b<w.heap.size):w'.cell? ⟨b,off,none⟩=w.cell? ⟨b,off,none⟩:=by
 simp only[World.cell?,h.block b hb]
theorem nd2.same{w w':World}(h:nd2 w w')(p:MemPlace)(hp:p.block<w.heap.size):w.sameAt w' p:=by
 cases p with
 |cell b off=>exact h.cell b off hp
 |map b=>exact h.block b hp
theorem Pb9{α β:Type}{f:α->Option β}:∀{l:List α} {r:List β},l.mapM f=some r->r.length=l.length/\∀(j:Nat) y,r[j]?=some y->∃x,l[j]?=some x/\f x=some y
 |[],r,h=>by
  have:r=[]:=by simpa using h.symm
  subst this;simp
 |x::l,r,h=>by
  rw[List.mapM_cons] at h;obtain⟨y,h1,h2⟩:=Qln.1 h;obtain⟨r',h3,h4⟩:=Qln.1 h2
  have:r=y::r':=by simpa using h4.symm
  subst this;obtain⟨g1,g2⟩:=Pb9 h3;refine⟨by simp[g1],λj z hz=>?_⟩
  cases j with
  |zero=>simp at hz;subst hz;exact⟨x,rfl,h1⟩
  |succ j=>simpa using g2 j z (by simpa using hz)
section
variable{D:Type}{enc:TypeId×Value->D}{P:Program}
theorem rc5 {T : TypeId → Prop} (K : Kids P T) (hsz : ∀ {t e : TypeId}, T t → P.underlying t = some (.slice e) → 0 < P.cellsOf e) {w w' : World} {sp : Nat → Bool} (hs : nd2 w w') :
  ∀{ts:List TypeId} {vs:List Value} {ds:List (DataW D)} {ps:List MemPlace},(∀t∈ts,T t)->DataW.TrodAll enc P w 0 (λ_=>true) true ts vs ds ps->(∀p∈ps,p.block<w.heap.size)->(∀p∈ps,sp p.block=true)->DataW.TrodAll enc P w' 0 sp true ts vs ds ps
 |[],[],[],_,_,h,_,_=>h
 |t::ts,v::vs,d::ds,ps,ht,h,hlt,hsp=>by
  obtain⟨p,q,⟨fuel,h1⟩,h2,rfl⟩:=h;refine⟨p,q,⟨fuel,?_⟩,rc5 K hsz hs (λt h=>ht t (by simp[h])) h2 (λx hx=>hlt x (by simp[hx])) (λx hx=>hsp x (by simp[hx])),rfl⟩
  exact DataW.trod_stays K hsz (λh=>by cases h) (ht t (by simp)) h1 (λx hx=>hs.same x (hlt x (by simp at hx ⊢;exact .inl hx))) (λx hx=>hsp x (by simp at hx ⊢;exact .inl hx))
 |[],_::_,_,_,_,h,_,_=>h.elim
 |[],[],_::_,_,_,h,_,_=>h.elim
 |_::_,[],_,_,_,h,_,_=>h.elim
 |_::_,_::_,[],_,_,h,_,_=>h.elim
theorem Ve7 {T : TypeId → Prop} (K : Kids P T) (hsz : ∀ {t e : TypeId}, T t → P.underlying t = some (.slice e) → 0 < P.cellsOf e) {f : Func} {s : ChangeSpec} {apart fresh handsOn again : Bool} {W W' : World} {args : Array Value} {ds gs : List (DataW D)} {before : List MemPlace} {tb : TypeId}
  (hT:∀t∈f.params.toList,T t) (hW:DataW.Whole enc P f.params.toList s.vars apart W args.toList ds gs before) (hv:s.vars=[]) (hr:f.resultTypes=#[tb]) (hb:P.underlying tb=some .bool)
  (h1:(s.fn D ds).results=[.lit (.bool true)]) (h2:(s.fn D ds).args=ds) (h3:(s.fn D ds).vars=[]) (hs:nd2 W W') :
  s.post enc P f apart fresh handsOn again W args (.bool true) W':=by
 have hlt:=hW.lt;obtain⟨pa,pv,hA,hV,hps,hz,hn⟩:=id hW;rw[hv] at hV;have hpv:gs=[]/\pv=[]:=by
  cases gs with
  |nil=>exact⟨rfl,hV⟩
  |cons=>exact hV.elim
 obtain⟨rfl,rfl⟩:=hpv;rw[<- List.append_nil ds] at h1 h3;have h2:(s.fn D (ds++[])).args=ds:=by rw[List.append_nil];exact h2
 have hpa:before=pa:=by rw[hps];simp
 subst hpa;have hagain:∀sp:Nat->Bool,(∀p∈before,sp p.block=true)->DataW.TrodAll enc P W' 0 sp true f.params.toList args.toList ds before:=λsp h=>rc5 K hsz hs hT hA hlt h
 have hres:∀(b:Nat) (sp:Nat->Bool) (hd:Bool),DataW.TrodAll enc P W' b sp hd f.resultTypes.toList ((Value.bool true).resultList f.resultTypes.size) [.lit (.bool true)] []:=λb sp hd=>by
  rw[hr];exact⟨[],[],⟨1,by simp[DataW.trod,hb,Value.cells,Value.resultList]⟩,rfl,rfl⟩
 have hvars:∀sp:Nat->Bool,DataW.TrodVars enc P W' sp s.vars ([]:List (DataW D)) []:=λsp=>by rw[hv];exact rfl
 have hok:∀(j:Nat) (t:TypeId) (r:Value),f.resultTypes[j]?=some t->((Value.bool true).resultList f.resultTypes.size)[j]?=some r->Value.okWide P W' .any 0 t r:=by
  rw[hr];intro j t r h4 h5;cases j with
  |zero =>
   simp at h4
   subst h4
   have:r=.bool true:=by simpa [Value.resultList] using h5.symm
   subst this;exact okWide_bool_mk hb _
  |succ j=>simp at h4
 have hag:DataW.TrodAll enc P W' 0 (λ_=>true) true (f.resultTypes.toList++f.params.toList) ((Value.bool true).resultList f.resultTypes.size++args.toList) (.lit (.bool true)::ds) before:=by
  have:=hagain (λ_=>true) (λ_ _=>rfl)
  rw[hr];exact⟨[],before,⟨1,by simp[DataW.trod,hb,Value.cells,Value.resultList]⟩,this,rfl⟩
 refine⟨ds,[],before,[],before,[],hW,?_,?_,?_,hs.kept _,λ_=>?_⟩
 ·rw[h1];exact hres _ _ _
 ·rw[h2];exact hagain _ λp hp=>by simpa using hlt p hp
 ·rw[h3];exact hvars _
 ·refine⟨hok,.lit (.bool true)::ds,[],before,⟨before,[],hag,hvars _,by simp,?_,?_⟩,?_⟩
  ·intro b off hp;rw[hs.frozen b off (hlt _ hp)];exact hz b off (by simpa using hp)
  ·intro ha;simpa using hn ha
  ·intro p hp _;exact hp
variable{w:World}{base:Nat}{spare:Nat->Bool}{held:Bool}
def Nc7(w:World):Fz:=λb o=>(w.cell? ⟨b,o,none⟩).isSome
theorem zf1 {fuel : Nat} {t : TypeId} {k : IntKind} {cs : List Value} {x : DataW D × List MemPlace} (ht : P.underlying t = some (.int k)) (h : DataW.trod enc P w base spare held fuel t cs = some x) :
  ∃n,cs=[.int k n]/\(Lit.int k n).wf=true/\x.1=.lit (.int k n):=by
 cases fuel with
 |zero=>cases h
 |succ fuel =>
  match cs,h with
  |[],h=>simp[DataW.trod,ht] at h
  |[v],h =>
   cases v with
   |int k' n =>
    simp only[DataW.trod,ht] at h
    split at h
    ·rename_i hk;obtain⟨rfl,hw⟩:=hk;injection h with h;subst h
     exact⟨n,rfl,hw,rfl⟩
    ·cases h
   |_=>simp[DataW.trod,ht] at h
  |a::b::r,h=>simp[DataW.trod,ht] at h
theorem if9 {fuel : Nat} {t : TypeId} {cs : List Value} {x : DataW D × List MemPlace} (ht : P.underlying t = some .bool) (h : DataW.trod enc P w base spare held fuel t cs = some x) :
  ∃n,cs=[.bool n]/\x.1=.lit (.bool n):=by
 cases fuel with
 |zero=>cases h
 |succ fuel =>
  match cs,h with
  |[],h=>simp[DataW.trod,ht] at h
  |[v],h =>
   cases v with
   |bool n =>
    simp only[DataW.trod,ht] at h;injection h with h;subst h
    exact⟨n,rfl,rfl⟩
   |_=>simp[DataW.trod,ht] at h
  |a::b::r,h=>simp[DataW.trod,ht] at h
theorem Ve8 {fuel : Nat} {t e : TypeId} {n : Nat} {cs : List Value} {x : DataW D × List MemPlace} (ht : P.underlying t = some (.array n e)) (h : DataW.trod enc P w base spare held fuel t cs = some x) :
  cs.length=P.cellsOf t/\∃(fuel':Nat) (xs:List (DataW D×List MemPlace)),xs.length=n/\x.1=.agg (xs.map (·.1))/\∀(j:Nat) y,xs[j]?=some y->DataW.trod enc P w base spare held fuel' e ((cs.drop (j*P.cellsOf e)).take (P.cellsOf e))=some y:=by
 cases fuel with
 |zero=>cases h
 |succ fuel =>
  unfold DataW.trod at h;rw[ht] at h
  simp only at h
  split at h
  ·rename_i hl;obtain⟨xs,h1,h2⟩:=Qlai.1 h;have hx:=Pb9 h1;exact⟨hl,fuel,xs,by simpa using hx.1,by rw[<- h2],λj y hy=>by
    obtain⟨a,ha,hb⟩:=hx.2 j y hy
    have:j<n:=by
     have:=(Qlag.1 hy).1
     rw[hx.1] at this;simpa using this
    rw[Qlac this] at ha;injection ha with ha;subst ha;exact hb⟩
  ·cases h
theorem Ee3 {fuel : Nat} {t : TypeId} {fs : Array Field} {cs : List Value} {x : DataW D × List MemPlace} (ht : P.underlying t = some (.struct fs)) (h : DataW.trod enc P w base spare held fuel t cs = some x) :
  cs.length=P.cellsOf t/\∃(fuel':Nat) (xs:List (DataW D×List MemPlace)),xs.length=fs.size/\x.1=.agg (xs.map (·.1))/\∀(j:Nat) f,fs[j]?=some f->∃y,xs[j]?=some y/\DataW.trod enc P w base spare held fuel' f.type ((cs.drop f.offset).take (P.cellsOf f.type))=some y:=by
 cases fuel with
 |zero=>cases h
 |succ fuel =>
  unfold DataW.trod at h;rw[ht] at h
  simp only at h
  split at h
  ·rename_i hl;obtain⟨xs,h1,h2⟩:=Qlai.1 h;have hx:=Pb9 h1;refine⟨hl,fuel,xs,by simpa using hx.1,by rw[<- h2],λj f hf=>?_⟩
   have hj:j<xs.length:=by
    rw[hx.1];simpa using (Array.getElem?_eq_some_iff.1 hf).1
   obtain⟨a,ha,hb⟩:=hx.2 j _ (Qlc hj)
   have:a=f:=by
    have:fs.toList[j]?=some f:=by simpa using hf
    exact Option.some.inj (ha.symm.trans this)
   subst this;exact⟨_,Qlc hj,hb⟩
  ·cases h
theorem de3 {fuel : Nat} {t e : TypeId} {cs : List Value} {x : DataW D × List MemPlace} (ht : P.underlying t = some (.slice e)) (h : DataW.trod enc P w base spare held fuel t cs = some x) :
  cs=[.slice none 0 0]\/∃(a:Addr) (n cap fuel':Nat),cs=[.slice (some a) n cap]/\n<=cap/\cap<=maxLen/\∀j,j<n->∃row y,w.cells? base (a.add (j*P.cellsOf e)) (P.cellsOf e)=some row/\DataW.trod enc P w base spare held fuel' e row=some y:=by
 cases fuel with
 |zero=>cases h
 |succ fuel =>
  match cs,h with
  |[],h=>simp[DataW.trod,ht] at h
  |[v],h =>
   cases v with
   |slice a len cap =>
    cases a with
    |none =>
     simp only[DataW.trod,ht] at h
     split at h<;>first | (rename_i e1;cases e1;done) | skip
     all_goals first | exact .inl rfl | (simp_all;done) | skip
    |some a =>
     refine .inr ?_;simp only[DataW.trod,ht] at h
     split at h
     ·rename_i hc;obtain⟨elems,h1,h2⟩:=Qln.1 h;have hx:=Pb9 h1;refine⟨a,len,cap,fuel,rfl,hc.2.1,hc.2.2,λj hj=>?_⟩
      have hj':j<elems.length:=by rw[hx.1];simpa using hj
      obtain⟨i,hi,hb⟩:=hx.2 j _ (Qlc hj');rw[Qlac hj] at hi;injection hi with hi;subst hi;obtain⟨row,r1,r2⟩:=Qln.1 hb;exact⟨row,_,r1,r2⟩
     ·cases h
   |_=>simp[DataW.trod,ht] at h
  |a::b::r,h=>simp[DataW.trod,ht] at h
theorem ue9:∀(d:Nat) (t:TypeId) (l:List (Nat×CK)),fa9 P d t=some l->∀(fuel:Nat) (cs:List Value) (x:DataW D×List MemPlace),DataW.trod enc P w base spare held fuel t cs=some x->∀p∈l,La6 cs.toArray p
 |0,_,_,h,_,_,_,_=>by cases h
 |d+1,t,l,h,fuel,cs,x,hx=>by
  have hpart:∀{off n:Nat} {e:TypeId} {l':List (Nat×CK)} {fuel':Nat} {y:DataW D×List MemPlace},bc0 off n (fa9 P d e)=some l'->DataW.trod enc P w base spare held fuel' e ((cs.drop off).take n)=some y->∀p∈l',La6 cs.toArray p:=λ{off n e l' fuel' y} h1 h2 p hp=>by
   obtain⟨l2,g1,g2,rfl⟩:=Va8 h1;obtain⟨q,hq,rfl⟩:=List.mem_map.1 hp
   have:=ue9 d e l2 g1 fuel' _ y h2 q hq
   have hlt:=g2 q hq;unfold La6 at this ⊢;simp only[List.getElem?_toArray,List.getElem?_take,hlt,if_true,List.getElem?_drop] at this ⊢;exact this
  have hcat:∀{α:Type} (f:α->Option (List (Nat×CK))) (xs:List α) (l:List (Nat×CK)),ua1 (xs.map f)=some l->∀p∈l,∃a∈xs,∃l',f a=some l'/\p∈l':=λ{α} f xs=>by
   induction xs with
   |nil=>intro l h;simp only[List.map_nil,ua1] at h;injection h with h;subst h;simp
   |cons a xs ih =>
    intro l h p hp;simp only[List.map_cons,ua1] at h;cases h1:f a with
    |none=>simp[h1] at h
    |some l1 =>
    cases h2:ua1 (xs.map f) with
    |none=>simp[h1,h2] at h
    |some l2 =>
    simp only[h1,h2] at h;injection h with h;subst h
    rcases Qli.1 hp with hp|hp
    ·exact⟨a,by simp,l1,h1,hp⟩
    ·obtain⟨b,hb,r⟩:=ih l2 h2 p hp;exact⟨b,by simp[hb],r⟩
  unfold fa9 at h;cases hu:P.underlying t with
  |none=>simp[hu] at h
  |some u =>
  cases u with
  |int k =>
   simp only[hu] at h;injection h with h;subst h
   obtain⟨n,rfl,_,_⟩:=zf1 hu hx;intro p hp;simp at hp;subst hp;exact⟨n,rfl⟩
  |bool =>
   simp only[hu] at h;injection h with h;subst h
   obtain⟨n,rfl,_⟩:=if9 hu hx;intro p hp;simp at hp;subst hp;exact⟨n,rfl⟩
  |struct fs =>
   simp only[hu] at h
   split at h
   ·cases h
   obtain⟨_,fuel',xs,_,_,hxs⟩:=Ee3 hu hx;intro p hp;obtain⟨f,hf,l',h1,h2⟩:=hcat _ _ _ h p hp
   split at h1
   ·cases h1
   obtain⟨j,hj⟩:=List.getElem?_of_mem hf;obtain⟨y,_,hy⟩:=hxs j f (by simpa using hj)
   have hc:P.cellsOf f.type=szT P f.type:=by
    unfold Program.cellsOf szT;cases P.info? f.type<;>rfl
   rw[hc] at hy;exact hpart h1 hy p h2
  |array n e =>
   simp only[hu] at h
   split at h
   case isFalse=>cases h
   obtain⟨_,fuel',xs,hn,_,hxs⟩:=Ve8 hu hx;intro p hp;obtain⟨j,hj,l',h1,h2⟩:=hcat _ _ _ h p hp;have hj':j<xs.length:=by rw[hn];simpa using hj
   have hy:=hxs j _ (Qlc hj');have hc:P.cellsOf e=szT P e:=by
    unfold Program.cellsOf szT;cases P.info? e<;>rfl
   rw[hc] at hy;exact hpart h1 hy p h2
  |_=>simp[hu] at h
def ib5(k:IntKind)(es:Nat)(g:Nat->Int):List b7:=(List.range es).map λc=>.v (.int k (g c))
def Ha4(k:IntKind)(es:Nat):List (Nat×CK):=(List.range es).map λc=>(c,.int k)
theorem jf0 {d : Nat} {t : TypeId} {k : IntKind} {es : Nat} (hf : fa9 P d t = some (Ha4 k es)) {fuel : Nat} {cs : List Value} {x : DataW D × List MemPlace} (hx : DataW.trod enc P w base spare held fuel t cs = some x) (hl : cs.length = es) :
  ∃g:Nat->Int,∀c,c<es->cs[c]?=some (.int k (g c)):=by
 have h:=ue9 d t _ hf fuel cs x hx;have h':∀c,∃n:Int,c<es->cs[c]?=some (.int k n):=λc=>by
  by_cases hc:c<es
  ·have:=h (c,.int k) (List.mem_map.2 ⟨c,by simpa using hc,rfl⟩)
   obtain⟨n,hn⟩:=this;exact⟨n,λ_=>by simpa using hn⟩
  ·exact⟨0,λh=>absurd h hc⟩
 exact⟨λc=>Classical.choose (h' c),λc hc=>Classical.choose_spec (h' c) hc⟩
theorem Ve9{F:Fz}{w:World}(k:IntKind)(n:Int):da8 F w (.v (.int k n)) (.int k n):=.v _ rfl
theorem ne4{k:IntKind}{es:Nat}{g:Nat->Int}{c:Nat}{x:b7}(h:(ib5 k es g)[c]?=some x):c<es/\x=.v (.int k (g c)):=by
 unfold ib5 at h;obtain⟨h1,h2⟩:=Ya1 h;exact⟨h1,h2.symm⟩
theorem rc6 {t e : TypeId} {k : IntKind} {es d : Nat} (ht : P.underlying t = some (.slice e)) (hf : fa9 P d e = some (Ha4 k es)) (hes : P.cellsOf e = es) (h0 : 0 < es) {fuel : Nat} {cs : List Value} {x : DataW D × List MemPlace} (hx : DataW.trod enc P w 0 spare held fuel t cs = some x) :
  ∃(v:Value) (n:Nat) (g:Nat->Nat->Int),cs=[v]/\n<=maxLen/\da8 (Nc7 w) w (.tree es n λj=>ib5 k es (g j)) v:=by
 rcases de3 ht hx with rfl|⟨a,n,cap,fuel',rfl,hn,hc,hel⟩
 ·exact⟨_,0,λ_ _=>0,rfl,Qld _,.nil _ _⟩
 ·rw[hes] at hel;have hcell:∀j,j<n->∃g:Nat->Int,∀c,c<es->w.cell? ((a.add (j*es)).add c)=some (.int k (g c)):=λj hj=>by
   obtain⟨row,y,h1,h2⟩:=hel j hj;unfold World.cells? at h1
   split at h1
   ·obtain⟨l1,l2⟩:=Pb9 h1;have hl:row.length=es:=by simpa using l1
    obtain⟨g,hg⟩:=jf0 hf h2 hl;refine⟨g,λc hc=>?_⟩
    obtain⟨i,hi,hi2⟩:=l2 c _ (hg c hc);rw[Qlac hc] at hi;injection hi with hi;subst hi;exact hi2
   ·cases h1
  have hg:∀j,∃g:Nat->Int,j<n->∀c,c<es->w.cell? ((a.add (j*es)).add c)=some (.int k (g c)):=λj=>by
   by_cases hj:j<n
   ·obtain⟨g,hg⟩:=hcell j hj;exact⟨g,λ_=>hg⟩
   ·exact⟨λ_=>0,λh=>absurd h hj⟩
  obtain⟨g,hg⟩:=Qlv hg;have hspot:0<n->a.spot=none:=λhn=>by
   have:=hg 0 hn 0 h0
   simpa [Addr.add] using World.cell?_spot this
  have hw:∀j c,j<n->c<es->w.cell? ⟨a.block,a.off+(j*es+c),none⟩=some (.int k (g j c)):=λj c hj hc=>by
   have:=hg j hj c hc
   rw[X6 (hspot (by omega)),X6 rfl] at this
   simpa [Nat.add_assoc] using this
  refine⟨_,n,g,rfl,Qlf hn hc,.tree es n _ a cap (λj c=>.int k (g j c)) hspot hn (λi hi=>by simp[ib5]) (λi c hi hc=>?_) hw λi c hi hc=>?_⟩
  ·unfold Nc7;rw[hw i c hi hc];rfl
  ·have:=(ne4 (Qlc hc)).2
   rw[this];exact Ve9 _ _
theorem Ee4(w:World):D1 (λk=>w.heap.size<=k) (λ_=>⟨0,0,0⟩) [] (Nc7 w) w :=
 ⟨λid b h=>by simp at h,λid id' b b' h=>by simp at h,λ_ _ h=>h,λ_ h=>h⟩
theorem Ee5 {G : Nat → List Value} {f : FuncId} {S : Sum} (hS : i5 P G f S) {aargs : List b7} {args : List Value} (hrun : ∃ out, (S aargs []).run = some (b true, out)) (hl : aargs.length = args.length)
  (ha:∀(i:Nat) x x',aargs[i]?=some x->args[i]?=some x'->ka0 (λ_=>⟨0,0,0⟩) [] (Nc7 w) w x x') (hG:∀g (c:Nat) x,(G g)[c]?=some x->x.oneCell'=true/\w.cell? ⟨g,c,none⟩=some x) :
  Calls P f args.toArray w λe w'=>e=.returned (.bool true)/\nd2 w w':=by
 obtain⟨out,hrun⟩:=hrun;obtain⟨_,hc⟩:=hS aargs [] (b true) out hrun (λk=>w.heap.size<=k) (λ_=>⟨0,0,0⟩) (Nc7 w) w args (Ee4 w) hl (λi x x' h1 h2=>.val (ha i x x' h1 h2)) (λg c x hx=>by
  obtain⟨h1,h2⟩:=hG g c x hx;exact⟨h1,by unfold Nc7;rw[h2];rfl,h2⟩)
 refine hc.mono λe w' ⟨r',he,ρ',F',hA,hH,hW⟩=>?_
 have:=ja5 hW
 subst this;exact⟨he,hA.ext.os,hA.ext.output,hA.ext.size,λk hk=>hA.ext.block k hk (by omega)⟩
theorem Nc8 {ρ : Rho} {H : List b8} {t e : TypeId} {k : IntKind} {es d : Nat} {v : Value} {dd : DataW D} {pp : List MemPlace} {bs : Nat} {r : Reach} (ht : P.underlying t = some (.slice e)) (hf : fa9 P d e = some (Ha4 k es)) (hes : P.cellsOf e = es) (h0 : 0 < es)
  (hok:Value.okWide P w r bs t v) (h:DataW.Trod enc P w 0 spare held t v dd pp):∃(n:Nat) (g:Nat->Nat->Int),n<=maxLen/\ka0 ρ H (Nc7 w) w (.tree es n λj=>ib5 k es (g j)) v:=by
 obtain⟨fuel,hx⟩:=h;obtain⟨v',n,g,h1,h2,h3⟩:=rc6 ht hf hes h0 hx;have hv:v.cells=#[v]:=by
  unfold Value.okWide at hok;rw[ht] at hok;cases v with
  |agg cs=>exfalso;simp[Cell.okWide,Cell.ok,ht] at hok
  |_=>rfl
 rw[hv] at h1
 have:v=v':=by simpa using h1
 subst this;exact⟨n,g,h2,.cell (.mem h3)⟩
end
end Go.Ev
namespace Go.Ev.L
open Go Go.Ev
theorem We0 {α : Type} (t : Ty α) (n : Nat) (g : Nat → Nat → Int) (f : (Nat → Int) → α) (h : ∀ j, ib5 .i64 t.es (g j) = t.row (f (g j))) :
  ∃l,(P8 t).dec (.tree t.es n λj=>ib5 .i64 t.es (g j))=some l/\(P8 t).grd (.tree t.es n λj=>ib5 .i64 t.es (g j))=true:=by
 refine⟨lsL t n λj=>ib5 .i64 t.es (g j),?_,Ua6 t (f:=λk=>f (g k)) λk _=>h k⟩
 show Bool.rec (motive:=λ_=>Option (List α)) none (some (lsL t n λj=>ib5 .i64 t.es (g j))) (Nat.beq t.es t.es)=_
 rw[Qlab]
def Rdg{α:Type}(c:Cod α)(x:b7)(a:α):Prop:=c.dec x=some a/\c.grd x=true
theorem We1{α:Type}(t:Ty α)(n:Nat)(g:Nat->Nat->Int)(f:(Nat->Int)->α)(h:∀j,ib5 .i64 t.es (g j)=t.row (f (g j))):∃l,Rdg (P8 t) (.tree t.es n λj=>ib5 .i64 t.es (g j)) l:=We0 t n g f h
theorem nd3(n:Nat)(g:Nat->Nat->Int):∃l,Rdg (P8 tI) (.tree 1 n λj=>ib5 .i64 1 (g j)) l:=We1 tI n g (λg=>g 0) λ_=>rfl
section
variable{α β γ δ ε:Type}{c:Cod α}{d:Cod β}{e:Cod γ}{f:Cod δ}{c5:Cod ε}{x y z w v:b7}{a:α}{b':β}{g:γ}{j:δ}{m:ε}{r:b7×List b8}
theorem Vf3{k:α->β->γ->δ->DT (b7×List b8)}(h1:Rdg c x a)(h2:Rdg d y b')(h3:Rdg e z g)(h4:Rdg f w j)(h:(k a b' g j).run=some r):(Sd0 c d e f k [x,y,z,w] []).run=some r:=by
 unfold Sd0;simp only[h1.1,h1.2,h2.1,h2.2,h3.1,h3.2,h4.1,h4.2];exact h
end
theorem zf2{g p:Bool}(hg:g=true)(hp:p=true):(DT.guard g (.ret ((one r1B).enc p,([]:List b8)))).run=some (b true,([]:List b8)):=by subst hg;subst hp;rfl
end Go.Ev.L
namespace Go.Ev.Ce
open Go Go.Ev Go.Ev.L Go.Proofs
structure B3 where
 b0:Int
 b1:Int
 b2:Int
structure B2 where
 d0:Int
 d1:Int
structure LL where
 u:List Int
 v:List Int
end Go.Ev.Ce
namespace Go.Ev.L
open Go Go.Ev
section
variable{α β γ δ ε ζ:Type}{P:Program}{G:Nat->List Value}{f:FuncId}{R0:Sum}{c:Cod α}{d:Cod β}{e:Cod γ}{c4:Cod δ}{c5:Cod ε}{c6:Cod ζ}{ρ:Type}
theorem Vf4(hb:i5 P G f R0)(R:RR ρ){o:α->β->γ->δ->ε->ζ->Option (b7×List b8)}(h:∀a b g j m n r,o a b g j m n=some r->(R0 [c.enc a,d.enc b,e.enc g,c4.enc j,c5.enc m,c6.enc n] []).run=some r):i5 P G f (ye7 c d e c4 c5 c6 λa b g j m n=>rdO R (o a b g j m n)) :=
 (af5 hb (k:=λa b g j m n=>DT.ofOption (o a b g j m n)) λa b g j m n r hr=>h a b g j m n r (by rw[Ta0] at hr;exact hr)).conv λargs blks y out hr=>by
  unfold ye7 at hr
  split at hr
  ·obtain⟨a,h1,hr⟩:=y9 hr;obtain⟨b,h2,hr⟩:=y9 hr;obtain⟨g,h3,hr⟩:=y9 hr;obtain⟨j,h4,hr⟩:=y9 hr;obtain⟨m,h5,hr⟩:=y9 hr;obtain⟨n,h6,hr⟩:=y9 hr;obtain⟨g1,hr⟩:=DT.run_guard_some hr;obtain⟨g2,hr⟩:=DT.run_guard_some hr;obtain⟨g3,hr⟩:=DT.run_guard_some hr;obtain⟨g4,hr⟩:=DT.run_guard_some hr;obtain⟨g5,hr⟩:=DT.run_guard_some hr;obtain⟨g6,hr⟩:=DT.run_guard_some hr;obtain⟨e1,x,o',e2,e3⟩:=Ic5 hr;refine⟨rfl,e1,x,o',?_,e3⟩;simp only[ye7,h1,h2,h3,h4,h5,h6,onO,g1,g2,g3,g4,g5,g6];show (DT.ofOption (o a b g j m n)).run=_;rw[Ta0,e2]
  ·cases hr
end
end Go.Ev.L
namespace Go.Ev.Ce
open Go Go.Ev Go.Ev.L Go.Proofs
structure B6 where
 c0:Int
 c1:Int
 c2:Int
 c3:Int
 c4:Int
 c5:Int
set_option maxRecDepth 100000
noncomputable def Sc0:List (Nat×Sum):=[(16,vc7)]
theorem Nd5:i9 prog G Sc0:=⟨Rc2,trivial⟩
structure ta6 where
 u9:List (List Int)
 is1:Int
structure R3 where
 ph:Nat
 is6:Int
 ns5:Nat
 eh0:List (List b7)
noncomputable def Cb3(p:ta6)(s:R3):St:=⟨eL (tLs tI) p.u9::i p.is1::ra 3 (.v (.slice none 0 0)::i s.is6::ra 20 []),[]⟩
noncomputable def Cb4(p:ta6)(s:R3):St:=⟨eL (tLs tI) p.u9::i p.is1::ra 3 (.sl 0 0 s.ns5 0::i s.is6::ra 20 []),[⟨24,1,s.eh0,true,false,0⟩]⟩
noncomputable def ud7(p:ta6)(s:R3):St:=(sel (Nat.beq s.ph 1) (Cb4 p s) (Cb3 p s))
noncomputable def P1{α:Type}(k:R3->α)(e:Nat->α)(z:α)(p:ta6)(s:R3):α:=let t1:=(oa6 (rt tI (gL (tLs tI) p.u9 s.is6.toNat)));(sl (decide (s.is6<(↑(List.length p.u9):Int))) (sl (decide (s.is6<p.is1)) (sl (inB s.is6 (List.length p.u9)) (sl (okE tI (gL (tLs tI) p.u9 s.is6.toNat)) (sl (Ab5 (rt tI (gL (tLs tI) p.u9 s.is6.toNat))) (k ⟨1,W (s.is6+1),1,[[eL tP t1]]⟩) z) z) z) (e 1)) (e 2))
noncomputable def P4{α:Type}(k:R3->α)(e:Nat->α)(z:α)(p:ta6)(s:R3):α:=let t1:=(oa6 (rt tI (gL (tLs tI) p.u9 s.is6.toNat)));(sl (decide (s.is6<(↑(List.length p.u9):Int))) (sl (decide (s.is6<p.is1)) (sl (inB s.is6 (List.length p.u9)) (sl (okE tI (gL (tLs tI) p.u9 s.is6.toNat)) (sl (Ab5 (rt tI (gL (tLs tI) p.u9 s.is6.toNat))) (sl (Nat.beq s.ns5 (len s.eh0)&&Nat.ble ((s.ns5+1)*24) room) (k ⟨1,W (s.is6+1),s.ns5+1,app s.eh0 [[eL tP t1]]⟩) z) z) z) z) (e 3)) (e 4))
noncomputable def na0(p:ta6)(s:R3):Stp R3:=(sel (Nat.beq s.ph 1) (P4 .next .exit .fail p s) (P1 .next .exit .fail p s))
noncomputable def Vb9:Lo ta6 R3:=⟨En Sc0,0,Cf8,[1,1,0,1,4,4],[0,1,5,6],.p,[⟨.s (.c 1 (nL (tLs tI)))::sIq::ru2 3 (.s (.o .nil)::sIq::ru2 20 []),[],λa H=>(⟨rL (tLs tI) (slT a 0),aIq a 1⟩,⟨0,aIq a 6,0,[]⟩)⟩,⟨.s (.c 1 (nL (tLs tI)))::sIq::ru2 3 (.s (.o (.sl 0 0 (some 0) none))::sIq::ru2 20 []),[⟨24,1,true,none⟩],λa H=>(⟨rL (tLs tI) (slT a 0),aIq a 1⟩,⟨1,aIq a 6,slN (slT a 5),elT H 0⟩)⟩],na0,[(some 0,λp s=>upq (Cb3 p s) [(7,i s.is6),(8,eL (tLs tI) p.u9),(9,i (↑(List.length p.u9):Int)),(10,b (decide (s.is6<(↑(List.length p.u9):Int)))),(11,b true),(12,i s.is6),(13,i p.is1),(14,b (decide (s.is6<p.is1))),(15,b (decide (s.is6<p.is1)))]),(some 0,λp s=>upq (Cb3 p s) [(7,i s.is6),(8,eL (tLs tI) p.u9),(9,i (↑(List.length p.u9):Int)),(10,b (decide (s.is6<(↑(List.length p.u9):Int)))),(11,b false),(12,u),(13,u),(14,u),(15,b false)]),(some 0,λp s=>upq (Cb4 p s) [(7,i s.is6),(8,eL (tLs tI) p.u9),(9,i (↑(List.length p.u9):Int)),(10,b (decide (s.is6<(↑(List.length p.u9):Int)))),(11,b true),(12,i s.is6),(13,i p.is1),(14,b (decide (s.is6<p.is1))),(15,b (decide (s.is6<p.is1)))]),(some 0,λp s=>upq (Cb4 p s) [(7,i s.is6),(8,eL (tLs tI) p.u9),(9,i (↑(List.length p.u9):Int)),(10,b (decide (s.is6<(↑(List.length p.u9):Int)))),(11,b false),(12,u),(13,u),(14,u),(15,b false)])],ud7⟩
theorem ud8:Vb9.Ok:=Lo.ok [] (by kernel_rfl) .nil rfl (.cons (λa H=>by kernel_rfl) (.cons (λa H=>by kernel_rfl) .nil)) λp s=>(.sel (Nat.beq s.ph 1) (.of @P4 (λF _ _ _ _ _=>by unfold P4;(repeat' apply m0 (f:=F))<;>rfl) (by kernel_rfl)) (.of @P1 (λF _ _ _ _ _=>by unfold P1;(repeat' apply m0 (f:=F))<;>rfl) (by kernel_rfl)))
noncomputable def Cb5(x:List (List Int))(y:Int):Option (b7×List b8):=let t1:=(lp (na0 (⟨rt (tLs tI) x,y⟩:ta6)) (⟨0,0,0,[]⟩:R3));(sl ((cnE (tLs tI) x)&&true) (sl (Nat.beq t1.1 1) (some (.v (.slice none 0 0),[])) (sl (Nat.beq t1.1 2) (some (.v (.slice none 0 0),[])) (sl (Nat.beq t1.1 3) (some (.sl 0 0 t1.2.ns5 0,[⟨24,1,t1.2.eh0,true,false,0⟩])) (sl (Nat.beq t1.1 4) (some (.sl 0 0 t1.2.ns5 0,[⟨24,1,t1.2.eh0,true,false,0⟩])) none)))) none)
noncomputable def nd4(x:List (List Int))(y:Int):List (List Pln):=O3 (one (r1L (tLs tP))) (Cb5 x y)
noncomputable def wc9(x:List (List Int))(y:Int):Bool:=okO (one (r1L (tLs tP))) (Cb5 x y)
noncomputable def nd5:Sum:=ra8 (P8 (tLs tI)) cI (λx y=>.guard (wc9 x y) (.ret ((one (r1L (tLs tP))).enc (nd4 x y),[])))
theorem de4:i5 prog G 95 nd5:=sb9 (bd b95 Nd5) (one (r1L (tLs tP))) (o:=Cb5) λx y=>va6 (.s .p (.s .p (.s (.s .p (.b (.u Vb9.ls))) .p))) [Vb9.pr] (by kernel_rfl) (.cons ud8 .nil) (by kernel_rfl)
noncomputable def Nd6:List (Nat×Sum):=[(63,kd4)]
theorem ud9:i9 prog G Nd6:=⟨ae1,trivial⟩
noncomputable def jc5(x:Int)(y:Int)(z:Int)(w:Int)(v:Int)(q:Int):Option (b7×List b8):=let t1:=(kd3 (⟨x,y,z⟩:V3) (⟨w,v,q⟩:V3));(some (.sl 0 0 6 0,[⟨73,4,[[i 1,i 0,i 0,i t1.k9],[i (-1),i 0,i 0,i t1.ve6],[i 0,i 1,i 0,i t1.ve7],[i 0,i (-1),i 0,i t1.ve8],[i 0,i 0,i 1,i t1.ve9],[i 0,i 0,i (-1),i t1.we0]],true,false,0⟩]))
noncomputable def P5(x:Int)(y:Int)(z:Int)(w:Int)(v:Int)(q:Int):List Pln:=O3 (one (r1L tP)) (jc5 x y z w v q)
noncomputable def M5(x:Int)(y:Int)(z:Int)(w:Int)(v:Int)(q:Int):Bool:=okO (one (r1L tP)) (jc5 x y z w v q)
noncomputable def Sc1:Sum:=ye7 cI cI cI cI cI cI (λx y z w v q=>.guard (M5 x y z w v q) (.ret ((one (r1L tP)).enc (P5 x y z w v q),[])))
theorem Nd7:i5 prog G 93 Sc1:=Vf4 (bd b93 ud9) (one (r1L tP)) (o:=jc5) λx y z w v q=>y8 (by kernel_rfl)
noncomputable def jc6:List (Nat×Sum):=[]
theorem Wc5:i9 prog G jc6:=trivial
structure aa9 where
 u9:List (List Int)
 is1:Int
structure E6 where
 ph:Nat
 is6:Int
 ns5:Nat
 eh0:List (List b7)
noncomputable def cb7(p:aa9)(s:E6):St:=⟨eL (tLs tI) p.u9::i p.is1::ra 3 (.v (.slice none 0 0)::i s.is6::ra 26 []),[]⟩
noncomputable def cb8(p:aa9)(s:E6):St:=⟨eL (tLs tI) p.u9::i p.is1::ra 3 (.sl 0 0 s.ns5 0::i s.is6::ra 26 []),[⟨22,1,s.eh0,true,false,0⟩]⟩
noncomputable def Nc9(p:aa9)(s:E6):St:=(sel (Nat.beq s.ph 1) (cb8 p s) (cb7 p s))
noncomputable def E9{α:Type}(k:E6->α)(e:Nat->α)(z:α)(p:aa9)(s:E6):α:=(sl (decide (s.is6<(↑(List.length p.u9):Int))) (sl (decide (s.is6<p.is1)) (sl (inB s.is6 (List.length p.u9)) (sl (inB s.is6 (List.length p.u9)) (sl (inB (if 40<(↑(List.length (gL (tLs tI) p.u9 s.is6.toNat)):Int) then 40 else (↑(List.length (gL (tLs tI) p.u9 s.is6.toNat)):Int)) ((List.length (gL (tLs tI) p.u9 s.is6.toNat))+1)) (k ⟨1,W (s.is6+1),1,[[(.tree 1 ((if 40<(↑(List.length (gL (tLs tI) p.u9 s.is6.toNat)):Int) then 40 else (↑(List.length (gL (tLs tI) p.u9 s.is6.toNat)):Int)).toNat-0) (λk=>(λk=>(tI).row (gL tI (gL (tLs tI) p.u9 s.is6.toNat) k)) (0+k)))]]⟩) z) z) z) (e 1)) (e 2))
noncomputable def F4{α:Type}(k:E6->α)(e:Nat->α)(z:α)(p:aa9)(s:E6):α:=(sl (decide (s.is6<(↑(List.length p.u9):Int))) (sl (decide (s.is6<p.is1)) (sl (inB s.is6 (List.length p.u9)) (sl (inB s.is6 (List.length p.u9)) (sl (inB (if 40<(↑(List.length (gL (tLs tI) p.u9 s.is6.toNat)):Int) then 40 else (↑(List.length (gL (tLs tI) p.u9 s.is6.toNat)):Int)) ((List.length (gL (tLs tI) p.u9 s.is6.toNat))+1)) (sl (Nat.beq s.ns5 (len s.eh0)&&Nat.ble ((s.ns5+1)*24) room) (k ⟨1,W (s.is6+1),s.ns5+1,(app s.eh0 [[(.tree 1 ((if 40<(↑(List.length (gL (tLs tI) p.u9 s.is6.toNat)):Int) then 40 else (↑(List.length (gL (tLs tI) p.u9 s.is6.toNat)):Int)).toNat-0) (λk=>(λk=>(tI).row (gL tI (gL (tLs tI) p.u9 s.is6.toNat) k)) (0+k)))]])⟩) z) z) z) z) (e 3)) (e 4))
noncomputable def W5(p:aa9)(s:E6):Stp E6:=(sel (Nat.beq s.ph 1) (F4 .next .exit .fail p s) (E9 .next .exit .fail p s))
noncomputable def rb8:Lo aa9 E6:=⟨En jc6,0,Cf9,[1,1,0,1,4,4],[0,1,5,6],.p,[⟨.s (.c 1 (nL (tLs tI)))::sIq::ru2 3 (.s (.o .nil)::sIq::ru2 26 []),[],λa H=>(⟨rL (tLs tI) (slT a 0),aIq a 1⟩,⟨0,aIq a 6,0,[]⟩)⟩,⟨.s (.c 1 (nL (tLs tI)))::sIq::ru2 3 (.s (.o (.sl 0 0 (some 0) none))::sIq::ru2 26 []),[⟨22,1,true,none⟩],λa H=>(⟨rL (tLs tI) (slT a 0),aIq a 1⟩,⟨1,aIq a 6,slN (slT a 5),elT H 0⟩)⟩],W5,[(some 0,λp s=>upq (cb7 p s) [(7,i s.is6),(8,eL (tLs tI) p.u9),(9,i (↑(List.length p.u9):Int)),(10,b (decide (s.is6<(↑(List.length p.u9):Int)))),(11,b true),(12,i s.is6),(13,i p.is1),(14,b (decide (s.is6<p.is1))),(15,b (decide (s.is6<p.is1)))]),(some 0,λp s=>upq (cb7 p s) [(7,i s.is6),(8,eL (tLs tI) p.u9),(9,i (↑(List.length p.u9):Int)),(10,b (decide (s.is6<(↑(List.length p.u9):Int)))),(11,b false),(12,u),(13,u),(14,u),(15,b false)]),(some 0,λp s=>upq (cb8 p s) [(7,i s.is6),(8,eL (tLs tI) p.u9),(9,i (↑(List.length p.u9):Int)),(10,b (decide (s.is6<(↑(List.length p.u9):Int)))),(11,b true),(12,i s.is6),(13,i p.is1),(14,b (decide (s.is6<p.is1))),(15,b (decide (s.is6<p.is1)))]),(some 0,λp s=>upq (cb8 p s) [(7,i s.is6),(8,eL (tLs tI) p.u9),(9,i (↑(List.length p.u9):Int)),(10,b (decide (s.is6<(↑(List.length p.u9):Int)))),(11,b false),(12,u),(13,u),(14,u),(15,b false)])],Nc9⟩
theorem Oc0:rb8.Ok:=Lo.ok [] (by kernel_rfl) .nil rfl (.cons (λa H=>by kernel_rfl) (.cons (λa H=>by kernel_rfl) .nil)) λp s=>(.sel (Nat.beq s.ph 1) (.of @F4 (λF _ _ _ _ _=>by unfold F4;(repeat' apply m0 (f:=F))<;>rfl) (by kernel_rfl)) (.of @E9 (λF _ _ _ _ _=>by unfold E9;(repeat' apply m0 (f:=F))<;>rfl) (by kernel_rfl)))
noncomputable def Sa9(x:List (List Int))(y:Int):Option (b7×List b8):=let t1:=(lp (W5 (⟨rt (tLs tI) x,y⟩:aa9)) (⟨0,0,0,[]⟩:E6));(sl ((cnE (tLs tI) x)&&true) (sl (Nat.beq t1.1 1) (some (.v (.slice none 0 0),[])) (sl (Nat.beq t1.1 2) (some (.v (.slice none 0 0),[])) (sl (Nat.beq t1.1 3) (some (.sl 0 0 t1.2.ns5 0,[⟨22,1,t1.2.eh0,true,false,0⟩])) (sl (Nat.beq t1.1 4) (some (.sl 0 0 t1.2.ns5 0,[⟨22,1,t1.2.eh0,true,false,0⟩])) none)))) none)
noncomputable def kb3(x:List (List Int))(y:Int):List (List Int):=O3 (one (r1L (tLs tI))) (Sa9 x y)
noncomputable def Lb4(x:List (List Int))(y:Int):Bool:=okO (one (r1L (tLs tI))) (Sa9 x y)
noncomputable def rc7:Sum:=ra8 (P8 (tLs tI)) cI (λx y=>.guard (Lb4 x y) (.ret ((one (r1L (tLs tI))).enc (kb3 x y),[])))
theorem nd6:i5 prog G 96 rc7:=sb9 (bd b96 Wc5) (one (r1L (tLs tI))) (o:=Sa9) λx y=>va6 (.s .p (.s .p (.s (.s .p (.b (.u rb8.ls))) .p))) [rb8.pr] (by kernel_rfl) (.cons Oc0 .nil) (by kernel_rfl)
noncomputable def vd0:List (Nat×Sum):=[(96,rc7),(95,nd5)]
theorem nd7:i9 prog G vd0:=⟨nd6,de4,trivial⟩
noncomputable def cb9(x:List (List Int))(y:Int):Option (b7×List b8):=let t1:=(kb3 (rt (tLs tI) x) y);let t2:=(nd4 (rt (tLs tI) t1) y);(sl (okE (tLs tI) x) (sl (Lb4 (rt (tLs tI) x) y) (sl (okE (tLs tI) t1) (sl (wc9 (rt (tLs tI) t1) y) (some (eL (tLs tP) t2,[])) none) none) none) none)
noncomputable def db0(x:List (List Int))(y:Int):List (List Pln):=O3 (one (r1L (tLs tP))) (cb9 x y)
noncomputable def vb2(x:List (List Int))(y:Int):Bool:=okO (one (r1L (tLs tP))) (cb9 x y)
noncomputable def Gc9:Sum:=ra8 (P8 (tLs tI)) cI (λx y=>.guard (vb2 x y) (.ret ((one (r1L (tLs tP))).enc (db0 x y),[])))
theorem vd1:i5 prog G 39 Gc9:=sb9 (bd b39 nd7) (one (r1L (tLs tP))) (o:=cb9) λx y=>y8 (by kernel_rfl)
noncomputable def Nd8:List (Nat×Sum):=[(16,vc7)]
theorem vd2:i9 prog G Nd8:=⟨Rc2,trivial⟩
noncomputable def ob4(x:List Int):Option (b7×List b8):=let t1:=(oa6 (lsL tI ((if 40<(↑(List.length x):Int) then 40 else (↑(List.length x):Int)).toNat-0) (λk=>(λk=>(tI).row (gL tI x k)) (0+k))));(sl (inB (if 40<(↑(List.length x):Int) then 40 else (↑(List.length x):Int)) ((List.length x)+1)) (sl (okL tI ((if 40<(↑(List.length x):Int) then 40 else (↑(List.length x):Int)).toNat-0) (λk=>(λk=>(tI).row (gL tI x k)) (0+k))) (sl (Ab5 (lsL tI ((if 40<(↑(List.length x):Int) then 40 else (↑(List.length x):Int)).toNat-0) (λk=>(λk=>(tI).row (gL tI x k)) (0+k)))) (some (eL tP t1,[])) none) none) none)
noncomputable def ta7(x:List Int):List Pln:=O3 (one (r1L tP)) (ob4 x)
noncomputable def ob5(x:List Int):Bool:=okO (one (r1L tP)) (ob4 x)
noncomputable def Sc2:Sum:=X7 (P8 tI) (λx=>.guard (ob5 x) (.ret ((one (r1L tP)).enc (ta7 x),[])))
theorem Nd9:i5 prog G 38 Sc2:=Ha5 (bd b38 vd2) (one (r1L tP)) (o:=ob4) λx=>y8 (by kernel_rfl)
noncomputable def Yb2:List (Nat×Sum):=[(40,Lb2),(101,ld2),(23,jd8)]
theorem Oc1:i9 prog G Yb2:=⟨jc3,ae8,Zd4,trivial⟩
structure ya5 where
 (od4 Oc6:List (List Pln))
 vd6:Int
structure R4 where
 Pa9:Int
noncomputable def Hb2(p:ya5)(s:R4):St:=⟨.unk::.unk::eL (tLs tP) p.od4::ra 4 (eL (tLs tP) p.Oc6::ra 18 (i p.vd6::i s.Pa9::ra 14 [])),[]⟩
noncomputable def pa4{α:Type}(k:R4->α)(e:Nat->α)(z:α)(p:ya5)(s:R4):α:=let t1:=(wc3 (rt tP (gL (tLs tP) p.od4 s.Pa9.toNat)));let t2:=(Ub3 (rt tP (gL (tLs tP) p.Oc6 s.Pa9.toNat)) (rt tP t1));(sl (decide (s.Pa9<p.vd6)) (sl (inB s.Pa9 (List.length p.Oc6)) (sl (inB s.Pa9 (List.length p.od4)) (sl (okE tP (gL (tLs tP) p.od4 s.Pa9.toNat)) (sl (wc4 (rt tP (gL (tLs tP) p.od4 s.Pa9.toNat))) (sl (okE tP (gL (tLs tP) p.Oc6 s.Pa9.toNat)) (sl (okE tP t1) (sl (Ub4 (rt tP (gL (tLs tP) p.Oc6 s.Pa9.toNat)) (rt tP t1)) (sl (!t2) (e 1) (k ⟨W (s.Pa9+1)⟩)) z) z) z) z) z) z) z) (e 2))
noncomputable def ta8(p:ya5)(s:R4):Stp R4:=pa4 .next .exit .fail p s
noncomputable def ib6:Lo ya5 R4:=⟨En Yb2,0,Cf7,[1,1,1,0,1,4,4],[2,7,26,27],.p,[⟨sUq::sUq::.s (.c 1 (nL (tLs tP)))::ru2 4 (.s (.c 1 (nL (tLs tP)))::ru2 18 (sIq::sIq::ru2 14 [])),[],λa H=>(⟨rL (tLs tP) (slT a 2),rL (tLs tP) (slT a 7),aIq a 26⟩,⟨aIq a 27⟩)⟩],ta8,[(none,λp s=>⟨[b false],[]⟩),(some 0,λp s=>upq (Hb2 p s) [(28,b (decide (s.Pa9<p.vd6)))])],Hb2⟩
theorem Hc0:ib6.Ok:=Lo.ok [] (by kernel_rfl) .nil rfl (.cons (λa H=>by kernel_rfl) .nil) λp s=>(.of @pa4 (λF _ _ _ _ _=>by unfold pa4;(repeat' apply m0 (f:=F))<;>rfl) (by kernel_rfl))
noncomputable def Ka9(x:List Pln)(y:List (List Pln))(z:List (List Pln)):Option (b7×List b8):=let t1:=(kb1 (rt tP x) (rt (tLs tP) y));let t2:=(lp (ta8 (⟨rt (tLs tP) z,rt (tLs tP) t1.1,(↑(List.length z):Int)⟩:ya5)) (⟨0⟩:R4));(sl (okE tP x) (sl (okE (tLs tP) y) (sl (kb2 (rt tP x) (rt (tLs tP) y)) (sl (t1.2 != 0) (some (b false,[])) (sl ((↑(List.length t1.1):Int) != (↑(List.length z):Int)) (some (b false,[])) (sl ((cnE (tLs tP) z)&&((cnE (tLs tP) t1.1)&&true)) (sl (Nat.beq t2.1 1) (some (b false,[])) (sl (Nat.beq t2.1 2) (some (b true,[])) none)) none))) none) none) none)
noncomputable def pa5(x:List Pln)(y:List (List Pln))(z:List (List Pln)):Bool:=O3 (one r1B) (Ka9 x y z)
noncomputable def pa6(x:List Pln)(y:List (List Pln))(z:List (List Pln)):Bool:=okO (one r1B) (Ka9 x y z)
noncomputable def jc7:Sum:=Tc3 (P8 tP) (P8 (tLs tP)) (P8 (tLs tP)) (λx y z=>.guard (pa6 x y z) (.ret ((one r1B).enc (pa5 x y z),[])))
theorem Wc6:i5 prog G 94 jc7:=Ie7 (bd b94 Oc1) (one r1B) (o:=Ka9) λx y z=>va6 (.s .p (.s .p (.s .p (.s (.s .p (.b (.u ib6.ls))) .p)))) [ib6.pr] (by kernel_rfl) (.cons Hc0 .nil) (by kernel_rfl)
noncomputable def Wc7:List (Nat×Sum):=[(42,cb4)]
theorem Oc2:i9 prog G Wc7:=⟨rb6,trivial⟩
noncomputable def La0(x:List (List Pln))(y:List Pln)(z:Bool):Option (b7×List b8):=let t1:=(T6 (rt (tLs tP) x) (rt tP y));(sl (okE (tLs tP) x) (sl (okE tP y) (sl (ha4 (rt (tLs tP) x) (rt tP y)) (sl (t1.2==0) (some (b (t1.1==z),[])) (some (b false,[]))) none) none) none)
noncomputable def G9(x:List (List Pln))(y:List Pln)(z:Bool):Bool:=O3 (one r1B) (La0 x y z)
noncomputable def A8(x:List (List Pln))(y:List Pln)(z:Bool):Bool:=okO (one r1B) (La0 x y z)
noncomputable def Cb6:Sum:=Tc3 (P8 (tLs tP)) (P8 tP) cB (λx y z=>.guard (A8 x y z) (.ret ((one r1B).enc (G9 x y z),[])))
theorem Yb3:i5 prog G 54 Cb6:=Ie7 (bd b54 Oc2) (one r1B) (o:=La0) λx y z=>y8 (by kernel_rfl)
noncomputable def vd3:List (Nat×Sum):=[(47,Gc6)]
theorem nd8:i9 prog G vd3:=⟨ud6,trivial⟩
noncomputable def db1(x:List (List Pln))(y:List (List Pln))(z:Bool):Option (b7×List b8):=let t1:=(vb0 (rt (tLs tP) x) (rt (tLs tP) y));(sl (okE (tLs tP) x) (sl (okE (tLs tP) y) (sl (vb1 (rt (tLs tP) x) (rt (tLs tP) y)) (sl (t1.2==0) (some (b (t1.1==z),[])) (some (b false,[]))) none) none) none)
noncomputable def db2(x:List (List Pln))(y:List (List Pln))(z:Bool):Bool:=O3 (one r1B) (db1 x y z)
noncomputable def R5(x:List (List Pln))(y:List (List Pln))(z:Bool):Bool:=okO (one r1B) (db1 x y z)
noncomputable def Hc1:Sum:=Tc3 (P8 (tLs tP)) (P8 (tLs tP)) cB (λx y z=>.guard (R5 x y z) (.ret ((one r1B).enc (db2 x y z),[])))
theorem vd4:i5 prog G 53 Hc1:=Ie7 (bd b53 nd8) (one r1B) (o:=db1) λx y z=>y8 (by kernel_rfl)
noncomputable def Wc8:List (Nat×Sum):=[(93,Sc1),(94,jc7),(54,Cb6),(45,Lb3),(53,Hc1),(49,Sa6)]
theorem Oc3:i9 prog G Wc8:=⟨Nd7,Wc6,Yb3,jc4,vd4,cb1,trivial⟩
noncomputable def La1  : Option (b7×List b8):=let t1:=(P5 0 0 0 1 1 1);let t2:=(P5 1 0 0 2 1 1);let t3:=(P5 0 0 0 2 1 1);let t4:=(P5 1 0 0 3 1 1);let t5:=(pa5 (rt tP t3) [rt tP t4] [rt tP t1]);let t6:=(P5 0 0 0 3 1 1);let t7:=(P5 2 0 0 3 1 1);let t8:=(pa5 (rt tP t6) [rt tP t2] [rt tP t1,rt tP t7]);let t9:=(pa5 (rt tP t1) [] [rt tP t1]);let t10:=(pa5 (rt tP t1) [rt tP t2] [rt tP t1]);let t11:=(G9 [rt tP t1,rt tP t2] (rt tP t3) true);let t12:=(G9 [rt tP t1] (rt tP t3) false);let t13:=(P5 0 1 0 1 2 1);let t14:=(Ea9 (rt tP t1) [rt tP t2,rt tP t13]);let t15:=(db2 [rt tP t3] [rt tP t1,rt tP t2] true);let t16:=(db2 [rt tP t3] [rt tP t2] false);let t17:=(T4 [[],[],[],[],[],[],[],[],[],[],[],[],[],[],[],[],[]]);let t18:=(T4 [[(⟨(⟨2,0,0⟩:V3),1⟩:Pln)]]);let a0:=((okE tP t1)&&((okE tP t2)&&true));let a1:=((okE tP t2)&&((okE tP t13)&&true));let w0:Option (b7×List b8):=(sl a0 (sl (okE tP t3) (sl (A8 [rt tP t1,rt tP t2] (rt tP t3) true) (sl t11 (sl ((okE tP t1)&&true) (sl (okE tP t3) (sl (A8 [rt tP t1] (rt tP t3) false) (sl t12 (sl (M5 0 1 0 1 2 1) (sl (okE tP t1) (sl a1 (sl (Fa0 (rt tP t1) [rt tP t2,rt tP t13]) (sl ((okE tP t3)&&true) (sl a0 (sl (R5 [rt tP t3] [rt tP t1,rt tP t2] true) (sl t15 (sl ((okE tP t3)&&true) (sl ((okE tP t2)&&true) (sl (R5 [rt tP t3] [rt tP t2] false) (some (b false,[])) none) none) none) (some (b false,[]))) none) none) none) none) none) none) none) (sl ((okE tP t3)&&true) (sl a0 (sl (R5 [rt tP t3] [rt tP t1,rt tP t2] true) (sl t15 (sl ((okE tP t3)&&true) (sl ((okE tP t2)&&true) (sl (R5 [rt tP t3] [rt tP t2] false) (some (b false,[])) none) none) none) (some (b false,[]))) none) none) none)) none) none) none) (sl ((okE tP t3)&&true) (sl a0 (sl (R5 [rt tP t3] [rt tP t1,rt tP t2] true) (sl t15 (sl ((okE tP t3)&&true) (sl ((okE tP t2)&&true) (sl (R5 [rt tP t3] [rt tP t2] false) (some (b false,[])) none) none) none) (some (b false,[]))) none) none) none)) none) none) none);let w1:Option (b7×List b8):=(sl ((okE tP t3)&&true) (sl a0 (sl (R5 [rt tP t3] [rt tP t1,rt tP t2] true) (sl t15 (sl ((okE tP t3)&&true) (sl ((okE tP t2)&&true) (sl (R5 [rt tP t3] [rt tP t2] false) (sl t10 (some (b false,[])) (some (b false,[]))) none) none) none) (sl t10 (some (b false,[])) (some (b false,[])))) none) none) none);(sl (M5 0 0 0 1 1 1) (sl (M5 1 0 0 2 1 1) (sl (M5 0 0 0 2 1 1) (sl (M5 1 0 0 3 1 1) (sl (okE tP t3) (sl ((okE tP t4)&&true) (sl ((okE tP t1)&&true) (sl (pa6 (rt tP t3) [rt tP t4] [rt tP t1]) (sl t5 (sl (M5 0 0 0 3 1 1) (sl (M5 2 0 0 3 1 1) (sl (okE tP t6) (sl ((okE tP t2)&&true) (sl ((okE tP t1)&&((okE tP t7)&&true)) (sl (pa6 (rt tP t6) [rt tP t2] [rt tP t1,rt tP t7]) (sl t8 (sl (okE tP t1) (sl ((okE tP t1)&&true) (sl (pa6 (rt tP t1) [] [rt tP t1]) (sl t9 (sl (okE tP t1) (sl ((okE tP t2)&&true) (sl ((okE tP t1)&&true) (sl (pa6 (rt tP t1) [rt tP t2] [rt tP t1]) (sl a0 (sl (okE tP t3) (sl (A8 [rt tP t1,rt tP t2] (rt tP t3) true) (sl t11 (sl ((okE tP t1)&&true) (sl (okE tP t3) (sl (A8 [rt tP t1] (rt tP t3) false) (sl t12 (sl (M5 0 1 0 1 2 1) (sl (okE tP t1) (sl a1 (sl (Fa0 (rt tP t1) [rt tP t2,rt tP t13]) (sl ((okE tP t3)&&true) (sl a0 (sl (R5 [rt tP t3] [rt tP t1,rt tP t2] true) (sl t15 (sl ((okE tP t3)&&true) (sl ((okE tP t2)&&true) (sl (R5 [rt tP t3] [rt tP t2] false) (sl t10 (sl t14 (sl t16 (sl (T5 [[],[],[],[],[],[],[],[],[],[],[],[],[],[],[],[],[]]) (sl (t17==2) (sl (T5 [[(⟨(⟨2,0,0⟩:V3),1⟩:Pln)]]) (some (b (t18==12),[])) none) (some (b false,[]))) none) (some (b false,[]))) (some (b false,[]))) (some (b false,[]))) none) none) none) (sl t10 (sl t14 (some (b false,[])) (some (b false,[]))) (some (b false,[])))) none) none) none) none) none) none) none) w1) none) none) none) w1) none) none) none) none) none) none) none) w0) none) none) none) w0) none) none) none) none) none) none) w0) none) none) none) none) none) none) none) none)
noncomputable def db3  : Bool:=O3 (one r1B) La1
noncomputable def db4  : Bool:=okO (one r1B) La1
noncomputable def jc8:Sum:=ie0  (.guard db4 (.ret ((one r1B).enc db3,[])))
theorem Wc9:i5 prog G 37 jc8:=Kf5 (bd b37 Oc3) (one r1B) (o:=La1) (y8 (by kernel_rfl))
structure Ee6 where
 Wf0:List Pln
 (is8 j9 d8 k8:Int)
structure Ee7 where
 is9:Int
structure Mc(c:List Pln):Prop where
 g:ld8 c
 l:c.length<=12
theorem jf1{l:List V3}(h:Mc6 l=0)(h8:l.length<=8):Mc (F0 l):=by
 obtain⟨h1,h2⟩:=De0 h
 have:=zf0 h1 h2
 have k:2*(l.length-2)<=12:=by omega
 exact⟨⟨by omega,λp hp=>(Ue5 hp).ok,hf3 h1 h2⟩,by omega⟩
theorem ve0(x:List Int):Rd (one (r1L tP)) (Ab4 x) Mc:=by
 obtain⟨v1,j1,e1,a1,b1,c1,d1⟩:=va9 4 x 0 (by omega) (by omega) (by omega) (by omega)
 obtain⟨w1,w2,w3,j2,e2,p1,p2,p3,c2,d2⟩:=vc8 6 x j1 (by omega) (by omega) (by omega) (by omega)
 obtain⟨v3,j3,e3,a3,b3,c3,d3⟩:=va9 6 x j2 (by omega) (by omega) (by omega) (by omega)
 obtain⟨v4,j4,e4,a4,b4,c4,d4⟩:=va9 6 x j3 (by omega) (by omega) (by omega) (by omega)
 obtain⟨v5,j5,e5,a5,b5,c5,d5⟩:=va9 6 x j4 (by omega) (by omega) (by omega) (by omega)
 have hin:inB (if 7<(x.length:Int) then 7 else (x.length:Int)) (x.length+1)=true:=by
  rw[Xc9];apply decide_eq_true
  split<;>omega
 have hok:∀n m,okL tI n (λk=>(λk=>tI.row (gL tI x k)) (m+k))=true:=λn m=>Ua6 tI (f:=λk=>gL tI x (m+k)) λ_ _=>rfl
 unfold Ab4;simp only[i6,i8,p6,e1,e2,e3,e4,e5,of7,of8,hin,hok,xb7,se4,Qe4,Qlab,Bool.and_true,g8];generalize hL:lsL tI _ _=L;have hg:ld8 (sd2 ⟨w1,w2,w3⟩ ⟨W (W (w1+1)+v3),W (W (w2+1)+v4),W (W (w3+1)+v5)⟩):=by
  obtain⟨q1,q2⟩:=p1;obtain⟨q3,q4⟩:=p2;obtain⟨q5,q6⟩:=p3;have i1:W (W (w1+1)+v3)=w1+1+v3:=by rw[ia4 (n:=w1+1) (by omega) (by omega),ia4 (by omega) (by omega)]
  have i2:W (W (w2+1)+v4)=w2+1+v4:=by rw[ia4 (n:=w2+1) (by omega) (by omega),ia4 (by omega) (by omega)]
  have i3:W (W (w3+1)+v5)=w3+1+v5:=by rw[ia4 (n:=w3+1) (by omega) (by omega),ia4 (by omega) (by omega)]
  rw[i1,i2,i3];refine Ue7 ⟨⟨?_,?_⟩,⟨?_,?_⟩,?_,?_⟩ ⟨⟨?_,?_⟩,⟨?_,?_⟩,?_,?_⟩ ⟨?_,?_,?_⟩<;>simp only<;>omega
 have hB6:(sd2 ⟨w1,w2,w3⟩ ⟨W (W (w1+1)+v3),W (W (w2+1)+v4),W (W (w3+1)+v5)⟩).length=6:=rfl;generalize hB:sd2 _ _=B at *
 have hl6:len (bL tP B)=6:=by rw[P6,hB6]
 have ea:app [] (bL tP B)=bL tP B:=rfl;have es:∀q:Pln,slR tP (bL tP (B++[q])) 0 (0+6+1)=B++[q]:=λq=>by
  have:=Rb4 tP (B++[q])
  rw[Qla,hB6] at this;exact this
 have eo:∀q:Pln,okS tP (bL tP (B++[q])) 0 (0+6+1)=true:=λq=>by
  have:=Rb5 tP (B++[q])
  rw[Qla,hB6] at this;exact this
 have hlen:∀q:Pln,(B++[q]).length<=1000000000:=λq=>by rw[Qla,hB6];exact (by decide:6+1<=1000000000)
 have gF:∀q:Pln,fb8 (B++[q])=true:=λq=>re9 (hlen q)
 have pF:∀q:Pln,fb7 (B++[q])=ful (B++[q]):=λq=>re8 (hlen q)
 have q1:Nat.ble ((0+6)*32) room=true:=ea6 (by omega)
 have q2:Nat.ble (((0+6)+1)*32) room=true:=ea6 (by omega)
 have q3:Nat.beq (0+6) 6=true:=rfl;have hp:=Qe5 L;have gf:Gb4 (la4 L)=true:=ff1 _ (by omega)
 simp only[hl6,ea,hc6,es,eo,gF,pF,q1,q2,q3,Qlg,gf,Ue1 (la4 L) (by omega),g8,show Nat.beq 6 0=false from rfl,C8]
 have box:Rd (one (r1L tP)) (some (eL tP B,[])) Mc:=Qe6 ⟨hg,by rw[hB6];decide⟩
 have fcs:(Mc8 (la4 L)).2==0->Rd (one (r1L tP)) (some (eL tP (Mc8 (la4 L)).1,[])) Mc:=λh=>Qe6 (by
  unfold Mc8 at h ⊢;by_cases h0:Mc6 (la4 L)=0
  ·rw[if_pos h0];exact jf1 h0 hp.2
  ·rw[if_neg h0] at h;exact absurd (by simpa using h) h0)
 have hcut:ful (B++[Va3 L])=true->Mc (B++[Va3 L]):=λhf=>⟨
  ⟨by rw[Qla,hB6];exact (by decide:6+1<=47),λp h=>by
   rcases Qli.1 h with h|h
   ·exact hg.v p h
   ·rw[Qlb.1 h];exact ue2 L,(ld6 hf).2.2⟩,by rw[Qla,hB6];exact (by decide:6+1<=12)⟩
 exact Rd.sl (λ_=>Rd.sl (λhf=>Ld0 (by rw[Qla,hB6];rfl) rfl (hcut hf)) λ_=>Rd.sl (λ_=>Rd.sl (λh=>fcs h) λ_=>box) λ_=>box) λ_=>Rd.sl (λ_=>Rd.sl (λh=>fcs h) λ_=>box) λ_=>box
theorem Cd6(x:List Int):Mc (oa6 x):=(ve0 x).p
theorem Cd7(x:List Int):Ab5 x=true:=(ve0 x).g
theorem Jf7(x:List Int):inB (if 40<(x.length:Int) then 40 else (x.length:Int)) (x.length+1)=true:=by
 rw[Xc9];apply decide_eq_true
 split<;>omega
theorem We2(x:List Int):∃L,ob4 x=some (eL tP (oa6 L),[]):=by
 unfold ob4;rw[Jf7 x,Ua6 tI (f:=λk=>gL tI x (0+k)) λ_ _=>rfl]
 simp only[i6,Cd7,g8];exact⟨_,rfl⟩
theorem qf6(x:List Int):Mc (ta7 x):=by
 obtain⟨L,h⟩:=We2 x;unfold ta7;rw[h,Ea6 (one (r1L tP)) (qc3 tP (oa6 L))];exact Cd6 L
theorem Jf8(x:List Int):ob5 x=true:=by
 obtain⟨L,h⟩:=We2 x;unfold ob5;rw[h];exact Ra5 _ (qc3 tP (oa6 L))
def phA(R:List (List b7)):Nat:=match R with
 |[]=>0
 |_::_=>1
theorem jf2(R:List (List b7))(r:List b7):phA (R++[r])=1:=by cases R<;>rfl
theorem Jf9(R:List (List b7))(h:R.length<=1000000):(Nat.beq R.length (len R)&&Nat.ble ((R.length+1)*24) room)=true:=by
 rw[o0,Qlab,Bool.true_and];exact Qlp (by unfold room;omega)
structure RI(y:Nat)(t:Nat)(s:E6):Prop where
 t:t=phA s.eh0*2+1\/t=phA s.eh0*2+2
 n:s.ns5=s.eh0.length
 y:s.eh0.length<=y
 r:∀r∈s.eh0,(tLs tI).ok r=true
theorem ne5(x:List (List Int))(y:Nat)(hy:y<=1000000):∃t s,lp (W5 ⟨x,(y:Int)⟩) ⟨0,0,0,[]⟩=(t,s)/\RI y t s:=by
 refine W9 (step:=W5 ⟨x,(y:Int)⟩) (mk:=λj (R:List (List b7))=>(⟨phA R,(j:Int),R.length,R⟩:E6)) y
  (λj R=>j<=y/\R.length=j/\∀r∈R,(tLs tI).ok r=true) (RI y) (by omega) (λj R hj hi=>?_) (λj R hj hi=>?_) 0 [] ⟨Qld _,rfl,λr hr=>by cases hr⟩
 ·obtain⟨_,hl,hr⟩:=hi;have hn:W ((j:Int)+1)=((j+1:Nat):Int):=o3 hj (by omega)
  by_cases hx:j<x.length
  ·have h40:=Jf7 (gL (tLs tI) x j);have hok:(tLs tI).ok [(.tree 1 ((if 40<((gL (tLs tI) x j).length:Int) then 40 else ((gL (tLs tI) x j).length:Int)).toNat-0) (λk=>(λk=>tI.row (gL tI (gL (tLs tI) x j) k)) (0+k)))]=true:=by
    show Bool.and (Nat.beq 1 tI.es) (okL tI _ _)=true;rw[Ua6 tI (f:=λk=>gL tI (gL (tLs tI) x j) (0+k)) λ_ _=>rfl]
    rfl
   cases R with
   |nil =>
    have e:W5 ⟨x,(y:Int)⟩ ⟨phA [],(j:Int),([]:List (List b7)).length,[]⟩=.next ⟨1,((j+1:Nat):Int),1,[[(.tree 1 ((if 40<((gL (tLs tI) x j).length:Int) then 40 else ((gL (tLs tI) x j).length:Int)).toNat-0) (λk=>(λk=>tI.row (gL tI (gL (tLs tI) x j) k)) (0+k)))]]⟩:=by
     show E9 Stp.next Stp.exit Stp.fail _ _=_;simp only[E9,Int.toNat_natCast,h40,hn,g8];rw[btD (g9 hx),btD (g9 hj),bt (f7 hx),bt (f7 hx)]
    rw[e];exact .nx ⟨[[_]],rfl,hj,by have:0=j:=hl;subst this;rfl,λr hr=>by rw[Qlb.1 hr];exact hok⟩
   |cons o os =>
    have e:W5 ⟨x,(y:Int)⟩ ⟨phA (o::os),(j:Int),(o::os).length,o::os⟩=.next ⟨1,((j+1:Nat):Int),(o::os).length+1,o::os++[[(.tree 1 ((if 40<((gL (tLs tI) x j).length:Int) then 40 else ((gL (tLs tI) x j).length:Int)).toNat-0) (λk=>(λk=>tI.row (gL tI (gL (tLs tI) x j) k)) (0+k)))]]⟩:=by
     show F4 Stp.next Stp.exit Stp.fail _ _=_;simp only[F4,Int.toNat_natCast,h40,hn,Jf9 (o::os) (by omega),g8]
     rw[btD (g9 hx),btD (g9 hj),bt (f7 hx),bt (f7 hx),H6]
    rw[e];exact .nx ⟨_,by rw[jf2,Qla];rfl,hj,by rw[Qla,hl];rfl,λr hr'=>by
     rcases Qli.1 hr' with h|h
     ·exact hr r h
     ·rw[Qlb.1 h];exact hok⟩
  ·cases R with
   |nil =>
    have e:W5 ⟨x,(y:Int)⟩ ⟨phA [],(j:Int),([]:List (List b7)).length,[]⟩=.exit 2:=by
     show E9 Stp.next Stp.exit Stp.fail _ _=_;simp only[E9];rw[bfD (m9 hx)]
    rw[e];exact .ex ⟨.inr rfl,rfl,Qld _,hr⟩
   |cons o os =>
    have e:W5 ⟨x,(y:Int)⟩ ⟨phA (o::os),(j:Int),(o::os).length,o::os⟩=.exit 4:=by
     show F4 Stp.next Stp.exit Stp.fail _ _=_;simp only[F4];rw[bfD (m9 hx)]
    rw[e];exact .ex ⟨.inr rfl,rfl,by simp only;omega,hr⟩
 ·obtain⟨h1,hl,hr⟩:=hi;have hje:j=y:=by omega
  subst hje;by_cases hx:j<x.length
  ·cases R with
   |nil =>
    refine⟨1,?_,.inl rfl,rfl,Qld _,hr⟩;show E9 Stp.next Stp.exit Stp.fail _ _=_;simp only[E9];rw[btD (g9 hx),bfD (m9 (Qlh _))]
   |cons o os =>
    refine⟨3,?_,.inl rfl,rfl,by simp only;omega,hr⟩
    show F4 Stp.next Stp.exit Stp.fail _ _=_;simp only[F4];rw[btD (g9 hx),bfD (m9 (Qlh _))]
  ·cases R with
   |nil =>
    refine⟨2,?_,.inr rfl,rfl,Qld _,hr⟩;show E9 Stp.next Stp.exit Stp.fail _ _=_;simp only[E9];rw[bfD (m9 hx)]
   |cons o os =>
    refine⟨4,?_,.inr rfl,rfl,by simp only;omega,hr⟩
    show F4 Stp.next Stp.exit Stp.fail _ _=_;simp only[F4];rw[bfD (m9 hx)]
theorem We3(x:List (List Int))(y:Nat)(hy:y<=1000000):Rd (one (r1L (tLs tI))) (Sa9 x (y:Int)) (λr=>r.length<=y):=by
 obtain⟨t,s,h,hR⟩:=ne5 x y hy;unfold Sa9;simp only[i6,i8,h,Qlg,g8];obtain⟨ht,hn,hl,hr⟩:=hR;cases hs:s.eh0 with
 |nil =>
  rw[hs] at ht
  rcases ht with rfl|rfl<;>exact⟨_,[],rfl,rfl,Qld _⟩
 |cons o os =>
  have hrd:(one (r1L (tLs tI))).rd (.sl 0 0 s.ns5 0,[⟨22,1,o::os,true,false,0⟩])=some (slR (tLs tI) (o::os) 0 s.ns5):=by
   show Bool.rec (motive:=λ_=>Option (List (List Int))) none (some (slR (tLs tI) (o::os) 0 s.ns5)) (Bool.and (Nat.beq 1 1) (okS (tLs tI) (o::os) 0 s.ns5))=_
   have:okS (tLs tI) (o::os) 0 s.ns5=true:=by
    unfold okS okL;rw[Qlj];intro k hk;have hk:=List.mem_range.1 hk;rw[hn,hs] at hk;simp only[Qlah];have e:l9 (o::os) k=(o::os)[k]:=by unfold l9;rw[D0,Qlc hk]
    rw[e];exact hr _ (by rw[hs];exact List.getElem_mem hk)
   rw[this];rfl
  have hlen:(slR (tLs tI) (o::os) 0 s.ns5).length<=y:=by unfold slR;rw[Gd4,hn];exact hl
  rw[hs] at ht
  rcases ht with rfl|rfl<;>exact⟨_,_,rfl,hrd,hlen⟩
structure Ms(y:Nat)(s:List (List Pln)):Prop where
 n:s.length<=y
 c:∀c∈s,Mc c
structure RM(y:Nat)(t:Nat)(s:R3):Prop where
 h:∃O,(t=phL O*2+1\/t=phL O*2+2)/\s.eh0=bL (tLs tP) O/\s.ns5=O.length/\Ms y O
theorem de5(x:List (List Int))(y:Nat)(hy:y<=1000000):∃t s,lp (na0 ⟨x,(y:Int)⟩) ⟨0,0,0,[]⟩=(t,s)/\RM y t s:=by
 refine W9 (step:=na0 ⟨x,(y:Int)⟩) (mk:=λj (O:List (List Pln))=>(⟨phL O,(j:Int),O.length,bL (tLs tP) O⟩:R3)) y
  (λj O=>j<=y/\O.length=j/\∀c∈O,Mc c) (RM y) (by omega) (λj O hj hi=>?_) (λj O hj hi=>?_) 0 [] ⟨Qld _,rfl,λr hr=>by cases hr⟩
 ·obtain⟨_,hl,hr⟩:=hi;have hn:W ((j:Int)+1)=((j+1:Nat):Int):=o3 hj (by omega)
  by_cases hx:j<x.length
  ·have hM:=Cd6 (gL (tLs tI) x j);have gM:=Cd7 (gL (tLs tI) x j);have hnew:∀c∈O++[oa6 (gL (tLs tI) x j)],Mc c:=λc hc=>by
    rcases Qli.1 hc with h|h
    ·exact hr c h
    ·rw[Qlb.1 h];exact hM
   cases O with
   |nil =>
    have e:na0 ⟨x,(y:Int)⟩ ⟨phL [],(j:Int),([]:List (List Pln)).length,bL (tLs tP) []⟩=.next ⟨1,((j+1:Nat):Int),1,[[eL tP (oa6 (gL (tLs tI) x j))]]⟩:=by
     show P1 Stp.next Stp.exit Stp.fail _ _=_;simp only[P1,Int.toNat_natCast,i6,p6,gM,hn,g8];rw[btD (g9 hx),btD (g9 hj),bt (f7 hx)]
    rw[e];exact .nx ⟨[_],rfl,hj,by have:0=j:=hl;subst this;rfl,hnew⟩
   |cons o os =>
    have e:na0 ⟨x,(y:Int)⟩ ⟨phL (o::os),(j:Int),(o::os).length,bL (tLs tP) (o::os)⟩=.next ⟨1,((j+1:Nat):Int),(o::os).length+1,bL (tLs tP) (o::os++[oa6 (gL (tLs tI) x j)])⟩:=by
     show P4 Stp.next Stp.exit Stp.fail _ _=_;simp only[P4,Int.toNat_natCast,i6,p6,gM,hn,me9 (o::os) (by omega),ue5,g8]
     rw[btD (g9 hx),btD (g9 hj),bt (f7 hx)]
    rw[e];exact .nx ⟨_,by rw[Nd1,Qla];rfl,hj,by rw[Qla,hl];rfl,hnew⟩
  ·cases O with
   |nil =>
    have e:na0 ⟨x,(y:Int)⟩ ⟨phL [],(j:Int),([]:List (List Pln)).length,bL (tLs tP) []⟩=.exit 2:=by
     show P1 Stp.next Stp.exit Stp.fail _ _=_;simp only[P1];rw[bfD (m9 hx)]
    rw[e];exact .ex ⟨[],.inr rfl,rfl,rfl,Qld _,hr⟩
   |cons o os =>
    have e:na0 ⟨x,(y:Int)⟩ ⟨phL (o::os),(j:Int),(o::os).length,bL (tLs tP) (o::os)⟩=.exit 4:=by
     show P4 Stp.next Stp.exit Stp.fail _ _=_;simp only[P4];rw[bfD (m9 hx)]
    rw[e];exact .ex ⟨o::os,.inr rfl,rfl,rfl,by omega,hr⟩
 ·obtain⟨h1,hl,hr⟩:=hi;have hje:j=y:=by omega
  subst hje;by_cases hx:j<x.length
  ·cases O with
   |nil =>
    refine⟨1,?_,[],.inl rfl,rfl,rfl,Qld _,hr⟩;show P1 Stp.next Stp.exit Stp.fail _ _=_;simp only[P1];rw[btD (g9 hx),bfD (m9 (Qlh _))]
   |cons o os =>
    refine⟨3,?_,o::os,.inl rfl,rfl,rfl,by omega,hr⟩
    show P4 Stp.next Stp.exit Stp.fail _ _=_;simp only[P4];rw[btD (g9 hx),bfD (m9 (Qlh _))]
  ·cases O with
   |nil =>
    refine⟨2,?_,[],.inr rfl,rfl,rfl,Qld _,hr⟩;show P1 Stp.next Stp.exit Stp.fail _ _=_;simp only[P1];rw[bfD (m9 hx)]
   |cons o os =>
    refine⟨4,?_,o::os,.inr rfl,rfl,rfl,by omega,hr⟩
    show P4 Stp.next Stp.exit Stp.fail _ _=_;simp only[P4];rw[bfD (m9 hx)]
theorem Ee8(x:List (List Int))(y:Nat)(hy:y<=1000000):Rd (one (r1L (tLs tP))) (Cb5 x (y:Int)) (Ms y):=by
 obtain⟨t,s,h,O,ht,he,hn,hM⟩:=de5 x y hy;unfold Cb5;simp only[i6,i8,h,he,hn,Qlg,g8];cases O with
 |nil=>rcases ht with rfl | rfl<;>exact⟨_,[],rfl,rfl,hM⟩
 |cons o os=>rcases ht with rfl | rfl<;>exact⟨_,o::os,rfl,Qe7 (tLs tP) 24 (o::os),hM⟩
theorem de6(x:List (List Int))(y:Nat)(hy:y<=1000000):Rd (one (r1L (tLs tP))) (cb9 x (y:Int)) (Ms y):=by
 have h1:=We3 x y hy;have h2:=Ee8 (kb3 x (y:Int)) y hy;unfold cb9;simp only[i6,p6,show Lb4 x (y:Int)=true from h1.g,show wc9 (kb3 x (y:Int)) (y:Int)=true from h2.g,g8]
 exact⟨_,_,rfl,qc3 (tLs tP) _,h2.p⟩
theorem jf3(x:List (List Int))(y:Nat)(hy:y<=1000000):Ms y (db0 x (y:Int)):=(de6 x y hy).p
theorem jf4(x:List (List Int))(y:Nat)(hy:y<=1000000):vb2 x (y:Int)=true:=(de6 x y hy).g
theorem wb3{x:List (List Pln)}{y:List Pln}{z:Bool}(hy:y.length<=1000000)(hn:x.length<=1000000)(hx:∀q∈x,q.length<=1000000):G9 x y z=((p4 x y).2==0&&(p4 x y).1==z)/\A8 x y z=true:=by
 have e:La0 x y z=some (b ((p4 x y).2==0&&(p4 x y).1==z),[]):=by
  unfold La0;simp only[i6,p6,Pb8 hy hn hx,Gc4 hy hn hx,g8];cases (p4 x y).2==0<;>rfl
 unfold G9 A8;rw[e];exact⟨rfl,rfl⟩
theorem ve1{x y:List (List Pln)}{z:Bool}(hx:x.length<=1000000)(hxl:∀q∈x,q.length<=1000000)(hy:y.length<=1000000)(hyl:∀q∈y,q.length<=1000000):db2 x y z=((sb4 x y).2==0&&(sb4 x y).1==z)/\R5 x y z=true:=by
 have e:db1 x y z=some (b ((sb4 x y).2==0&&(sb4 x y).1==z),[]):=by
  unfold db1;simp only[i6,p6,if2 hx hxl hy hyl,if3 hx hxl hy hyl,g8];cases (sb4 x y).2==0<;>rfl
 unfold db2 R5;rw[e];exact⟨rfl,rfl⟩
theorem Oc4(x fs:List Pln):∀j,(C3 x fs j).length<=x.length+j
 |0=>by simp[C3]
 |j+1=>by
  have h1:=Oc4 x fs j;have h2:=bb8 (C3 x fs j++[gL tP fs j]);rw[Qla] at h2;simp only[List.length_singleton] at h2;show (lean (C3 x fs j++[gL tP fs j])).length<=_;omega
theorem jf5{x fs:List Pln}(h:x.length+fs.length<=48):Fa9 x fs=true:=Qlj.2 λj hj=>decide_eq_true (by
 have:=List.mem_range.1 hj
 have:=Oc4 x fs j
 omega)
theorem jf6(x fs:List Pln)(j:Nat):(Ma9 x fs j).length<=x.length+j+1:=by
 have h1:=Oc4 x fs j;have h2:=bb8 (C3 x fs j++[O4 (gL tP fs j)]);rw[Qla] at h2;simp only[List.length_singleton] at h2;unfold Ma9;omega
structure Bnd(n m:Nat)(ps:List (List Pln)):Prop where
 n:ps.length<=n
 m:∀x∈ps,x.length<=m
theorem ve2{q x:List Pln}{k m:Nat}(h1:1<=k)(hq:(lean q).length<=k)(hx:x.length<=m):(Ga0 q x).length<=k/\∀y∈Ga0 q x,y.length<=m+k:=by
 unfold Ga0;split
 ·exact⟨by simpa using h1,λy hy=>by rw[Qlb.1 hy];omega⟩
 ·refine⟨Qlf (md4 _ _ _) hq,λy hy=>?_⟩
  obtain⟨j,hj,rfl,_⟩:=Pb4.1 hy
  have:=jf6 x (lean q) j
  omega
theorem ve3{q:List Pln}{k m:Nat}(h1:1<=k)(hq:(lean q).length<=k):∀ps:List (List Pln),(∀x∈ps,x.length<=m)->(ps.flatMap (Ga0 q)).length<=k*ps.length
 |[],_=>by simp
 |x::ps,h=>by
  have a:=ve3 h1 hq ps λx hx=>h x (Qlaa _ hx)
  have c:=(ve2 (x:=x) h1 hq (h x (by simp))).1
  simp only[List.flatMap_cons,Qla,List.length_cons];rw[Nat.mul_add];omega
theorem jc9{ps:List (List Pln)}{q:List Pln}{n m k:Nat}(h:Bnd n m ps)(h1:1<=k)(hq:q.length<=k)(hk:m+k<=48)(hn:k*n<=200):∃r,G1 ps q=some r/\Bnd (k*n) (m+k) r:=by
 have hl:(lean q).length<=k:=Qlf (bb8 q) hq;have hnn:n<=k*n:=Nat.le_mul_of_pos_left n h1;unfold G1;split
 ·have hf:=ve3 h1 hl ps h.m;have hf2:k*ps.length<=k*n:=Nat.mul_le_mul_left k h.n;have hc:(ps.all (Xa1 q)&&decide ((ps.flatMap (Ga0 q)).length<=200))=true:=by
   rw[Bool.and_eq_true];refine⟨Qlj.2 λx hx=>?_,decide_eq_true (by omega)⟩
   unfold Xa1;rw[jf5 (by have:=h.m x hx;omega),Bool.or_true]
  rw[if_pos hc];refine⟨_,rfl,by omega,λy hy=>?_⟩
  obtain⟨x,hx,hy⟩:=List.mem_flatMap.1 hy;exact (ve2 h1 hl (h.m x hx)).2 y hy
 ·exact⟨ps,rfl,Qlf h.n hnn,λx hx=>by have:=h.m x hx;omega⟩
theorem Ee9(c:List Pln):Bnd 1 c.length (if ful c then [lean c] else []):=by
 split
 ·exact⟨by simp,λx hx=>by rw[Qlb.1 hx];exact bb8 c⟩
 ·exact⟨by simp,λx hx=>by cases hx⟩
theorem Fe0{c:List Pln}{s:List (List Pln)}(hc:c.length<=13)(hn:s.length<=2)(hs:∀q∈s,q.length<=12):∃r,ma4 c s=some r/\Bnd 144 37 r:=by
 have h0:Bnd 1 13 (if ful c then [lean c] else []):=by
  have:=Ee9 c
  exact⟨this.n,λx hx=>Qlf (this.m x hx) hc⟩
 unfold ma4
 match s,hn,hs with
 |[],_,_=>exact⟨_,rfl,Qlf h0.n (by omega),λx hx=>Qlf (h0.m x hx) (by omega)⟩
 |[a],_,hs =>
  obtain⟨r,e,h⟩:=jc9 (q:=a) h0 (k:=12) (by omega) (hs a (by simp)) (by omega) (by omega)
  exact⟨r,e,Qlf h.n (by omega),λx hx=>Qlf (h.m x hx) (by omega)⟩
 |[a,d],_,hs =>
  obtain⟨r,e,h⟩:=jc9 (q:=a) h0 (k:=12) (by omega) (hs a (by simp)) (by omega) (by omega)
  obtain⟨r2,e2,h2⟩:=jc9 (q:=d) h (k:=12) (by omega) (hs d (by simp)) (by omega) (by omega)
  refine⟨r2,?_,Qlf h2.n (by omega),λx hx=>Qlf (h2.m x hx) (by omega)⟩
  show (G1 _ a).bind (λps=>G1 ps d)=some r2
  rw[e];exact e2
 |_::_::_::_,hn,_=>simp at hn
def Cov(s:List (List Pln))(c:List Pln):Prop:=ful c=true->∀z,Inr (c++ws) z->∃q∈s,ful q=true/\Inr (q++ws) z
theorem Cov.mono{s t:List (List Pln)}{c:List Pln}(h:Cov s c)(hs:∀q∈s,q∈t):Cov t c:=λhf z hz=>by
 obtain⟨q,hq,h2⟩:=h hf z hz;exact⟨q,hs q hq,h2⟩
theorem mc9{s:List (List Pln)}(hn:s.length<=16)(hs:∀q∈s,(chk q==0)=true):schk s=0:=by
 unfold schk;rw[if_neg (by omega),List.find?_eq_none.2 λq hq=>by have:=hs q hq;rw[beq_iff_eq] at this;simp[this]]
open Classical in
theorem nd9{s:List (List Pln)}{c:List Pln}{r:List (List Pln)}(hc:(chk c==0)=true)(hs:schk s=0)(hm:ma4 c s=some r):p4 s c=(decide (Cov s c),0)/\Pa5 c s=(r,0):=by
 have e:Pa5 c s=(r,0):=by
  unfold Pa5;rw[beq_iff_eq] at hc;rw[hc,hs,hm];rfl
 refine⟨?_,e⟩;unfold p4;rw[e];have k:(((r.length:Nat):Int)==0)=decide (Cov s c):=by
  rw[Bool.eq_iff_iff,beq_iff_eq,decide_eq_true_eq];cases hf:ful c with
  |true =>
   have:=De4 hf hm
   constructor
   ·intro h0 _;exact this.1 (List.length_eq_zero_iff.1 (by omega))
   ·intro h;rw[this.2 (h hf)];rfl
  |false =>
   rw[Bd8 hf] at hm;injection hm with hm;subst hm;exact⟨λ_ h=>(by rw[hf] at h;cases h),λ_=>rfl⟩
 rw[k];rfl
theorem Mc.chk{c:List Pln}(h:Mc c):(chk c==0)=true:=h.g.chk
theorem Mc.ful{c:List Pln}(h:Mc c):ful c=true:=h.g.ful
theorem Ms.schk{y:Nat}{s:List (List Pln)}(h:Ms y s)(hy:y<=16):schk s=0:=mc9 (Qlf h.n hy) λq hq=>(h.c q hq).chk
theorem ne6{c:List Pln}{s:List (List Pln)}(hc:(chk c==0)=true)(hs:∀q∈s,(chk q==0)=true):cb6 c s=true↔∀q∈s,∀z,Ins (c++ws) z->Ins (q++ws) z->False:=by
 unfold cb6;rw[Bool.not_eq_true',List.any_eq_false];constructor
 ·intro h q hq
  have:=h q hq
  exact (mc7 hc (hs q hq)).1 (by simpa using this)
 ·intro h q hq;rw[(mc7 hc (hs q hq)).2 (h q hq)]
  decide
theorem jf7{c:List Pln}{p:Pln}(hc:(chk c==0)=true)(hl:c.length<=47)(hp:okp p=true):(chk (c++[p])==0)=true:=by
 rw[beq_iff_eq,Ja5] at *
 refine⟨by rw[Qla];simp only[List.length_singleton];omega,λq hq=>?_⟩
 rcases Qli.1 hq with h|h
 ·exact hc.2 q h
 ·rw[Qlb.1 h];exact hp
structure Und(c U:List Pln)(n:Nat)(ps:List (List Pln)):Prop where
 n:ps.length<=n
 d:∀x∈ps,x.Nodup/\(∀p∈x,p∈U)/\ful x=true/\∀z,Inr (x++ws) z->Inr (c++ws) z
noncomputable def We4(c:List Pln):List Pln:=if ful c then c.foldl (Pa1 (pts c)) [] else []
theorem xc0:lean=We4:=by
 funext c;unfold lean We4;rw[be7]
section
variable(L:List Pln->List Pln)
noncomputable def de7(x fs:List Pln):Nat->List Pln
 |0=>x
 |j+1=>L (de7 x fs j++[gL tP fs j])
noncomputable def zf3(x fs:List Pln)(j:Nat):List Pln:=L (de7 L x fs j++[O4 (gL tP fs j)])
noncomputable def zf4(x fs:List Pln)(j:Nat):List (List Pln):=((List.range j).map (zf3 L x fs)).filter λc=>decide (0<c.length)
noncomputable def We5(x fs:List Pln):Bool:=(List.range fs.length).all λj=>decide ((de7 L x fs j).length<48)
noncomputable def jf8(q x:List Pln):List (List Pln):=if apart x q then [x] else zf4 L x (L q) (L q).length
noncomputable def od0(ps:List (List Pln))(q:List Pln):Option (List (List Pln)) :=
 if ful q then (if ps.all (λx=>apart x q||We5 L x (L q))&&decide ((ps.flatMap (jf8 L q)).length<=200) then some (ps.flatMap (jf8 L q)) else none) else some ps
noncomputable def We6(c:List Pln)(s:List (List Pln)):Option (List (List Pln)) :=
 s.foldl (λst q=>st.bind λps=>od0 L ps q) (some (if ful c then [L c] else []))
end
theorem od1(x fs:List Pln):∀j,de7 lean x fs j=C3 x fs j
 |0=>rfl
 |j+1=>by
  show lean (de7 lean x fs j++_)=lean (C3 x fs j++_);rw[od1 x fs j]
theorem jf9:zf3 lean=Ma9:=by funext x fs j;unfold zf3 Ma9;rw[od1]
theorem kf0:zf4 lean=Na0:=by funext x fs j;unfold zf4 Na0;rw[jf9]
theorem We7:We5 lean=Fa9:=by funext x fs;unfold We5 Fa9;simp only[od1]
theorem kf1:jf8 lean=Ga0:=by funext q x;unfold jf8 Ga0;rw[kf0]
theorem de8:od0 lean=G1:=by
 funext ps q;unfold od0 G1;rw[kf1,We7];rfl
theorem Na1:ma4=We6 We4:=by
 funext c s;rw[<- xc0];unfold ma4 We6;rw[de8]
noncomputable def bx(x y z u v w:Int):List Pln:=[⟨⟨1,0,0⟩,u⟩,⟨⟨-1,0,0⟩,-x⟩,⟨⟨0,1,0⟩,v⟩,⟨⟨0,-1,0⟩,-y⟩,⟨⟨0,0,1⟩,w⟩,⟨⟨0,0,-1⟩,-z⟩]
theorem ex1:ma4 (bx 0 0 0 2 1 1) [bx 1 0 0 3 1 1]=some [lean (bx 0 0 0 1 1 1)]:=by rw[Na1,xc0];kernel_rfl
theorem ex2:ma4 (bx 0 0 0 3 1 1) [bx 1 0 0 2 1 1]=some [lean (bx 0 0 0 1 1 1),lean (bx 2 0 0 3 1 1)]:=by rw[Na1,xc0];kernel_rfl
theorem ex3:ma4 (bx 0 0 0 1 1 1) []=some [lean (bx 0 0 0 1 1 1)]:=by rw[Na1,xc0];kernel_rfl
theorem ex4:ma4 (bx 0 0 0 1 1 1) [bx 1 0 0 2 1 1]=some [lean (bx 0 0 0 1 1 1)]:=by rw[Na1,xc0];kernel_rfl
theorem ex5:ma4 (bx 0 0 0 2 1 1) [bx 0 0 0 1 1 1,bx 1 0 0 2 1 1]=some []:=by rw[Na1];kernel_rfl
theorem ex6:ma4 (bx 0 0 0 2 1 1) [bx 0 0 0 1 1 1]=some [lean (bx 1 0 0 2 1 1)]:=by rw[Na1,xc0];kernel_rfl
theorem ex7:ma4 (bx 0 0 0 1 1 1) [bx 0 0 0 2 1 1]=some []:=by rw[Na1];kernel_rfl
theorem ex8:ma4 (bx 1 0 0 2 1 1) [bx 0 0 0 2 1 1]=some []:=by rw[Na1];kernel_rfl
theorem ex9:ma4 (bx 0 0 0 2 1 1) [bx 1 0 0 2 1 1]=some [lean (bx 0 0 0 1 1 1)]:=by rw[Na1,xc0];kernel_rfl
theorem exA:cb6 (bx 0 0 0 1 1 1) [bx 1 0 0 2 1 1,bx 0 1 0 1 2 1]=true:=by kernel_rfl
theorem exC:chk (bx 0 0 0 1 1 1)=0/\chk (bx 1 0 0 2 1 1)=0/\chk (bx 0 0 0 2 1 1)=0/\chk (bx 0 0 0 3 1 1)=0/\chk (bx 1 0 0 3 1 1)=0:=by refine⟨?_,?_,?_,?_,?_⟩<;>kernel_rfl
theorem bx1:(P5 0 0 0 1 1 1=bx 0 0 0 1 1 1/\M5 0 0 0 1 1 1=true)/\(P5 1 0 0 2 1 1=bx 1 0 0 2 1 1/\M5 1 0 0 2 1 1=true)/\(P5 0 0 0 2 1 1=bx 0 0 0 2 1 1/\M5 0 0 0 2 1 1=true):=by refine⟨⟨?_,?_⟩,⟨?_,?_⟩,?_,?_⟩<;>kernel_rfl
theorem bx2:(P5 1 0 0 3 1 1=bx 1 0 0 3 1 1/\M5 1 0 0 3 1 1=true)/\(P5 0 0 0 3 1 1=bx 0 0 0 3 1 1/\M5 0 0 0 3 1 1=true)/\(P5 2 0 0 3 1 1=bx 2 0 0 3 1 1/\M5 2 0 0 3 1 1=true)/\P5 0 1 0 1 2 1=bx 0 1 0 1 2 1/\M5 0 1 0 1 2 1=true:=by refine⟨⟨?_,?_⟩,⟨?_,?_⟩,⟨?_,?_⟩,?_,?_⟩<;>kernel_rfl
theorem Pa7(x y z u v w:Int):(bx x y z u v w).length=6:=rfl
theorem Hb3{x:List Pln}{y z:List (List Pln)}(hx:chk x=0)(hy:schk y=0)(hm:ma4 x y=some (z.map lean))(hz:∀c∈z,c.length<=1000)(hzn:z.length<=1000):pa5 x y z=true/\pa6 x y z=true:=by
 have hy':=Bd7 hy;have hyl:∀q∈y,q.length<=1000000:=λq hq=>by have:=ne0 (hy'.2 q hq);omega
 have hxl:=ne0 hx;have e:Pa5 x y=(z.map lean,0):=by unfold Pa5;rw[hx,hy,hm];rfl
 have h:=fb6 (step:=ta8 ⟨z,z.map lean,(z.length:Int)⟩) (mk:=λj=>(⟨(j:Int)⟩:R4)) (c:=λ_=>false) (u:=1) (fin:=2) (tLs tP) z (by omega)
  (λj hj=>by
   have hc:=hz _ (Fa3 (tLs tP) hj);have hll:=bb8 (gL (tLs tP) z j);have hg:gL (tLs tP) (z.map lean) j=lean (gL (tLs tP) z j):=by simp[gL,Qlq,Qlc hj]
   have hj2:j<(z.map lean).length:=by rw[List.length_map];exact hj
   have s1:=vf8 (lean (gL (tLs tP) z j)) (by omega);have s2:=vf9 (lean (gL (tLs tP) z j)) (by omega)
   have r1:=gf4 (gL (tLs tP) z j) (by omega);have r2:=gf5 (gL (tLs tP) z j) (by omega)
   simp only[ta8,pa4,Int.toNat_natCast,i6,p6,hg,r1,r2,s1,s2,o3 hj (show z.length<=4611686018427387904 by omega),g8,C8,Qlm]
   rw[btD (g9 hj),bt (f7 hj2),bt (f7 hj)])
  (by simp only[ta8,pa4];rw[bfD (m9 (Qlh _))]) 0 (Qld _)
 rw[Qlu,show (z.any λ_=>false)=false by simp] at h
 have eo:Ka9 x y z=some (b true,[]):=by
  unfold Ka9;simp only[i6,p6,i8,ue6 (x:=x) (y:=y) (by omega) (by omega) hyl,ue7 (x:=x) (y:=y) (by omega) (by omega) hyl,e,g8,Qlg]
  rw[show (⟨0⟩:R4)=⟨((0:Nat):Int)⟩ from rfl,h]
  rw[show ((((z.map lean).length:Nat):Int) != (z.length:Int))=false by rw[List.length_map];simp]
  simp only[Qlt,if_false,C8,De7,De8,g8,show ((0:Int) != 0)=false from rfl]
 unfold pa5 pa6;rw[eo];exact⟨rfl,rfl⟩
theorem We8{s:List (List Pln)}{c:List Pln}{r:List (List Pln)}(hc:chk c=0)(hs:schk s=0)(hm:ma4 c s=some r):p4 s c=(((r.length:Nat):Int)==0,0):=by
 have e:Pa5 c s=(r,0):=by unfold Pa5;rw[hc,hs,hm];rfl
 unfold p4;rw[e];rfl
theorem Sc3:La1=some (b true,[]):=by
 obtain⟨⟨a1,a2⟩,⟨a3,a4⟩,a5,a6⟩:=bx1;obtain⟨⟨c1,c2⟩,⟨c3,c4⟩,⟨c5,c6⟩,c7,c8⟩:=bx2;obtain⟨k1,k2,k3,k4,k5⟩:=exC;have s1:∀{a:List Pln},chk a=0->schk [a]=0:=λh=>mc9 (by simp) (by simpa using h)
 have s2:∀{a c:List Pln},chk a=0->chk c=0->schk [a,c]=0:=λh h'=>mc9 (by simp) (by simpa using ⟨h,h'⟩)
 have l1:=Hb3 (z:=[bx 0 0 0 1 1 1]) k3 (s1 k5) ex1 (by simp[Pa7]) (by simp)
 have l2:=Hb3 (z:=[bx 0 0 0 1 1 1,bx 2 0 0 3 1 1]) k4 (s1 k2) ex2 (by simp[Pa7]) (by simp)
 have l3:=Hb3 (z:=[bx 0 0 0 1 1 1]) k1 (mc9 (s:=[]) (by simp) (by simp)) ex3 (by simp[Pa7]) (by simp)
 have l4:=Hb3 (z:=[bx 0 0 0 1 1 1]) k1 (s1 k2) ex4 (by simp[Pa7]) (by simp)
 have m1:=wb3 (x:=[bx 0 0 0 1 1 1,bx 1 0 0 2 1 1]) (y:=bx 0 0 0 2 1 1) (z:=true) (by simp[Pa7]) (by simp) (by simp[Pa7])
 have m2:=wb3 (x:=[bx 0 0 0 1 1 1]) (y:=bx 0 0 0 2 1 1) (z:=false) (by simp[Pa7]) (by simp) (by simp[Pa7])
 have m3:=ve1 (x:=[bx 0 0 0 2 1 1]) (y:=[bx 0 0 0 1 1 1,bx 1 0 0 2 1 1]) (z:=true) (by simp) (by simp[Pa7]) (by simp) (by simp[Pa7])
 have m4:=ve1 (x:=[bx 0 0 0 2 1 1]) (y:=[bx 1 0 0 2 1 1]) (z:=false) (by simp) (by simp[Pa7]) (by simp) (by simp[Pa7])
 have q1:=We8 k3 (s2 k1 k2) ex5;have q2:=We8 k3 (s1 k1) ex6;have q3:=We8 k1 (s1 k3) ex7;have q4:=We8 k2 (s1 k3) ex8;have q5:=We8 k3 (s1 k2) ex9;have i1:inR [bx 0 0 0 2 1 1] [bx 0 0 0 1 1 1,bx 1 0 0 2 1 1]=(true,0):=Gc7 (by simp[q1])
 have i2:inR [bx 0 0 0 1 1 1,bx 1 0 0 2 1 1] [bx 0 0 0 2 1 1]=(true,0):=Gc7 (by simp[q3,q4])
 have i3:inR [bx 0 0 0 2 1 1] [bx 1 0 0 2 1 1]=(false,0):=by
  have q5':p4 [bx 1 0 0 2 1 1] (bx 0 0 0 2 1 1)=(false,0):=q5;unfold inR;rw[List.find?_cons_of_pos (by rw[q5'];rfl)]
  exact q5'
 have e1:sb4 [bx 0 0 0 2 1 1] [bx 0 0 0 1 1 1,bx 1 0 0 2 1 1]=(true,0):=by unfold sb4;rw[s1 k3,s2 k1 k2,i1,i2];rfl
 have e2:sb4 [bx 0 0 0 2 1 1] [bx 1 0 0 2 1 1]=(false,0):=by unfold sb4;rw[s1 k3,s1 k2,i3];rfl
 rw[q1] at m1;rw[q2] at m2;rw[e1] at m3;rw[e2] at m4;have z1:T4 [[],[],[],[],[],[],[],[],[],[],[],[],[],[],[],[],[]]=2:=(Pb6 (by simp) (by simp)).trans (by kernel_rfl)
 have z2:T5 [[],[],[],[],[],[],[],[],[],[],[],[],[],[],[],[],[]]=true:=Pb7 (by simp) (by simp)
 have z3:T4 [[(⟨(⟨2,0,0⟩:V3),1⟩:Pln)]]=12:=(Pb6 (by simp) (by simp)).trans (by kernel_rfl)
 have z4:T5 [[(⟨(⟨2,0,0⟩:V3),1⟩:Pln)]]=true:=Pb7 (by simp) (by simp)
 have t1:=ce9 (c:=bx 0 0 0 1 1 1) (s:=[bx 1 0 0 2 1 1,bx 0 1 0 1 2 1]) (by simp[Pa7]) (by simp) (by simp[Pa7])
 have t2:=de0 (c:=bx 0 0 0 1 1 1) (s:=[bx 1 0 0 2 1 1,bx 0 1 0 1 2 1]) (by simp[Pa7]) (by simp) (by simp[Pa7])
 rw[exA] at t1;unfold La1;simp only[a1,a2,a3,a4,a5,a6,c1,c2,c3,c4,c5,c6,c7,c8,i6,p6,Qlg,g8,l1.1,l1.2,l2.1,l2.2,l3.1,l3.2,l4.1,l4.2,m1.1,m1.2,m2.1,m2.2,m3.1,m3.2,m4.1,m4.2,z1,z2,z3,z4,t1,t2];rfl
theorem ne7:db3=true:=by unfold db3;rw[Sc3];rfl
theorem ne8:db4=true:=by unfold db4;rw[Sc3];rfl
theorem de9{c:List Pln}{p:Pln}(h:(chk (c++[p])==0)=true):(chk c==0)=true:=by
 rw[beq_iff_eq,Ja5] at *
 exact⟨by have:=h.1;rw[Qla] at this;omega,λq hq=>h.2 q (List.mem_append_left _ hq)⟩
theorem nc0{c:List Pln}{p:Pln}{q:Pln}:q∈c++[p]++ws↔q∈c++ws\/q=p:=by
 simp only[Qli,Qlb];constructor
 ·rintro ((h|h)|h)
  ·exact .inl (.inl h)
  ·exact .inr h
  ·exact .inl (.inr h)
 ·rintro ((h|h)|h)
  ·exact .inl (.inl h)
  ·exact .inr h
  ·exact .inl (.inr h)
theorem ve4{c:List Pln}{p:Pln}{z:Pt}:Inr (c++[p]++ws) z↔Inr (c++ws) z/\0<=rmZ p z:=by
 constructor
 ·intro h;exact⟨h.mono λq hq=>nc0.2 (.inl hq),h.h p (nc0.2 (.inr rfl))⟩
 ·rintro⟨h1,h2⟩;refine⟨h1.w,λq hq=>?_⟩
  rcases nc0.1 hq with h|rfl
  ·exact h1.h q h
  ·exact h2
theorem kf2{c:List Pln}{p:Pln}{z:Pt}:Ins (c++[p]++ws) z↔Ins (c++ws) z/\0<rmZ p z:=by
 constructor
 ·intro h;exact⟨h.mono λq hq=>nc0.2 (.inl hq),h.h p (nc0.2 (.inr rfl))⟩
 ·rintro⟨h1,h2⟩;refine⟨h1.w,λq hq=>?_⟩
  rcases nc0.1 hq with h|rfl
  ·exact h1.h q h
  ·exact h2
theorem ne9{c:List Pln}{p:Pln}(h:ful (c++[p])=true):ful c=true:=by
 obtain⟨h1,x,hx⟩:=fa8.1 h;exact fa8.2 ⟨de9 h1,x,(kf2.1 hx).1⟩
structure ee0 where
 bs5:Bool
 L5:List Pln
 (Oc6 db7 Na3:List (List Pln))
 oe1:Int
structure ee1 where
 Db0:Int
structure Wf1(own:List Pln)(s r:List (List Pln)):Prop where
 m:Pa5 own s=(r,0)
 n:r.length<=144
 l:∀x∈r,x.length<=37
 full:∀x∈r,ful x=true
 lies:∀x∈r,Ce.lies x own=true
 off:∀x∈r,cb6 x s=true
 dis:∀j,j<r.length->cb6 (gL (tLs tP) r j) (r.take j)=true
 all:(s++r).length<=16->p4 (s++r) own=(true,0)
 self:r.length<=16->(p4 r own).2=9\/((p4 r own).2=0/\(p4 r own).1=cb6 own s)
theorem od2{α:Type}(t:Ty α)(l:List α){n:Nat}(h:n=l.length):lsL t n (λk=>l9 (bL t l) k)=l/\okL t n (λk=>l9 (bL t l) k)=true:=by
 subst h;exact⟨cc9 t rfl λk hk=>by rw[P7 t hk],Ua6 t (f:=λk=>gL t l k) λk hk=>by rw[P7 t hk]⟩
theorem kf3{α:Type}(l:List α):app [] l=l:=rfl
theorem Vf5(x:List Int):inB (if 12<(x.length:Int) then 12 else (x.length:Int)) (x.length+1)=true:=by
 rw[Xc9];apply decide_eq_true
 split<;>omega
theorem oe0{c:List Pln}{s:List (List Pln)}(h:c∈s):Cov s c:=λhf _ hz=>⟨c,h,hf,hz⟩
theorem ee2{c:List Pln}{p:Pln}{s:List (List Pln)}(h:c∈s):Cov s (c++[p]):=λhf _ hz=>⟨c,h,ne9 hf,(ve4.1 hz).1⟩
structure HvF(c:List Pln)(p q:Pln):Prop where
 a:sb4 [c] [c++[p],c++[O4 p]]=(true,0)
 a':sb4 [c++[p],c++[O4 p]] [c]=(true,0)
 h:p4 [c++[p]] c=(!ful (c++[O4 p]),0)
 h':p4 [c++[O4 p]] c=(!ful (c++[p]),0)
 s:sb4 [c++[O4 p],c++[p]++[q],c++[p]++[O4 q]] [c++[p],c++[O4 p]]=(true,0)
 v:p4 [c++[O4 p],c++[p]++[q],c++[p]++[O4 q]] c=(true,0)
 d:apart (c++[p]) (c++[O4 p])=true
noncomputable def Pa8:List (Nat×Sum):=[(37,jc8),(38,Sc2),(39,Gc9),(42,cb4),(54,Cb6),(51,vc4),(45,Lb3),(49,Sa6)]
theorem kc0:i9 prog G Pa8:=⟨Wc9,Nd9,vd1,rb6,Yb3,Qc6,jc4,cb1,trivial⟩
structure I6 where
 we1:List Int
 bs9:Bool
 Od2:List Pln
 db9:List (List Pln)
 Od3:List Pln
 Fe5:Int
structure u8 where
 ph:Nat
 Qb1:Int
 Od4:Nat
 eh0:List (List b7)
noncomputable def db5(p:I6)(s:u8):St:=⟨ra 3 (eL tI p.we1::ra 5 (b p.bs9::eL tP p.Od2::eL (tLs tP) p.db9::eL tP p.Od3::.v (.slice none 0 0)::ra 17 (i p.Fe5::i s.Qb1::ra 103 []))),[]⟩
noncomputable def db6(p:I6)(s:u8):St:=⟨ra 3 (eL tI p.we1::ra 5 (b p.bs9::eL tP p.Od2::eL (tLs tP) p.db9::eL tP p.Od3::.sl 0 0 s.Od4 0::ra 17 (i p.Fe5::i s.Qb1::ra 103 []))),[⟨24,1,s.eh0,true,false,0⟩]⟩
noncomputable def Zb6(p:I6)(s:u8):St:=(sel (Nat.beq s.ph 1) (db6 p s) (db5 p s))
noncomputable def J9{α:Type}(k:u8->α)(e:Nat->α)(z:α)(p:I6)(s:u8):α:=(sl (decide (s.Qb1<p.Fe5)) (sl (inB s.Qb1 (List.length p.db9)) (k ⟨1,W (s.Qb1+1),1,[[eL tP (gL (tLs tP) p.db9 s.Qb1.toNat)]]⟩) z) (e 1))
noncomputable def K0{α:Type}(k:u8->α)(e:Nat->α)(z:α)(p:I6)(s:u8):α:=(sl (decide (s.Qb1<p.Fe5)) (sl (inB s.Qb1 (List.length p.db9)) (sl (Nat.beq 1 1&&Nat.ble ((1+(len (K1 (l0 s.eh0 0) s.Od4)))*24) room) (k ⟨1,W (s.Qb1+1),1+(len (K1 (l0 s.eh0 0) s.Od4)),app [[eL tP (gL (tLs tP) p.db9 s.Qb1.toNat)]] (K1 (l0 s.eh0 0) s.Od4)⟩) z) z) (e 2))
noncomputable def S8(p:I6)(s:u8):Stp u8:=(sel (Nat.beq s.ph 1) (K0 .next .exit .fail p s) (J9 .next .exit .fail p s))
noncomputable def La2:Lo I6 u8:=⟨En Pa8,0,pf9,[1,1,1,1,0,1,4,4],[3,9,10,11,12,13,31,32],.p,[⟨ru2 3 (sLq tI::ru2 5 (sBq::sLq tP::.s (.c 1 (nL (tLs tP)))::sLq tP::.s (.o .nil)::ru2 17 (sIq::sIq::ru2 103 []))),[],λa H=>(⟨aLq tI a 3,aBq a 9,aLq tP a 10,rL (tLs tP) (slT a 11),aLq tP a 12,aIq a 31⟩,⟨0,aIq a 32,0,[]⟩)⟩,⟨ru2 3 (sLq tI::ru2 5 (sBq::sLq tP::.s (.c 1 (nL (tLs tP)))::sLq tP::.s (.o (.sl 0 0 (some 0) none))::ru2 17 (sIq::sIq::ru2 103 []))),[⟨24,1,true,none⟩],λa H=>(⟨aLq tI a 3,aBq a 9,aLq tP a 10,rL (tLs tP) (slT a 11),aLq tP a 12,aIq a 31⟩,⟨1,aIq a 32,slN (slT a 13),elT H 0⟩)⟩],S8,[(some 0,λp s=>upq (db5 p s) [(33,b (decide (s.Qb1<p.Fe5)))]),(some 0,λp s=>upq (db6 p s) [(33,b (decide (s.Qb1<p.Fe5)))])],Zb6⟩
theorem Zb7:La2.Ok:=Lo.ok [] (by kernel_rfl) .nil rfl (.cons (λa H=>by kernel_rfl) (.cons (λa H=>by kernel_rfl) .nil)) λp s=>(.sel (Nat.beq s.ph 1) (.of @K0 (λF _ _ _ _ _=>by unfold K0;(repeat' apply m0 (f:=F))<;>rfl) (by kernel_rfl)) (.of @J9 (λF _ _ _ _ _=>by unfold J9;(repeat' apply m0 (f:=F))<;>rfl) (by kernel_rfl)))
structure ha6 where
 we1:List Int
 bs9:Bool
 Od2:List Pln
 db9:List (List Pln)
 Od3:List Pln
 Vf9:Bool
 Hc2:List (List Pln)
 Af0:Int
structure I7 where
 ee3:Int
noncomputable def eb6(p:ha6)(s:I7):St:=⟨ra 3 (eL tI p.we1::ra 5 (b p.bs9::eL tP p.Od2::eL (tLs tP) p.db9::eL tP p.Od3::.unk::.unk::b p.Vf9::ra 42 (eL (tLs tP) p.Hc2::i p.Af0::i s.ee3::ra 75 []))),[]⟩
noncomputable def aa2{α:Type}(k:I7->α)(e:Nat->α)(z:α)(p:ha6)(s:I7):α:=let t1:=(G9 (rt (tLs tP) p.db9) (rt tP (gL (tLs tP) p.Hc2 s.ee3.toNat)) true);(sl (decide (s.ee3<p.Af0)) (sl (inB s.ee3 (List.length p.Hc2)) (sl (okE (tLs tP) p.db9) (sl (okE tP (gL (tLs tP) p.Hc2 s.ee3.toNat)) (sl (A8 (rt (tLs tP) p.db9) (rt tP (gL (tLs tP) p.Hc2 s.ee3.toNat)) true) (sl (!t1) (e 1) (k ⟨W (s.ee3+1)⟩)) z) z) z) z) (e 2))
noncomputable def S9(p:ha6)(s:I7):Stp I7:=aa2 .next .exit .fail p s
noncomputable def La3:Lo ha6 I7:=⟨En Pa8,0,pf9,[1,1,1,1,1,1,1,0,1,4,4],[3,9,10,11,12,15,58,59,60],.p,[⟨ru2 3 (sLq tI::ru2 5 (sBq::sLq tP::.s (.c 1 (nL (tLs tP)))::sLq tP::sUq::sUq::sBq::ru2 42 (.s (.c 1 (nL (tLs tP)))::sIq::sIq::ru2 75 []))),[],λa H=>(⟨aLq tI a 3,aBq a 9,aLq tP a 10,rL (tLs tP) (slT a 11),aLq tP a 12,aBq a 15,rL (tLs tP) (slT a 58),aIq a 59⟩,⟨aIq a 60⟩)⟩],S9,[(none,λp s=>⟨[b false],[]⟩),(some 2,λp s=>upq (eb6 p s) [(61,b (decide (s.ee3<p.Af0)))])],eb6⟩
theorem Zb8:La3.Ok:=Lo.ok [] (by kernel_rfl) .nil rfl (.cons (λa H=>by kernel_rfl) .nil) λp s=>(.of @aa2 (λF _ _ _ _ _=>by unfold aa2;(repeat' apply m0 (f:=F))<;>rfl) (by kernel_rfl))
noncomputable def pa7(x:List Int)(y:List (List Int))(z:List Int)(w:List Int):Option (b7×List b8):=let t1:=db3;let t2:=(ta7 (rt tI x));let t3:=(db0 (rt (tLs tI) y) 2);let t4:=(ta7 (rt tI z));let t5:=(lp (S8 (⟨rt tI w,t1,rt tP t2,rt (tLs tP) t3,rt tP t4,(↑(List.length t3):Int)⟩:I6)) (⟨0,0,0,[]⟩:u8));let a1:=(p5 (λk=>(tP).row (gL tP (rt tP (rt tP t2)) k)) (List.range (List.length (rt tP (rt tP t2)))));let a3:=(eL tP (rt tP (rt tP t2)));let a8:=(rt (tLs tP) (rt (tLs tP) t3));let t6:=(T6 a8 (rt tP (rt tP t2)));let t7:=(G9 [] (rt tP (rt tP t2)) t6.1);let t8:=(lp (S9 (⟨rt tI (rt tI w),t1,rt tP (rt tP t2),a8,rt tP (rt tP t4),t6.1,a8,(↑(List.length (rt (tLs tP) t3)):Int)⟩:ha6)) (⟨0⟩:I7));let t15:=(G9 (lsL (tLs tP) t5.2.Od4 (λk=>l9 t5.2.eh0 (0+k))) (rt tP (rt tP t2)) t6.1);let a0:=(p5 (λk=>(tLs tP).row (gL (tLs tP) a8 k)) (List.range (List.length a8)));let a2:=(W ((↑((0+(len a0))+1):Int)-1));let a4:=(λk=>l9 (app (app [] a0) [[a3]]) ((0+a2.toNat)+k));let a7:=(((0+(len a0))+1)-a2.toNat);let a9:=(inB a2 (((0+(len a0))+1)+1));let a12:=(okE tP (rt tP (rt tP t2)));let a13:=(λk=>(λk=>(tI).row (gL tI (rt tI (rt tI w)) k)) (0+k));let a14:=(λk=>l9 (app (app [] a0) [[a3]]) (0+k));let t14:=(T4 (lsL (tLs tP) ((0+(len a0))+1) a14));let a5:=(T5 (lsL (tLs tP) ((0+(len a0))+1) a14));let a6:=(okL (tLs tP) ((0+(len a0))+1) a14);let a15:=(eL tP (rt tP (rt tP t4)));let a16:=(λk=>l9 (app [[a15]] a0) (0+k));let a17:=(rt tP (rt tP (rt tP t2)));let t10:=(T6 (lsL (tLs tP) (1+(len a0)) a16) a17);let t12:=(Ea9 a17 (rt (tLs tP) a8));let a10:=(Fa0 a17 (rt (tLs tP) a8));let a18:=(List.length (rt tI (rt tI w)));let a11:=(if 12<(↑a18:Int) then 12 else (↑a18:Int));let t9:=(Va3 (lsL tI (a11.toNat-0) a13));let t11:=(G9 (rt (tLs tP) a8) (slR tP (app (app [] a1) [[i t9.n.x,i t9.n.y,i t9.n.z,i t9.b]]) 0 ((0+(len a1))+1)) true);let t13:=(G9 (lsL (tLs tP) a7 a4) (slR tP (app (app [] a1) [[i t9.n.x,i t9.n.y,i t9.n.z,i t9.b]]) 0 ((0+(len a1))+1)) true);let a19:=(cnE (tLs tP) (rt (tLs tP) t3));let w0:Option (b7×List b8):=(sl t6.1 (sl (okE (tLs tP) a8) (sl (okS tP (app (app [] a1) [[i t9.n.x,i t9.n.y,i t9.n.z,i t9.b]]) 0 ((0+(len a1))+1)) (sl (A8 (rt (tLs tP) a8) (slR tP (app (app [] a1) [[i t9.n.x,i t9.n.y,i t9.n.z,i t9.b]]) 0 ((0+(len a1))+1)) true) (sl (!t11) (some (b false,[])) (sl t6.1 (sl a12 (sl (okE (tLs tP) a8) (sl a10 (sl t12 (some (b false,[])) (sl t1 (sl a9 (sl (okL (tLs tP) a7 a4) (sl (okS tP (app (app [] a1) [[i t9.n.x,i t9.n.y,i t9.n.z,i t9.b]]) 0 ((0+(len a1))+1)) (sl (A8 (lsL (tLs tP) a7 a4) (slR tP (app (app [] a1) [[i t9.n.x,i t9.n.y,i t9.n.z,i t9.b]]) 0 ((0+(len a1))+1)) true) (sl t13 (sl a6 (sl a5 (some (b (t14==0),[])) none) none) (some (b false,[]))) none) none) none) none) (some (b false,[])))) none) none) none) (sl t1 (sl a9 (sl (okL (tLs tP) a7 a4) (sl (okS tP (app (app [] a1) [[i t9.n.x,i t9.n.y,i t9.n.z,i t9.b]]) 0 ((0+(len a1))+1)) (sl (A8 (lsL (tLs tP) a7 a4) (slR tP (app (app [] a1) [[i t9.n.x,i t9.n.y,i t9.n.z,i t9.b]]) 0 ((0+(len a1))+1)) true) (sl t13 (sl a6 (sl a5 (some (b (t14==0),[])) none) none) (some (b false,[]))) none) none) none) none) (some (b false,[]))))) none) none) none) (sl t6.1 (sl a12 (sl (okE (tLs tP) a8) (sl a10 (sl t12 (some (b false,[])) (sl t1 (sl a9 (sl (okL (tLs tP) a7 a4) (sl (okS tP (app (app [] a1) [[i t9.n.x,i t9.n.y,i t9.n.z,i t9.b]]) 0 ((0+(len a1))+1)) (sl (A8 (lsL (tLs tP) a7 a4) (slR tP (app (app [] a1) [[i t9.n.x,i t9.n.y,i t9.n.z,i t9.b]]) 0 ((0+(len a1))+1)) true) (sl t13 (sl a6 (sl a5 (some (b (t14==0),[])) none) none) (some (b false,[]))) none) none) none) none) (some (b false,[])))) none) none) none) (sl t1 (sl a9 (sl (okL (tLs tP) a7 a4) (sl (okS tP (app (app [] a1) [[i t9.n.x,i t9.n.y,i t9.n.z,i t9.b]]) 0 ((0+(len a1))+1)) (sl (A8 (lsL (tLs tP) a7 a4) (slR tP (app (app [] a1) [[i t9.n.x,i t9.n.y,i t9.n.z,i t9.b]]) 0 ((0+(len a1))+1)) true) (sl t13 (sl a6 (sl a5 (some (b (t14==0),[])) none) none) (some (b false,[]))) none) none) none) none) (some (b false,[])))));let w1:Option (b7×List b8):=(sl ((cnE tI (rt tI w))&&((cnE tP (rt tP t2))&&(a19&&((cnE tP (rt tP t4))&&(a19&&true))))) (sl (Nat.beq t8.1 1) (some (b false,[])) (sl (Nat.beq t8.1 2) (sl (Nat.beq 0 0&&Nat.ble ((0+(len a0))*24) room) (sl (Nat.beq (0+(len a0)) (len (app [] a0))&&Nat.ble (((0+(len a0))+1)*24) room) (sl (Nat.beq 0 0&&Nat.ble ((0+(len a1))*32) room) (sl (inB a11 (a18+1)) (sl (okL tI (a11.toNat-0) a13) (sl (Tb6 (lsL tI (a11.toNat-0) a13)) (sl (Nat.beq (0+(len a1)) (len (app [] a1))&&Nat.ble (((0+(len a1))+1)*32) room) (sl (Nat.beq 1 1&&Nat.ble ((1+(len a0))*24) room) (sl (okL (tLs tP) (1+(len a0)) a16) (sl a12 (sl (ha4 (lsL (tLs tP) (1+(len a0)) a16) a17) (sl (t10.2==0) (sl t6.1 (sl (!t10.1) (some (b false,[])) w0) w0) w0) none) none) none) none) none) none) none) none) none) none) none) none)) none);(sl db4 (sl (okE tI x) (sl (ob5 (rt tI x)) (sl (okE (tLs tI) y) (sl (vb2 (rt (tLs tI) y) 2) (sl (okE tI z) (sl (ob5 (rt tI z)) (sl ((cnE tI w)&&((cnE tP t2)&&((cnE (tLs tP) t3)&&((cnE tP t4)&&true)))) (sl (Nat.beq t5.1 1) (sl (okE (tLs tP) (rt (tLs tP) t3)) (sl (okE tP (rt tP t2)) (sl (ha4 a8 (rt tP (rt tP t2))) (sl (t6.2 != 0) (some (b false,[])) (sl (okE tP (rt tP t2)) (sl (A8 [] (rt tP (rt tP t2)) t6.1) (sl (!t7) (some (b false,[])) w1) none) none)) none) none) none) (sl (Nat.beq t5.1 2) (sl (okE (tLs tP) (rt (tLs tP) t3)) (sl (okE tP (rt tP t2)) (sl (ha4 a8 (rt tP (rt tP t2))) (sl (t6.2 != 0) (some (b false,[])) (sl (okL (tLs tP) t5.2.Od4 (λk=>l9 t5.2.eh0 (0+k))) (sl (okE tP (rt tP t2)) (sl (A8 (lsL (tLs tP) t5.2.Od4 (λk=>l9 t5.2.eh0 (0+k))) (rt tP (rt tP t2)) t6.1) (sl (!t15) (some (b false,[])) w1) none) none) none)) none) none) none) none)) none) none) none) none) none) none) none) none)
noncomputable def Aa6(x:List Int)(y:List (List Int))(z:List Int)(w:List Int):Bool:=O3 (one r1B) (pa7 x y z w)
noncomputable def Aa7(x:List Int)(y:List (List Int))(z:List Int)(w:List Int):Bool:=okO (one r1B) (pa7 x y z w)
noncomputable def xc1:Sum:=Sd0 (P8 tI) (P8 (tLs tI)) (P8 tI) (P8 tI) (λx y z w=>.guard (Aa7 x y z w) (.ret ((one r1B).enc (Aa6 x y z w),[])))
theorem oc3:i5 prog G 9 xc1:=Kf6 (bd b9 kc0) (one r1B) (o:=pa7) λx y z w=>va6 (.s .p (.s .p (.s .p (.s .p (.s (.s .p (.b (.u La2.ls))) (.s .p (.s .p (.s (.s .p (.b (.u La3.ls))) .p)))))))) [La2.pr,La3.pr] (by kernel_rfl) (.cons Zb7 (.cons Zb8 .nil)) (by kernel_rfl)
theorem We9{α:Type}(t:Ty α)(s:List α){j:Nat}(hj:j<s.length):(s.take (j+1)).reverse=gL t s j::(s.take j).reverse:=by
 rw[List.take_add_one,Qlc hj,List.reverse_append];simp[gL,Qlq,Qlc hj]
theorem zf5(O:List (List Pln)):K1 (l0 (bL (tLs tP) O) 0) O.length=bL (tLs tP) O:=by
 rw[M8,M9,Qlu];refine List.take_of_length_le ?_;rw[<- o0,P6];exact Nat.le_refl _
theorem Fe1 (w : List Int) (c0 : Bool) (own : List Pln) (s : List (List Pln)) (x : List Pln) (hs : s.length ≤ 1000) :
  ∃t st,lp (S8 ⟨w,c0,own,s,x,(s.length:Int)⟩) ⟨0,0,0,[]⟩=(t,st)/\((t=1/\s=[])\/(t=2/\st.Od4=s.length/\st.eh0=bL (tLs tP) s.reverse)):=by
 refine W9 (step:=S8 ⟨w,c0,own,s,x,(s.length:Int)⟩) (mk:=λj (O:List (List Pln))=>(⟨phL O,(j:Int),O.length,bL (tLs tP) O⟩:u8)) s.length
  (λj O=>j<=s.length/\O=(s.take j).reverse) (λt st=>(t=1/\s=[])\/(t=2/\st.Od4=s.length/\st.eh0=bL (tLs tP) s.reverse)) (by omega) (λj O hj hi=>?_) (λj O hj hi=>?_) 0 [] ⟨Qld _,by simp⟩
 ·obtain⟨_,hO⟩:=hi;have hn:W ((j:Int)+1)=((j+1:Nat):Int):=o3 hj (by omega)
  have ht:=We9 (tLs tP) s hj;rw[<- hO] at ht;have hol:O.length<=1000:=by rw[hO,Qlr,List.length_take];omega
  cases O with
  |nil =>
   have e:S8 ⟨w,c0,own,s,x,(s.length:Int)⟩ ⟨phL [],(j:Int),([]:List (List Pln)).length,bL (tLs tP) []⟩=.next ⟨1,((j+1:Nat):Int),1,[[eL tP (gL (tLs tP) s j)]]⟩:=by
    show J9 Stp.next Stp.exit Stp.fail _ _=_;simp only[J9,Int.toNat_natCast,hn];rw[btD (g9 hj),bt (f7 hj)]
   rw[e];exact .nx ⟨[gL (tLs tP) s j],rfl,hj,ht.symm⟩
  |cons o os =>
   have e:S8 ⟨w,c0,own,s,x,(s.length:Int)⟩ ⟨phL (o::os),(j:Int),(o::os).length,bL (tLs tP) (o::os)⟩=.next ⟨1,((j+1:Nat):Int),(gL (tLs tP) s j::o::os).length,bL (tLs tP) (gL (tLs tP) s j::o::os)⟩:=by
    show K0 Stp.next Stp.exit Stp.fail _ _=_;have hr:Nat.ble ((1+(o::os).length)*24) room=true:=Qlp (by unfold room;omega)
    simp only[K0,Int.toNat_natCast,hn,zf5,P6,hr,Qlab,Qlg,g8];rw[btD (g9 hj),bt (f7 hj),Nat.add_comm 1];rfl
   rw[e];exact .nx ⟨_,rfl,hj,ht.symm⟩
 ·obtain⟨h1,hO⟩:=hi;have hje:j=s.length:=by omega
  subst hje;rw[List.take_length] at hO;cases O with
  |nil =>
   refine⟨1,?_,.inl ⟨rfl,by simpa using hO.symm⟩⟩
   show J9 Stp.next Stp.exit Stp.fail _ _=_;simp only[J9];rw[bfD (m9 (Qlh _))]
  |cons o os =>
   refine⟨2,?_,.inr ⟨rfl,by simp only;rw[hO,Qlr],by simp only;rw[hO]⟩⟩
   show K0 Stp.next Stp.exit Stp.fail _ _=_;simp only[K0];rw[bfD (m9 (Qlh _))]
theorem Fe2 (w : List Int) (c0 c1 : Bool) (own : List Pln) (s : List (List Pln)) (x : List Pln) (hs : s.length ≤ 1000) (hl : ∀ q ∈ s, q.length ≤ 1000000) (h : ∀ q ∈ s, p4 s q = (true, 0)) :
  (lp (S9 ⟨w,c0,own,s,x,c1,s,(s.length:Int)⟩) ⟨0⟩).1=2:=by
 have hh:=fb6 (step:=S9 ⟨w,c0,own,s,x,c1,s,(s.length:Int)⟩) (mk:=λj=>(⟨(j:Int)⟩:I7)) (c:=λ_=>false) (u:=1) (fin:=2) (tLs tP) s (by omega)
  (λj hj=>by
   have hm:gL (tLs tP) s j∈s:=Fa3 (tLs tP) hj;obtain⟨e1,e2⟩:=wb3 (x:=s) (y:=gL (tLs tP) s j) (z:=true) (by have:=hl _ hm;omega) (by omega) hl
   rw[h _ hm] at e1;have e1:G9 s (gL (tLs tP) s j) true=true:=e1.trans rfl;simp only[S9,aa2,Int.toNat_natCast,i6,p6,e1,e2,o3 hj (show s.length<=4611686018427387904 by omega),Qlm,g8,C8]
   rw[btD (g9 hj),bt (f7 hj)])
  (by simp only[S9,aa2];rw[bfD (m9 (Qlh _))]) 0 (Qld _)
 rw[Qlu,show (s.any λ_=>false)=false by simp] at hh
 exact hh
structure OrF(own:List Pln)(s:List (List Pln))(x:List Pln)(p:Pln)(is:Bool):Prop where
 a:p4 s own=(is,0)
 r:p4 s.reverse own=(is,0)
 y:∀q∈s,p4 s q=(true,0)
 w:(p4 (x::s) own).2=0->is=true->(p4 (x::s) own).1=true
 pt:is=true->p4 s (own++[p])=(true,0)
 o:p4 [own] (own++[p])=(true,0)
 n:is=true->cb6 own s=false
 k:schk (s++[own])=0
theorem zf6{c:List Pln}{s:List (List Pln)}(hc:(chk c==0)=true)(hl:c.length<=13)(hs:Ms 2 s):∃is:Bool,p4 s c=(is,0)/\(is=true↔Cov s c):=by
 classical
 obtain⟨r,hm,_⟩:=Fe0 (c:=c) (s:=s) hl hs.n λq hq=>(hs.c q hq).l
 exact⟨_,(nd9 hc (hs.schk (by omega)) hm).1,decide_eq_true_iff⟩
theorem Xe0{c:List Pln}{s:List (List Pln)}(hc:(chk c==0)=true)(hl:c.length<=13)(hs:Ms 2 s)(h:Cov s c):p4 s c=(true,0):=by
 obtain⟨is,h1,h2⟩:=zf6 hc hl hs;rw[h1,h2.2 h]
theorem orF{own x:List Pln}{s:List (List Pln)}{p:Pln}(ho:Mc own)(hs:Ms 2 s)(hx:Mc x)(hp:okp p=true):∃is,OrF own s x p is:=by
 have hl:=ho.l;have hrev:Ms 2 s.reverse:=⟨by rw[Qlr];exact hs.n,λq hq=>hs.c q (Qly.1 hq)⟩
 have hone:Ms 2 [own]:=⟨by simp,λq hq=>by rw[Qlb.1 hq];exact ho⟩
 obtain⟨is,h1,h2⟩:=zf6 ho.chk (by omega) hs
 obtain⟨is',h1',h2'⟩:=zf6 ho.chk (by omega) hrev
 have e:is'=is:=by
  rw[Bool.eq_iff_iff,h2,h2'];exact⟨λh=>h.mono λq hq=>Qly.1 hq,λh=>h.mono λq hq=>Qly.2 hq⟩
 subst e;have hpl:(own++[p]).length<=13:=by simp only[Qla,List.length_singleton];omega
 have hpc:=jf7 ho.chk (by omega) hp
 refine⟨is',h1,h1',λq hq=>Xe0 (hs.c q hq).chk (by have:=(hs.c q hq).l;omega) hs (oe0 hq),λhe hi=>?_,λhi=>Xe0 hpc hpl hs λhf z hz=>(h2.1 hi) ho.ful z (ve4.1 hz).1,Xe0 hpc hpl hone (ee2 (by simp)),λhi=>?_,?_⟩
 ·classical
  have hsx:schk (x::s)=0:=mc9 (by have:=hs.n;simp only[List.length_cons];omega) λq hq=>by
   rcases Qlo.1 hq with rfl|h
   ·exact hx.chk
   ·exact (hs.c q h).chk
  cases hm:ma4 own (x::s) with
  |none =>
   exfalso;have hc:=ho.chk;rw[beq_iff_eq] at hc;unfold p4 Pa5 at he;rw[hc,hsx,hm] at he;exact absurd he (by decide)
  |some r =>
   rw[(nd9 ho.chk hsx hm).1];exact decide_eq_true ((h2.1 hi).mono λq hq=>Qlaa _ hq)
 ·cases ha:cb6 own s with
  |false=>rfl
  |true =>
   exfalso;obtain⟨_,z0,hz0⟩:=fa8.1 ho.ful;obtain⟨q,hq,hqf,hqz⟩:=(h2.1 hi) ho.ful z0 hz0.inr;obtain⟨_,y0,hy0⟩:=fa8.1 hqf;obtain⟨u,hu⟩:=hf4 hqz hy0 (own++ws) hz0.h;exact (ne6 ho.chk λq hq=>(hs.c q hq).chk).1 ha q hq u (hu.mono λp hp=>List.mem_append_right _ hp) (hu.mono λp hp=>List.mem_append_left _ hp)
 ·refine mc9 (by have:=hs.n;simp only[Qla,List.length_singleton];omega) λq hq=>?_
  rcases Qli.1 hq with h|h
  ·exact (hs.c q h).chk
  ·rw[Qlb.1 h];exact ho.chk
theorem nb0:Nat.beq 1 2=false/\Nat.beq 2 1=false/\Nat.beq 1 1=true/\Nat.beq 2 2=true/\Nat.beq 0 0=true:=by decide
theorem Cd8(x:List Int)(y:List (List Int))(z w:List Int):pa7 x y z w=some (b true,[]):=by
 have ho:Mc (ta7 x):=qf6 x;have hx:Mc (ta7 z):=qf6 z;have hs:Ms 2 (db0 y 2):=jf3 y 2 (by omega)
 have gs:vb2 y 2=true:=jf4 y 2 (by omega)
 have hp:=ue2 (lsL tI ((if 12<(w.length:Int) then 12 else (w.length:Int)).toNat-0) λk=>(λk=>tI.row (gL tI w k)) (0+k))
 unfold pa7;simp only[i6,p6,i8,ne7,ne8,Jf8,gs,Vf5,Ua6 tI (f:=λk=>gL tI w (0+k)) λ_ _=>rfl,se4,xb7,kf3,g8,Qlg,P6]
 generalize ta7 x=own at *
 generalize ta7 z=xx at *
 generalize db0 y 2=s at *
 generalize Va3 (lsL tI ((if 12<(w.length:Int) then 12 else (w.length:Int)).toNat-0) λk=>(λk=>tI.row (gL tI w k)) (0+k))=p at *
 obtain⟨is,hF⟩:=orF ho hs hx hp;have hl:=ho.l;have hxl:=hx.l;have hn:=hs.n;have hsl:∀q∈s,q.length<=1000000:=λq hq=>by have:=(hs.c q hq).l;omega
 obtain⟨t,st,h0,hE⟩:=Fe1 w true own s xx (by omega)
 have h1:=Fe2 w true is own s xx (by omega) hsl hF.y
 -- the lists
 have ea:app (bL tP own) [[i p.n.x,i p.n.y,i p.n.z,i p.b]]=bL tP (own++[p]):=hc6 own p.n.x p.n.y p.n.z p.b;have es:slR tP (bL tP (own++[p])) 0 (own.length+1)=own++[p]:=gf1 _ (by simp)
 have eo:okS tP (bL tP (own++[p])) 0 (own.length+1)=true:=gf0 _ (by simp)
 have ea2:app (bL (tLs tP) s) [[eL tP own]]=bL (tLs tP) (s++[own]):=ue5 s own;have ea3:app [[eL tP xx]] (bL (tLs tP) s)=bL (tLs tP) (xx::s):=rfl;obtain⟨e5,e6⟩:=od2 (tLs tP) (s++[own]) (n:=s.length+1) (by simp)
 obtain⟨e7,e8⟩:=od2 (tLs tP) (xx::s) (n:=1+s.length) (by simp only[List.length_cons];omega)
 have hW:W (((s.length+1:Nat):Int)-1)=(s.length:Int):=by rw[ia4 (by omega) (by omega)];omega
 have e9:lsL (tLs tP) (s.length+1-s.length) (λk=>l9 (bL (tLs tP) (s++[own])) (s.length+k))=[own]:=cc9 (tLs tP) (by simp) λk hk=>by
  have:k=0:=by omega
  subst this;rw[Nat.add_zero,P7 (tLs tP) (by simp)]
  congr 1;simp[gL,Qlq]
 have e10:okL (tLs tP) (s.length+1-s.length) (λk=>l9 (bL (tLs tP) (s++[own])) (s.length+k))=true:=Ua6 (tLs tP) (f:=λk=>gL (tLs tP) (s++[own]) (s.length+k)) λk hk=>by rw[P7 (tLs tP) (by simp;omega)]
 have hin:inB (s.length:Int) (s.length+1+1)=true:=f7 (by omega)
 have rm32:∀n:Nat,n<=1000->Nat.ble (n*32) room=true:=λn h=>Qlp (by unfold room;omega)
 have rm24:∀n:Nat,n<=1000->Nat.ble (n*24) room=true:=λn h=>Qlp (by unfold room;omega)
 have r1:=rm32 own.length (by omega)
 have r2:=rm32 (own.length+1) (by omega)
 have r3:=rm24 s.length (by omega)
 have r4:=rm24 (s.length+1) (by omega)
 have r5:=rm24 (1+s.length) (by omega)
 -- the calls
 have hxs:∀q∈xx::s,q.length<=1000000:=λq hq=>by
  rcases Qlo.1 hq with rfl|h
  ·omega
  ·exact hsl q h
 have hso:∀q∈s++[own],q.length<=1000000:=λq hq=>by
  rcases Qli.1 hq with h|h
  ·exact hsl q h
  ·rw[Qlb.1 h];omega
 have h1o:∀q∈[own],q.length<=1000000:=λq hq=>by rw[Qlb.1 hq];omega
 have hrv:∀q∈s.reverse,q.length<=1000000:=λq hq=>hsl q (Qly.1 hq)
 have hpl:(own++[p]).length<=1000000:=by simp only[Qla,List.length_singleton];omega
 have bb:∀v:Bool,((0:Int)==0&&v==v)=true:=λv=>by cases v<;>rfl
 have c1:=Pb8 (x:=s) (y:=own) (by omega) (by omega) hsl
 have c2:=Gc4 (x:=s) (y:=own) (by omega) (by omega) hsl
 rw[hF.a] at c1;have c3:=Pb8 (x:=xx::s) (y:=own) (by omega) (by simp only[List.length_cons];omega) hxs
 have c4:=Gc4 (x:=xx::s) (y:=own) (by omega) (by simp only[List.length_cons];omega) hxs
 obtain⟨d1,d2⟩:=wb3 (x:=s.reverse) (y:=own) (z:=is) (by omega) (by rw[Qlr];omega) hrv
 rw[hF.r] at d1;have d1:=d1.trans (bb is);obtain⟨f1,f2⟩:=wb3 (x:=s) (y:=own++[p]) (z:=true) hpl (by omega) hsl
 obtain⟨k1,k2⟩:=wb3 (x:=[own]) (y:=own++[p]) (z:=true) hpl (by simp) h1o
 rw[hF.o] at k1;have k1:=k1.trans (bb true);have m1:=ce9 (c:=own) (s:=s) (by omega) (by omega) hsl
 have m2:=de0 (c:=own) (s:=s) (by omega) (by omega) hsl
 have n1:=Pb6 (s:=s++[own]) (by simp only[Qla,List.length_singleton];omega) hso
 have n2:=Pb7 (s:=s++[own]) (by simp only[Qla,List.length_singleton];omega) hso
 rw[hF.k] at n1;have w1:=hF.w;obtain⟨b12,b21,b11,b22,b00⟩:=nb0;rw[h0];have i0:is=true->G9 s (own++[p]) true=true:=λhi=>by rw[f1,hF.pt hi];rfl
 have i1:is=true->Ea9 own s=false:=λhi=>by rw[m1,hF.n hi]
 simp only[c1,c2,Qlah,ea,es,eo,ea2,ea3,e5,e6,e7,e8,hW,Int.toNat_natCast,e9,e10,hin,r1,r2,r3,r4,r5,c3,c4,f2,k1,k2,m2,n1,n2,h1,b12,b21,b11,b22,b00,Qlab,Qlg,g8,C8,show ((0:Int) != 0)=false from rfl,show ((0:Int)==0)=true from rfl]
 rcases hE with⟨rfl,hnil⟩|⟨rfl,q1,q2⟩
 ·rw[hnil] at d1 d2;have d1:G9 [] own is=true:=d1;have d2:A8 [] own is=true:=d2;simp only[b11,d1,d2,g8,C8,Qlm];cases hw:(p4 (xx::s) own).2==0<;>cases is
  ·rfl
  ·simp only[i0 rfl,i1 rfl,g8,C8,Qlm]
  ·rfl
  ·simp only[i0 rfl,i1 rfl,w1 (by simpa using hw) rfl,g8,C8,Qlm]
 ·obtain⟨e11,e12⟩:=od2 (tLs tP) s.reverse (n:=s.length) (by simp)
  rw[q1,q2];simp only[b21,b22,e11,e12,d1,d2,g8,C8,Qlm];cases hw:(p4 (xx::s) own).2==0<;>cases is
  ·rfl
  ·simp only[i0 rfl,i1 rfl,g8,C8,Qlm]
  ·rfl
  ·simp only[i0 rfl,i1 rfl,w1 (by simpa using hw) rfl,g8,C8,Qlm]
theorem Fe3(x:List Int)(y:List (List Int))(z w:List Int):Aa6 x y z w=true:=by unfold Aa6;rw[Cd8];rfl
theorem Fe4(x:List Int)(y:List (List Int))(z w:List Int):Aa7 x y z w=true:=by unfold Aa7;rw[Cd8];rfl
end Go.Ev.Ce
namespace Go.Ev
open Go Go.ChangeShapes Go.RowKit
section
variable{D:Type}{enc:TypeId×Value->D}{P:Program}{w:World}{spare:Nat->Bool}{held:Bool}
theorem zf7 {t e u : TypeId} {k : IntKind} {d : Nat} (ht : P.underlying t = some (.slice e)) (he : P.underlying e = some (.slice u)) (hf : fa9 P d u = some (Ha4 k 1)) (hes : P.cellsOf u = 1) (hce : P.cellsOf e = 1) {fuel : Nat} {cs : List Value} {x : DataW D × List MemPlace} (hx : DataW.trod enc P w 0 spare held fuel t cs = some x) :
  ∃(v:Value) (n:Nat) (m:Nat->Nat) (g:Nat->Nat->Int),cs=[v]/\da8 (Nc7 w) w (.tree 1 n λj=>[.tree 1 (m j) λq=>[.v (.int k (g j q))]]) v:=by
 rcases de3 ht hx with rfl|⟨a,n,cap,fuel',rfl,hn,hc,hel⟩
 ·exact⟨_,0,λ_=>0,λ_ _=>0,rfl,.nil _ _⟩
 ·rw[hce] at hel;have hcell:∀j,j<n->∃(m:Nat) (g:Nat->Int) (v:Value),w.cell? (a.add (j*1))=some v/\da8 (Nc7 w) w (.tree 1 m λq=>[.v (.int k (g q))]) v:=λj hj=>by
   obtain⟨row,y,h1,h2⟩:=hel j hj;obtain⟨v',m,g,e1,_,e3⟩:=rc6 he hf hes (by omega) h2
   subst e1;refine⟨m,λq=>g q 0,v',?_,?_⟩
   ·unfold World.cells? at h1
    split at h1
    ·obtain⟨l1,l2⟩:=Pb9 h1;obtain⟨i,hi,hi2⟩:=l2 0 v' rfl
     have:i=0:=by
      have:=Qlag.1 hi
      obtain⟨h3,h4⟩:=this;simpa using h4.symm
     subst this;have e:(a.add (j*1)).add 0=a.add (j*1):=by
      unfold Addr.add;cases (a.spot)<;>simp
     rw[<- e];exact hi2
    ·cases h1
   ·exact e3.get λq _=>rfl
  have hg:∀j,∃p:Nat×(Nat->Int),j<n->∃v:Value,w.cell? (a.add (j*1))=some v/\da8 (Nc7 w) w (.tree 1 p.1 λq=>[.v (.int k (p.2 q))]) v:=λj=>by
   by_cases hj:j<n
   ·obtain⟨m,g,v,h1,h2⟩:=hcell j hj;exact⟨(m,g),λ_=>⟨v,h1,h2⟩⟩
   ·exact⟨(0,λ_=>0),λh=>absurd h hj⟩
  obtain⟨p,hp⟩:=Qlv hg;have hv:∀j,∃v:Value,j<n->w.cell? (a.add (j*1))=some v/\da8 (Nc7 w) w (.tree 1 (p j).1 λq=>[.v (.int k ((p j).2 q))]) v:=λj=>by
   by_cases hj:j<n
   ·obtain⟨v,h⟩:=hp j hj;exact⟨v,λ_=>h⟩
   ·exact⟨.bool true,λh=>absurd h hj⟩
  obtain⟨v,hv⟩:=Qlv hv;have hspot:0<n->a.spot=none:=λhn=>by
   have:=(hv 0 hn).1
   simpa [Addr.add] using World.cell?_spot this
  have hw:∀j c,j<n->c<1->w.cell? ⟨a.block,a.off+(j*1+c),none⟩=some (v j):=λj c hj hc=>by
   have:=(hv j hj).1
   rw[X6 (hspot (by omega))] at this
   have:c=0:=by omega
   subst this;simpa using (hv j hj).1 |> λh=>by rw[X6 (hspot (by omega))] at h;simpa using h
  refine⟨_,n,λj=>(p j).1,λj q=>(p j).2 q,rfl,.tree 1 n _ a cap (λj _=>v j) hspot hn (λi hi=>rfl) (λi c hi hc=>?_) hw λi c hi hc=>?_⟩
  ·unfold Nc7;rw[hw i c hi hc];rfl
  ·have:c=0:=by simpa using hc
   subst this;exact (hv i hi).2
theorem kf4 {ρ : Rho} {H : List b8} {t e u : TypeId} {k : IntKind} {d : Nat} {v : Value} {dd : DataW D} {pp : List MemPlace} {bs : Nat} {r : Reach} (ht : P.underlying t = some (.slice e)) (he : P.underlying e = some (.slice u)) (hf : fa9 P d u = some (Ha4 k 1)) (hes : P.cellsOf u = 1) (hce : P.cellsOf e = 1)
  (hok:Value.okWide P w r bs t v) (h:DataW.Trod enc P w 0 spare held t v dd pp):∃(n:Nat) (m:Nat->Nat) (g:Nat->Nat->Int),ka0 ρ H (Nc7 w) w (.tree 1 n λj=>[.tree 1 (m j) λq=>[.v (.int k (g j q))]]) v:=by
 obtain⟨fuel,hx⟩:=h;obtain⟨v',n,m,g,h1,h3⟩:=zf7 ht he hf hes hce hx;have hv:v.cells=#[v]:=by
  unfold Value.okWide at hok;rw[ht] at hok;cases v with
  |agg cs=>exfalso;simp[Cell.okWide,Cell.ok,ht] at hok
  |_=>rfl
 rw[hv] at h1
 have:v=v':=by simpa using h1
 subst this;exact⟨n,m,g,.cell (.mem h3)⟩
end
end Go.Ev
namespace Go.Ev.Ce
open Go Go.Ev Go.Ev.L Go.ChangeShapes Go.RowKit
theorem kf5(n:Nat)(m:Nat->Nat)(g:Nat->Nat->Int):∃l,Rdg (P8 (tLs tI)) (.tree 1 n λj=>[.tree 1 (m j) λq=>[.v (.int .i64 (g j q))]]) l:=by
 refine⟨lsL (tLs tI) n λj=>[.tree 1 (m j) λq=>[.v (.int .i64 (g j q))]],rfl,?_⟩
 show okL (tLs tI) n _=true;unfold okL;rw[Qlj];intro j _;show Bool.and (Nat.beq 1 1) (okL tI (m j) λq=>[.v (.int .i64 (g j q))])=true
 have h:okL tI (m j) (λq=>[.v (.int .i64 (g j q))])=true:=Ua6 tI (f:=λq=>g j q) λ_ _=>rfl
 rw[h];rfl
end Go.Ev.Ce
