/- Own work. -/
import Derived.Test.YtekgjjgbdcgldaaGreatEvOX4
import Derived.ChangeStays
import Derived.ChangeSame
import Derived.OpenShut
import Derived.RowKit
set_option linter.all false
def Qla:=@List.length_append
def Qlb:=@Nat.zero_le
def Qlc:=@Nat.lt_irrefl
def Qld:=@Bool.and_self
def Qle:=@List.mem_filter
def Qlf:=@List.getElem?_eq_getElem
def Qlg:=@List.countP_eq_length_filter
def Qlh:=@Nat.ble_eq_true_of_le
def Qli:=@Int.mul_eq_zero
def Qlj:=@List.all_eq_true
def Qlk:=@Nat.le_trans
def Qll:=@Option.bind_eq_some_iff
def Qlm:=@List.mem_singleton
def Qln:=@Int.mul_pos_of_neg_of_neg
def Qlo:=@Int.mul_nonpos_of_nonneg_of_nonpos
def Qlp:=@List.mem_cons
def Qlq:=@List.length_eq_countP_add_countP
def Qlr:=@Nat.beq_refl
def Qls:=@List.mem_iff_getElem
def Qlt:=@List.mem_append
def Qlu:=@List.getElem?_range
def Qlv:=@List.drop_zero
def Qlw:=@Bool.false_eq_true
def Qlx:=@Nat.lt_or_gt_of_ne
def Qly:=@Classical.byContradiction
def Qlz:=@Int.mul_neg_of_pos_of_neg
def Qlaa:=@Nat.zero_add
def Qlab:=@List.append_nil
def Qlac:=@Option.map_eq_some_iff
def Qlad:=@List.mem_range
def Qlae:=@Bool.true_and
def Qlaf:=@Go.Ev.Ce.V3.ext'
namespace Go.Ev.Ce
open Go Go.Ev Go.Ev.L Go.Proofs
set_option maxRecDepth 100000
noncomputable def Sc9:List (Nat×Sum):=[(100,cb2)]
theorem Jd4:i8 prog G Sc9:=⟨fb5,trivial⟩
structure Ya6 where
 k8:List (List Pln)
structure ia9 where
 is3:Int
noncomputable def uc1(p:Ya6)(s:ia9):St:=⟨eL (tLs tP) p.k8::.unk::.unk::i s.is3::ra 18 [],[]⟩
noncomputable def Ha7{α:Type}(k:ia9->α)(e:Nat->α)(z:α)(p:Ya6)(s:ia9):α:=let t1:=(ja2 (rt tP (gL (tLs tP) p.k8 s.is3.toNat)));(sl (decide (s.is3<(↑(List.length p.k8):Int))) (sl (inB s.is3 (List.length p.k8)) (sl (okE tP (gL (tLs tP) p.k8 s.is3.toNat)) (sl (va2 (rt tP (gL (tLs tP) p.k8 s.is3.toNat))) (sl (t1 != 0) (e 1) (k ⟨W (s.is3+1)⟩)) z) z) z) (e 2))
noncomputable def Pa6(p:Ya6)(s:ia9):Stp ia9:=Ha7 .next .exit .fail p s
noncomputable def Vb4:Lo Ya6 ia9:=⟨En Sc9,0,Sf9,[1,1,0,1,4,4],[0,3],.p,[⟨.s (.c 1 (nL (tLs tP)))::sUq::sUq::sIq::ru2 18 [],[],λa H=>(⟨rL (tLs tP) (slT a 0)⟩,⟨aIq a 3⟩)⟩],Pa6,[(none,λp s=>let t1:=(ja2 (rt tP (gL (tLs tP) p.k8 s.is3.toNat)));⟨[i t1],[]⟩),(some 0,λp s=>upq (uc1 p s) [(8,i s.is3),(9,eL (tLs tP) p.k8),(10,i (↑(List.length p.k8):Int)),(11,b (decide (s.is3<(↑(List.length p.k8):Int))))])],uc1⟩
theorem Ad1:Vb4.Ok:=Lo.ok [] (by kernel_rfl) .nil rfl (.cons (λa H=>by kernel_rfl) .nil) λp s=>(.of @Ha7 (λF _ _ _ _ _=>by unfold Ha7;(repeat' apply l5 (f:=F))<;>rfl) (by kernel_rfl))
noncomputable def vb6(x:List (List Pln)):Option (b8×List b9):=let t1:=(lp (Pa6 (⟨rt (tLs tP) x⟩:Ya6)) (⟨0⟩:ia9));let t2:=(ja2 (rt tP (gL (tLs tP) (rt (tLs tP) x) t1.2.is3.toNat)));(sl (decide ((↑(List.length x):Int)>16)) (some (i 2,[])) (sl ((cnE (tLs tP) x)&&true) (sl (Nat.beq t1.1 1) (some (i t2,[])) (sl (Nat.beq t1.1 2) (some (i 0,[])) none)) none))
noncomputable def Pa7(x:List (List Pln)):Int:=I6 (one r1I) (vb6 x)
noncomputable def Pa8(x:List (List Pln)):Bool:=okO (one r1I) (vb6 x)
noncomputable def Qb2:Sum:=Z5 (G4 (tLs tP)) (λx=>.guard (Pa8 x) (.ret ((one r1I).enc (Pa7 x),[])))
theorem gc0:i7 prog G 50 Qb2:=La4 (bd b50 Jd4) (one r1I) (o:=vb6) λx=>ma5 (.s .p (.s .p (.s (.s .p (.b (.u Vb4.ls))) .p))) [Vb4.pr] (by kernel_rfl) (.cons Ad1 .nil) (by kernel_rfl)
noncomputable def ue1:List (Nat×Sum):=[]
theorem ee1:i8 prog G ue1:=trivial
noncomputable def Kb8(x:List Pln)(y:Pln):Option (b8×List b9):=(sl (Nat.beq 0 0&&Nat.ble ((0+(len (n9 (λk=>(tP).row (gL tP x k)) (List.range (List.length x)))))*32) room) (sl (Nat.beq (0+(len (n9 (λk=>(tP).row (gL tP x k)) (List.range (List.length x))))) (len (app [] (n9 (λk=>(tP).row (gL tP x k)) (List.range (List.length x)))))&&Nat.ble (((0+(len (n9 (λk=>(tP).row (gL tP x k)) (List.range (List.length x)))))+1)*32) room) (some ((.sl 0 0 ((0+(len (n9 (λk=>(tP).row (gL tP x k)) (List.range (List.length x)))))+1) 0),[⟨73,4,(app (app [] (n9 (λk=>(tP).row (gL tP x k)) (List.range (List.length x)))) [[i y.n.x,i y.n.y,i y.n.z,i y.b]]),true,false,0⟩])) none) none)
noncomputable def pb4(x:List Pln)(y:Pln):List Pln:=I6 (one (r1L tP)) (Kb8 x y)
noncomputable def Pa9(x:List Pln)(y:Pln):Bool:=okO (one (r1L tP)) (Kb8 x y)
noncomputable def Ad2:Sum:=ga1 (G4 tP) (da1 tP) (λx y=>.guard (Pa9 x y) (.ret ((one (r1L tP)).enc (pb4 x y),[])))
theorem ue2:i7 prog G 192 Ad2:=La5 (bd kg5 ee1) (one (r1L tP)) (o:=Kb8) λx y=>w9 (by kernel_rfl)
noncomputable def Tc0:List (Nat×Sum):=[(73,dc8),(192,Ad2),(101,Kb0)]
theorem Jd5:i8 prog G Tc0:=⟨rc3,ue2,Pb7,trivial⟩
structure pa8 where
 y6:List Pln
structure E1 where
 ph:Nat
 Za1:List Pln
 is8:Int
 ns6:Nat
 eh0:List (List b8)
noncomputable def jc1(p:pa8)(s:E1):St:=⟨.unk::eL tP p.y6::ra 4 (.v (.slice none 0 0)::eL tP s.Za1::i s.is8::ra 34 []),[]⟩
noncomputable def jc2(p:pa8)(s:E1):St:=⟨.unk::eL tP p.y6::ra 4 (.sl 0 0 s.ns6 0::eL tP s.Za1::i s.is8::ra 34 []),[⟨24,1,s.eh0,true,false,0⟩]⟩
noncomputable def Ad3(p:pa8)(s:E1):St:=(sel (Nat.beq s.ph 1) (jc2 p s) (jc1 p s))
noncomputable def N9{α:Type}(k:E1->α)(e:Nat->α)(z:α)(p:pa8)(s:E1):α:=let t1:=(Ea0 (gL tP p.y6 s.is8.toNat));let t2:=(pb4 (rt tP s.Za1) t1);let t3:=(ha0 (rt tP t2));let t4:=(pb4 (rt tP s.Za1) (gL tP p.y6 s.is8.toNat));let t5:=(ha0 (rt tP t4));(sl (decide (s.is8<(↑(List.length p.y6):Int))) (sl (decide ((↑(List.length s.Za1):Int)>=48)) (e 1) (sl (inB s.is8 (List.length p.y6)) (sl (okE tP s.Za1) (sl (Pa9 (rt tP s.Za1) t1) (sl (okE tP t2) (sl (ma0 (rt tP t2)) (sl (decide ((↑(List.length t3):Int)>0)) (sl (inB s.is8 (List.length p.y6)) (sl (okE tP s.Za1) (sl (Pa9 (rt tP s.Za1) (gL tP p.y6 s.is8.toNat)) (sl (okE tP t4) (sl (ma0 (rt tP t4)) (k ⟨1,t5,W (s.is8+1),1,[[eL tP t3]]⟩) z) z) z) z) z) (sl (inB s.is8 (List.length p.y6)) (sl (okE tP s.Za1) (sl (Pa9 (rt tP s.Za1) (gL tP p.y6 s.is8.toNat)) (sl (okE tP t4) (sl (ma0 (rt tP t4)) (k ⟨0,t5,W (s.is8+1),0,[]⟩) z) z) z) z) z)) z) z) z) z) z)) (e 2))
noncomputable def O0{α:Type}(k:E1->α)(e:Nat->α)(z:α)(p:pa8)(s:E1):α:=let t1:=(Ea0 (gL tP p.y6 s.is8.toNat));let t2:=(pb4 (rt tP s.Za1) t1);let t3:=(ha0 (rt tP t2));let t4:=(pb4 (rt tP s.Za1) (gL tP p.y6 s.is8.toNat));let t5:=(ha0 (rt tP t4));(sl (decide (s.is8<(↑(List.length p.y6):Int))) (sl (decide ((↑(List.length s.Za1):Int)>=48)) (e 1) (sl (inB s.is8 (List.length p.y6)) (sl (okE tP s.Za1) (sl (Pa9 (rt tP s.Za1) t1) (sl (okE tP t2) (sl (ma0 (rt tP t2)) (sl (decide ((↑(List.length t3):Int)>0)) (sl (Nat.beq s.ns6 (len s.eh0)&&Nat.ble ((s.ns6+1)*24) room) (sl (inB s.is8 (List.length p.y6)) (sl (okE tP s.Za1) (sl (Pa9 (rt tP s.Za1) (gL tP p.y6 s.is8.toNat)) (sl (okE tP t4) (sl (ma0 (rt tP t4)) (k ⟨1,t5,W (s.is8+1),s.ns6+1,app s.eh0 [[eL tP t3]]⟩) z) z) z) z) z) z) (sl (inB s.is8 (List.length p.y6)) (sl (okE tP s.Za1) (sl (Pa9 (rt tP s.Za1) (gL tP p.y6 s.is8.toNat)) (sl (okE tP t4) (sl (ma0 (rt tP t4)) (k ⟨1,t5,W (s.is8+1),s.ns6,s.eh0⟩) z) z) z) z) z)) z) z) z) z) z)) (e 3))
noncomputable def ca6(p:pa8)(s:E1):Stp E1:=(sel (Nat.beq s.ph 1) (O0 .next .exit .fail p s) (N9 .next .exit .fail p s))
noncomputable def Vb5:Lo pa8 E1:=⟨En Tc0,0,Ef1,[1,1,1,0,1,4,4],[1,6,7,8],.p,[⟨sUq::sLq tP::ru2 4 (.s (.o .nil)::sLq tP::sIq::ru2 34 []),[],λa H=>(⟨aLq tP a 1⟩,⟨0,aLq tP a 7,aIq a 8,0,[]⟩)⟩,⟨sUq::sLq tP::ru2 4 (.s (.o (.sl 0 0 (some 0) none))::sLq tP::sIq::ru2 34 []),[⟨24,1,true,none⟩],λa H=>(⟨aLq tP a 1⟩,⟨1,aLq tP a 7,aIq a 8,slN (slT a 6),elT H 0⟩)⟩],ca6,[(none,λp s=>⟨[.tup [.v (.slice none 0 0),i 9]],[]⟩),(some 0,λp s=>upq (jc1 p s) [(11,i s.is8),(12,eL tP p.y6),(13,i (↑(List.length p.y6):Int)),(14,b (decide (s.is8<(↑(List.length p.y6):Int))))]),(some 0,λp s=>upq (jc2 p s) [(11,i s.is8),(12,eL tP p.y6),(13,i (↑(List.length p.y6):Int)),(14,b (decide (s.is8<(↑(List.length p.y6):Int))))])],Ad3⟩
theorem Ad4:Vb5.Ok:=Lo.ok [] (by kernel_rfl) .nil rfl (.cons (λa H=>by kernel_rfl) (.cons (λa H=>by kernel_rfl) .nil)) λp s=>(.sel (Nat.beq s.ph 1) (.of @O0 (λF _ _ _ _ _=>by unfold O0;(repeat' apply l5 (f:=F))<;>rfl) (by kernel_rfl)) (.of @N9 (λF _ _ _ _ _=>by unfold N9;(repeat' apply l5 (f:=F))<;>rfl) (by kernel_rfl)))
noncomputable def vb7(x:List Pln)(y:List Pln):Option (b8×List b9):=let t1:=(lp (ca6 (⟨rt tP y⟩:pa8)) (⟨0,rt tP x,0,0,[]⟩:E1));(sl ((cnE tP y)&&((cnE tP x)&&true)) (sl (Nat.beq t1.1 1) (some (.tup [.v (.slice none 0 0),i 9],[])) (sl (Nat.beq t1.1 2) (some (.tup [.v (.slice none 0 0),i 0],[])) (sl (Nat.beq t1.1 3) (some (.tup [.sl 0 0 t1.2.ns6 0,i 0],[⟨24,1,t1.2.eh0,true,false,0⟩])) none))) none)
noncomputable def Qa0(x:List Pln)(y:List Pln):List (List Pln)×Int:=I6 (two (r1L (tLs tP)) r1I) (vb7 x y)
noncomputable def Qb3(x:List Pln)(y:List Pln):Bool:=okO (two (r1L (tLs tP)) r1I) (vb7 x y)
noncomputable def ed6:Sum:=ga1 (G4 tP) (G4 tP) (λx y=>.guard (Qb3 x y) (.ret ((two (r1L (tLs tP)) r1I).enc (Qa0 x y),[])))
theorem ee2:i7 prog G 160 ed6:=La5 (bd ig5 Jd5) (two (r1L (tLs tP)) r1I) (o:=vb7) λx y=>ma5 (.s .p (.s .p (.s .p (.s (.s .p (.b (.u Vb5.ls))) .p)))) [Vb5.pr] (by kernel_rfl) (.cons Ad4 .nil) (by kernel_rfl)
noncomputable def uc2:List (Nat×Sum):=[(70,Gb7),(105,sc7),(101,Kb0),(160,ed6)]
theorem kd2:i8 prog G uc2:=⟨Pb1,Rc2,Pb7,ee2,trivial⟩
structure da7 where
 k8:List (List Pln)
 y6:List Pln
structure u9 where
 ph:Nat
 is7:Int
 ns6:Nat
 eh0:List (List b8)
noncomputable def Qb4(p:da7)(s:u9):St:=⟨eL (tLs tP) p.k8::eL tP p.y6::ra 4 (.v (.slice none 0 0)::i s.is7::ra 45 []),[]⟩
noncomputable def Qb5(p:da7)(s:u9):St:=⟨eL (tLs tP) p.k8::eL tP p.y6::ra 4 (.sl 0 0 s.ns6 0::i s.is7::ra 45 []),[⟨24,1,s.eh0,true,false,0⟩]⟩
noncomputable def ad3(p:da7)(s:u9):St:=(sel (Nat.beq s.ph 1) (Qb5 p s) (Qb4 p s))
noncomputable def A7{α:Type}(k:u9->α)(e:Nat->α)(z:α)(p:da7)(s:u9):α:=let t1:=(cb9 (rt tP (gL (tLs tP) p.k8 s.is7.toNat)) (rt tP p.y6));let t2:=(ha0 (rt tP p.y6));let t3:=(Qa0 (rt tP (gL (tLs tP) p.k8 s.is7.toNat)) (rt tP t2));(sl (decide (s.is7<(↑(List.length p.k8):Int))) (sl (inB s.is7 (List.length p.k8)) (sl (okE tP (gL (tLs tP) p.k8 s.is7.toNat)) (sl (okE tP p.y6) (sl (db0 (rt tP (gL (tLs tP) p.k8 s.is7.toNat)) (rt tP p.y6)) (sl t1 (sl (inB s.is7 (List.length p.k8)) (k ⟨1,W (s.is7+1),1,[[eL tP (gL (tLs tP) p.k8 s.is7.toNat)]]⟩) z) (sl (inB s.is7 (List.length p.k8)) (sl (okE tP p.y6) (sl (ma0 (rt tP p.y6)) (sl (okE tP (gL (tLs tP) p.k8 s.is7.toNat)) (sl (okE tP t2) (sl (Qb3 (rt tP (gL (tLs tP) p.k8 s.is7.toNat)) (rt tP t2)) (sl (t3.2 != 0) (e 1) (sl (Nat.beq (len (n9 (λk=>(tLs tP).row (gL (tLs tP) t3.1 k)) (List.range (List.length t3.1)))) 0) (k ⟨0,W (s.is7+1),0,[]⟩) (sl (Nat.ble ((len (n9 (λk=>(tLs tP).row (gL (tLs tP) t3.1 k)) (List.range (List.length t3.1))))*24) room) (k ⟨1,W (s.is7+1),(len (n9 (λk=>(tLs tP).row (gL (tLs tP) t3.1 k)) (List.range (List.length t3.1)))),(n9 (λk=>(tLs tP).row (gL (tLs tP) t3.1 k)) (List.range (List.length t3.1)))⟩) z))) z) z) z) z) z) z)) z) z) z) z) (e 2))
noncomputable def G7{α:Type}(k:u9->α)(e:Nat->α)(z:α)(p:da7)(s:u9):α:=let t1:=(cb9 (rt tP (gL (tLs tP) p.k8 s.is7.toNat)) (rt tP p.y6));let t2:=(ha0 (rt tP p.y6));let t3:=(Qa0 (rt tP (gL (tLs tP) p.k8 s.is7.toNat)) (rt tP t2));(sl (decide (s.is7<(↑(List.length p.k8):Int))) (sl (inB s.is7 (List.length p.k8)) (sl (okE tP (gL (tLs tP) p.k8 s.is7.toNat)) (sl (okE tP p.y6) (sl (db0 (rt tP (gL (tLs tP) p.k8 s.is7.toNat)) (rt tP p.y6)) (sl t1 (sl (inB s.is7 (List.length p.k8)) (sl (Nat.beq s.ns6 (len s.eh0)&&Nat.ble ((s.ns6+1)*24) room) (k ⟨1,W (s.is7+1),s.ns6+1,app s.eh0 [[eL tP (gL (tLs tP) p.k8 s.is7.toNat)]]⟩) z) z) (sl (inB s.is7 (List.length p.k8)) (sl (okE tP p.y6) (sl (ma0 (rt tP p.y6)) (sl (okE tP (gL (tLs tP) p.k8 s.is7.toNat)) (sl (okE tP t2) (sl (Qb3 (rt tP (gL (tLs tP) p.k8 s.is7.toNat)) (rt tP t2)) (sl (t3.2 != 0) (e 3) (sl (Nat.beq s.ns6 (len s.eh0)&&Nat.ble ((s.ns6+(len (n9 (λk=>(tLs tP).row (gL (tLs tP) t3.1 k)) (List.range (List.length t3.1)))))*24) room) (k ⟨1,W (s.is7+1),(s.ns6+(len (n9 (λk=>(tLs tP).row (gL (tLs tP) t3.1 k)) (List.range (List.length t3.1))))),(app s.eh0 (n9 (λk=>(tLs tP).row (gL (tLs tP) t3.1 k)) (List.range (List.length t3.1))))⟩) z)) z) z) z) z) z) z)) z) z) z) z) (e 4))
noncomputable def J5(p:da7)(s:u9):Stp u9:=(sel (Nat.beq s.ph 1) (G7 .next .exit .fail p s) (A7 .next .exit .fail p s))
noncomputable def zb2:Lo da7 u9:=⟨En uc2,0,Df1,[1,1,1,0,1,4,4],[0,1,6,7],.p,[⟨.s (.c 1 (nL (tLs tP)))::sLq tP::ru2 4 (.s (.o .nil)::sIq::ru2 45 []),[],λa H=>(⟨rL (tLs tP) (slT a 0),aLq tP a 1⟩,⟨0,aIq a 7,0,[]⟩)⟩,⟨.s (.c 1 (nL (tLs tP)))::sLq tP::ru2 4 (.s (.o (.sl 0 0 (some 0) none))::sIq::ru2 45 []),[⟨24,1,true,none⟩],λa H=>(⟨rL (tLs tP) (slT a 0),aLq tP a 1⟩,⟨1,aIq a 7,slN (slT a 6),elT H 0⟩)⟩],J5,[(none,λp s=>let t2:=(ha0 (rt tP p.y6));let t3:=(Qa0 (rt tP (gL (tLs tP) p.k8 s.is7.toNat)) (rt tP t2));⟨[.tup [.v (.slice none 0 0),i t3.2]],[]⟩),(some 0,λp s=>upq (Qb4 p s) [(14,i s.is7),(15,eL (tLs tP) p.k8),(16,i (↑(List.length p.k8):Int)),(17,b (decide (s.is7<(↑(List.length p.k8):Int))))]),(none,λp s=>let t2:=(ha0 (rt tP p.y6));let t3:=(Qa0 (rt tP (gL (tLs tP) p.k8 s.is7.toNat)) (rt tP t2));⟨[.tup [.v (.slice none 0 0),i t3.2]],[]⟩),(some 0,λp s=>upq (Qb5 p s) [(14,i s.is7),(15,eL (tLs tP) p.k8),(16,i (↑(List.length p.k8):Int)),(17,b (decide (s.is7<(↑(List.length p.k8):Int))))])],ad3⟩
theorem ad4:zb2.Ok:=Lo.ok [] (by kernel_rfl) .nil rfl (.cons (λa H=>by kernel_rfl) (.cons (λa H=>by kernel_rfl) .nil)) λp s=>(.sel (Nat.beq s.ph 1) (.of @G7 (λF _ _ _ _ _=>by unfold G7;(repeat' apply l5 (f:=F))<;>rfl) (by kernel_rfl)) (.of @A7 (λF _ _ _ _ _=>by unfold A7;(repeat' apply l5 (f:=F))<;>rfl) (by kernel_rfl)))
noncomputable def Ya7(x:List (List Pln))(y:List Pln):Option (b8×List b9):=let t1:=(Ma9 (rt tP y));let t2:=(lp (J5 (⟨rt (tLs tP) x,rt tP y⟩:da7)) (⟨0,0,0,[]⟩:u9));let t3:=(ha0 (rt tP (rt tP y)));let t4:=(Qa0 (rt tP (gL (tLs tP) (rt (tLs tP) x) t2.2.is7.toNat)) (rt tP t3));(sl (okE tP y) (sl (Na0 (rt tP y)) (sl (!t1) (some (.tup [eL (tLs tP) x,i 0],[])) (sl ((cnE (tLs tP) x)&&((cnE tP y)&&true)) (sl (Nat.beq t2.1 1) (some (.tup [.v (.slice none 0 0),i t4.2],[])) (sl (Nat.beq t2.1 2) (some (.tup [.v (.slice none 0 0),i 0],[])) (sl (Nat.beq t2.1 3) (some (.tup [.v (.slice none 0 0),i t4.2],[])) (sl (Nat.beq t2.1 4) (sl (decide ((↑t2.2.ns6:Int)>200)) (some (.tup [.v (.slice none 0 0),i 9],[])) (some (.tup [.sl 0 0 t2.2.ns6 0,i 0],[⟨24,1,t2.2.eh0,true,false,0⟩]))) none)))) none)) none) none)
noncomputable def J6(x:List (List Pln))(y:List Pln):List (List Pln)×Int:=I6 (two (r1L (tLs tP)) r1I) (Ya7 x y)
noncomputable def Ya8(x:List (List Pln))(y:List Pln):Bool:=okO (two (r1L (tLs tP)) r1I) (Ya7 x y)
noncomputable def Dc3:Sum:=ga1 (G4 (tLs tP)) (G4 tP) (λx y=>.guard (Ya8 x y) (.ret ((two (r1L (tLs tP)) r1I).enc (J6 x y),[])))
theorem Ad5:i7 prog G 102 Dc3:=La5 (bd eg8 kd2) (two (r1L (tLs tP)) r1I) (o:=Ya7) λx y=>ma5 (.s .p (.s .p (.s .p (.s (.s .p (.b (.u zb2.ls))) .p)))) [zb2.pr] (by kernel_rfl) (.cons ad4 .nil) (by kernel_rfl)
noncomputable def Tc1:List (Nat×Sum):=[(100,cb2),(50,Qb2),(70,Gb7),(101,Kb0),(102,Dc3)]
theorem Jd6:i8 prog G Tc1:=⟨fb5,gc0,Pb1,Pb7,Ad5,trivial⟩
structure V8 where
 A4:List (List Pln)
 f9:List Pln
structure w7 where
 ph:Nat
 is8:Int
 pa3:List (List Pln)
noncomputable def jc3(p:V8)(s:w7):St:=⟨.unk::eL (tLs tP) p.A4::ra 5 (.sl 0 0 1 0::i s.is8::ra 38 []),[⟨24,1,[[eL tP p.f9]],true,false,0⟩]⟩
noncomputable def jc4(p:V8)(s:w7):St:=⟨.unk::eL (tLs tP) p.A4::ra 5 (eL (tLs tP) s.pa3::i s.is8::ra 38 []),[]⟩
noncomputable def jc5(p:V8)(s:w7):St:=⟨.unk::eL (tLs tP) p.A4::ra 5 (.v (.slice none 0 0)::i s.is8::ra 38 []),[]⟩
noncomputable def Ad6(p:V8)(s:w7):St:=(sel (Nat.beq s.ph 2) (jc5 p s) (sel (Nat.beq s.ph 1) (jc4 p s) (jc3 p s)))
noncomputable def X7{α:Type}(k:w7->α)(e:Nat->α)(z:α)(p:V8)(s:w7):α:=let t1:=(J6 [rt tP p.f9] (rt tP (gL (tLs tP) p.A4 s.is8.toNat)));(sl (decide (s.is8<(↑(List.length p.A4):Int))) (sl (inB s.is8 (List.length p.A4)) (sl ((okE tP p.f9)&&true) (sl (okE tP (gL (tLs tP) p.A4 s.is8.toNat)) (sl (Ya8 [rt tP p.f9] (rt tP (gL (tLs tP) p.A4 s.is8.toNat))) (sl (t1.2 != 0) (e 1) (k ⟨1,W (s.is8+1),t1.1⟩)) z) z) z) z) (e 2))
noncomputable def G2{α:Type}(k:w7->α)(e:Nat->α)(z:α)(p:V8)(s:w7):α:=let t1:=(J6 (rt (tLs tP) s.pa3) (rt tP (gL (tLs tP) p.A4 s.is8.toNat)));(sl (decide (s.is8<(↑(List.length p.A4):Int))) (sl (inB s.is8 (List.length p.A4)) (sl (okE (tLs tP) s.pa3) (sl (okE tP (gL (tLs tP) p.A4 s.is8.toNat)) (sl (Ya8 (rt (tLs tP) s.pa3) (rt tP (gL (tLs tP) p.A4 s.is8.toNat))) (sl (t1.2 != 0) (e 3) (k ⟨1,W (s.is8+1),t1.1⟩)) z) z) z) z) (e 4))
noncomputable def ma3{α:Type}(k:w7->α)(e:Nat->α)(z:α)(p:V8)(s:w7):α:=let t1:=(J6 [] (rt tP (gL (tLs tP) p.A4 s.is8.toNat)));(sl (decide (s.is8<(↑(List.length p.A4):Int))) (sl (inB s.is8 (List.length p.A4)) (sl (okE tP (gL (tLs tP) p.A4 s.is8.toNat)) (sl (Ya8 [] (rt tP (gL (tLs tP) p.A4 s.is8.toNat))) (sl (t1.2 != 0) (e 5) (k ⟨1,W (s.is8+1),t1.1⟩)) z) z) z) (e 6))
noncomputable def G8(p:V8)(s:w7):Stp w7:=(sel (Nat.beq s.ph 2) (ma3 .next .exit .fail p s) (sel (Nat.beq s.ph 1) (G2 .next .exit .fail p s) (X7 .next .exit .fail p s)))
noncomputable def Vb6:Lo V8 w7:=⟨En Tc1,0,Sf4,[1,1,1,1,1,1,0,1,4,4],[1,7,8],.p,[⟨sUq::.s (.c 1 (nL (tLs tP)))::ru2 5 (.s (.o (.sl 0 0 (some 0) (some 1)))::sIq::ru2 38 []),[⟨24,1,true,some [[.c 4 (nL tP)]]⟩],λa H=>(⟨rL (tLs tP) (slT a 1),hLq tP H 0 0 0⟩,⟨0,aIq a 8,[]⟩)⟩,⟨sUq::.s (.c 1 (nL (tLs tP)))::ru2 5 (.s (.c 1 (nL (tLs tP)))::sIq::ru2 38 []),[],λa H=>(⟨rL (tLs tP) (slT a 1),[]⟩,⟨1,aIq a 8,rL (tLs tP) (slT a 7)⟩)⟩,⟨sUq::.s (.c 1 (nL (tLs tP)))::ru2 5 (.s (.o .nil)::sIq::ru2 38 []),[],λa H=>(⟨rL (tLs tP) (slT a 1),[]⟩,⟨2,aIq a 8,[]⟩)⟩],G8,[(none,λp s=>let t1:=(J6 [rt tP p.f9] (rt tP (gL (tLs tP) p.A4 s.is8.toNat)));⟨[.tup [.v (.slice none 0 0),i t1.2]],[]⟩),(some 0,λp s=>upq (jc3 p s) [(27,i s.is8),(28,eL (tLs tP) p.A4),(29,i (↑(List.length p.A4):Int)),(30,b (decide (s.is8<(↑(List.length p.A4):Int))))]),(none,λp s=>let t1:=(J6 (rt (tLs tP) s.pa3) (rt tP (gL (tLs tP) p.A4 s.is8.toNat)));⟨[.tup [.v (.slice none 0 0),i t1.2]],[]⟩),(some 0,λp s=>upq (jc4 p s) [(27,i s.is8),(28,eL (tLs tP) p.A4),(29,i (↑(List.length p.A4):Int)),(30,b (decide (s.is8<(↑(List.length p.A4):Int))))]),(none,λp s=>let t1:=(J6 [] (rt tP (gL (tLs tP) p.A4 s.is8.toNat)));⟨[.tup [.v (.slice none 0 0),i t1.2]],[]⟩),(some 0,λp s=>upq (jc5 p s) [(27,i s.is8),(28,eL (tLs tP) p.A4),(29,i (↑(List.length p.A4):Int)),(30,b (decide (s.is8<(↑(List.length p.A4):Int))))])],Ad6⟩
theorem Ad7:Vb6.Ok:=Lo.ok [] (by kernel_rfl) .nil rfl (.cons (λa H=>by kernel_rfl) (.cons (λa H=>by kernel_rfl) (.cons (λa H=>by kernel_rfl) .nil))) λp s=>(.sel (Nat.beq s.ph 2) (.of @ma3 (λF _ _ _ _ _=>by unfold ma3;(repeat' apply l5 (f:=F))<;>rfl) (by kernel_rfl)) (.sel (Nat.beq s.ph 1) (.of @G2 (λF _ _ _ _ _=>by unfold G2;(repeat' apply l5 (f:=F))<;>rfl) (by kernel_rfl)) (.of @X7 (λF _ _ _ _ _=>by unfold X7;(repeat' apply l5 (f:=F))<;>rfl) (by kernel_rfl))))
noncomputable def vb8(x:List Pln)(y:List (List Pln)):Option (b8×List b9):=let t1:=(ja2 (rt tP x));let t2:=(Pa7 (rt (tLs tP) y));let t3:=(Ma9 (rt tP x));let t4:=(ha0 (rt tP x));let t5:=(lp (G8 (⟨rt (tLs tP) y,rt tP t4⟩:V8)) (⟨0,0,[]⟩:w7));let t6:=(J6 [rt tP (rt tP t4)] (rt tP (gL (tLs tP) (rt (tLs tP) y) t5.2.is8.toNat)));let t7:=(J6 (rt (tLs tP) t5.2.pa3) (rt tP (gL (tLs tP) (rt (tLs tP) y) t5.2.is8.toNat)));let t8:=(J6 [] (rt tP (gL (tLs tP) (rt (tLs tP) y) t5.2.is8.toNat)));let t9:=(lp (G8 (⟨rt (tLs tP) y,[]⟩:V8)) (⟨2,0,[]⟩:w7));let t10:=(J6 [rt tP []] (rt tP (gL (tLs tP) (rt (tLs tP) y) t9.2.is8.toNat)));let t11:=(J6 (rt (tLs tP) t9.2.pa3) (rt tP (gL (tLs tP) (rt (tLs tP) y) t9.2.is8.toNat)));let t12:=(J6 [] (rt tP (gL (tLs tP) (rt (tLs tP) y) t9.2.is8.toNat)));let w0:Option (b8×List b9):=(sl (okE tP x) (sl (Na0 (rt tP x)) (sl t3 (sl (okE tP x) (sl (ma0 (rt tP x)) (sl ((cnE (tLs tP) y)&&((cnE tP t4)&&true)) (sl (Nat.beq t5.1 1) (some (.tup [.v (.slice none 0 0),i t6.2],[])) (sl (Nat.beq t5.1 2) (some (.tup [.sl 0 0 1 0,i 0],[⟨24,1,[[eL tP (rt tP t4)]],true,false,0⟩])) (sl (Nat.beq t5.1 3) (some (.tup [.v (.slice none 0 0),i t7.2],[])) (sl (Nat.beq t5.1 4) (some (.tup [eL (tLs tP) t5.2.pa3,i 0],[])) (sl (Nat.beq t5.1 5) (some (.tup [.v (.slice none 0 0),i t8.2],[])) (sl (Nat.beq t5.1 6) (some (.tup [.v (.slice none 0 0),i 0],[])) none)))))) none) none) none) (sl ((cnE (tLs tP) y)&&true) (sl (Nat.beq t9.1 1) (some (.tup [.v (.slice none 0 0),i t10.2],[])) (sl (Nat.beq t9.1 2) (some (.tup [.sl 0 0 1 0,i 0],[⟨24,1,[[eL tP []]],true,false,0⟩])) (sl (Nat.beq t9.1 3) (some (.tup [.v (.slice none 0 0),i t11.2],[])) (sl (Nat.beq t9.1 4) (some (.tup [eL (tLs tP) t9.2.pa3,i 0],[])) (sl (Nat.beq t9.1 5) (some (.tup [.v (.slice none 0 0),i t12.2],[])) (sl (Nat.beq t9.1 6) (some (.tup [.v (.slice none 0 0),i 0],[])) none)))))) none)) none) none);(sl (okE tP x) (sl (va2 (rt tP x)) (sl (t1==0) (sl (okE (tLs tP) y) (sl (Pa8 (rt (tLs tP) y)) (sl (t2 != 0) (some (.tup [.v (.slice none 0 0),i t2],[])) w0) none) none) (sl (t1 != 0) (some (.tup [.v (.slice none 0 0),i t1],[])) w0)) none) none)
noncomputable def Qb6(x:List Pln)(y:List (List Pln)):List (List Pln)×Int:=I6 (two (r1L (tLs tP)) r1I) (vb8 x y)
noncomputable def Qb7(x:List Pln)(y:List (List Pln)):Bool:=okO (two (r1L (tLs tP)) r1I) (vb8 x y)
noncomputable def uc3:Sum:=ga1 (G4 tP) (G4 (tLs tP)) (λx y=>.guard (Qb7 x y) (.ret ((two (r1L (tLs tP)) r1I).enc (Qb6 x y),[])))
theorem Tc2:i7 prog G 41 uc3:=La5 (bd b41 Jd6) (two (r1L (tLs tP)) r1I) (o:=vb8) λx y=>ma5 (.s .p (.s .p (.s .p (.s .p (.s .p (.s .p (.s (.s .p (.b (.u Vb6.ls))) .p))))))) [Vb6.pr] (by kernel_rfl) (.cons Ad7 .nil) (by kernel_rfl)
noncomputable def Jd7:List (Nat×Sum):=[(41,uc3)]
theorem Ad8:i8 prog G Jd7:=⟨Tc2,trivial⟩
noncomputable def jb9(x:List (List Pln))(y:List Pln):Option (b8×List b9):=let t1:=(Qb6 (rt tP y) (rt (tLs tP) x));(sl (okE tP y) (sl (okE (tLs tP) x) (sl (Qb7 (rt tP y) (rt (tLs tP) x)) (sl (t1.2==0) (some (.tup [b ((↑(List.length t1.1):Int)==0),i t1.2],[])) (some (.tup [b false,i t1.2],[]))) none) none) none)
noncomputable def Ea5(x:List (List Pln))(y:List Pln):Bool×Int:=I6 (two r1B r1I) (jb9 x y)
noncomputable def kb0(x:List (List Pln))(y:List Pln):Bool:=okO (two r1B r1I) (jb9 x y)
noncomputable def gc1:Sum:=ga1 (G4 (tLs tP)) (G4 tP) (λx y=>.guard (kb0 x y) (.ret ((two r1B r1I).enc (Ea5 x y),[])))
theorem Dc4:i7 prog G 43 gc1:=La5 (bd b43 Ad8) (two r1B r1I) (o:=jb9) λx y=>w9 (by kernel_rfl)
noncomputable def Tc3:List (Nat×Sum):=[(105,sc7)]
theorem Jd8:i8 prog G Tc3:=⟨Rc2,trivial⟩
structure Ya9 where
 d7:List Pln
 A4:List (List Pln)
structure ja0 where
 is5:Int
noncomputable def uc4(p:Ya9)(s:ja0):St:=⟨eL tP p.d7::eL (tLs tP) p.A4::ra 3 (i s.is5::ra 13 []),[]⟩
noncomputable def Ha8{α:Type}(k:ja0->α)(e:Nat->α)(z:α)(p:Ya9)(s:ja0):α:=let t1:=(cb9 (rt tP p.d7) (rt tP (gL (tLs tP) p.A4 s.is5.toNat)));(sl (decide (s.is5<(↑(List.length p.A4):Int))) (sl (inB s.is5 (List.length p.A4)) (sl (okE tP p.d7) (sl (okE tP (gL (tLs tP) p.A4 s.is5.toNat)) (sl (db0 (rt tP p.d7) (rt tP (gL (tLs tP) p.A4 s.is5.toNat))) (sl (!t1) (e 1) (k ⟨W (s.is5+1)⟩)) z) z) z) z) (e 2))
noncomputable def Qa1(p:Ya9)(s:ja0):Stp ja0:=Ha8 .next .exit .fail p s
noncomputable def Vb7:Lo Ya9 ja0:=⟨En Tc3,0,Sf6,[1,0,1,4,4],[0,1,5],.p,[⟨sLq tP::.s (.c 1 (nL (tLs tP)))::ru2 3 (sIq::ru2 13 []),[],λa H=>(⟨aLq tP a 0,rL (tLs tP) (slT a 1)⟩,⟨aIq a 5⟩)⟩],Qa1,[(none,λp s=>⟨[b false],[]⟩),(some 0,λp s=>upq (uc4 p s) [(6,i s.is5),(7,eL (tLs tP) p.A4),(8,i (↑(List.length p.A4):Int)),(9,b (decide (s.is5<(↑(List.length p.A4):Int))))])],uc4⟩
theorem Ad9:Vb7.Ok:=Lo.ok [] (by kernel_rfl) .nil rfl (.cons (λa H=>by kernel_rfl) .nil) λp s=>(.of @Ha8 (λF _ _ _ _ _=>by unfold Ha8;(repeat' apply l5 (f:=F))<;>rfl) (by kernel_rfl))
noncomputable def vb9(x:List Pln)(y:List (List Pln)):Option (b8×List b9):=let t1:=(lp (Qa1 (⟨rt tP x,rt (tLs tP) y⟩:Ya9)) (⟨0⟩:ja0));(sl ((cnE tP x)&&((cnE (tLs tP) y)&&true)) (sl (Nat.beq t1.1 1) (some (b false,[])) (sl (Nat.beq t1.1 2) (some (b true,[])) none)) none)
noncomputable def Qb8(x:List Pln)(y:List (List Pln)):Bool:=I6 (one r1B) (vb9 x y)
noncomputable def Qb9(x:List Pln)(y:List (List Pln)):Bool:=okO (one r1B) (vb9 x y)
noncomputable def ed7:Sum:=ga1 (G4 tP) (G4 (tLs tP)) (λx y=>.guard (Qb9 x y) (.ret ((one r1B).enc (Qb8 x y),[])))
theorem ee3:i7 prog G 46 ed7:=La5 (bd b46 Jd8) (one r1B) (o:=vb9) λx y=>ma5 (.s .p (.s (.s .p (.b (.u Vb7.ls))) .p)) [Vb7.pr] (by kernel_rfl) (.cons Ad9 .nil) (by kernel_rfl)
noncomputable def Dc5:List (Nat×Sum):=[(43,gc1)]
theorem Bd0:i8 prog G Dc5:=⟨Dc4,trivial⟩
structure Qa2 where
 (k8 A4:List (List Pln))
structure ca7 where
 is6:Int
noncomputable def jc6(p:Qa2)(s:ca7):St:=⟨eL (tLs tP) p.k8::eL (tLs tP) p.A4::ra 4 (i s.is6::ra 24 []),[]⟩
noncomputable def Ba8{α:Type}(k:ca7->α)(e:Nat->α)(z:α)(p:Qa2)(s:ca7):α:=let t1:=(Ea5 (rt (tLs tP) p.A4) (rt tP (gL (tLs tP) p.k8 s.is6.toNat)));(sl (decide (s.is6<(↑(List.length p.k8):Int))) (sl (inB s.is6 (List.length p.k8)) (sl (okE (tLs tP) p.A4) (sl (okE tP (gL (tLs tP) p.k8 s.is6.toNat)) (sl (kb0 (rt (tLs tP) p.A4) (rt tP (gL (tLs tP) p.k8 s.is6.toNat))) (sl (t1.2 != 0) (e 1) (sl (!t1.1) (e 1) (k ⟨W (s.is6+1)⟩))) z) z) z) z) (e 2))
noncomputable def Ha9(p:Qa2)(s:ca7):Stp ca7:=Ba8 .next .exit .fail p s
noncomputable def Kb9:Lo Qa2 ca7:=⟨En Dc5,0,Df2,[1,0,1,4,4],[0,1,6],.p,[⟨.s (.c 1 (nL (tLs tP)))::.s (.c 1 (nL (tLs tP)))::ru2 4 (sIq::ru2 24 []),[],λa H=>(⟨rL (tLs tP) (slT a 0),rL (tLs tP) (slT a 1)⟩,⟨aIq a 6⟩)⟩],Ha9,[(none,λp s=>let t1:=(Ea5 (rt (tLs tP) p.A4) (rt tP (gL (tLs tP) p.k8 s.is6.toNat)));⟨[.tup [b false,i t1.2]],[]⟩),(some 0,λp s=>upq (jc6 p s) [(9,i s.is6),(10,eL (tLs tP) p.k8),(11,i (↑(List.length p.k8):Int)),(12,b (decide (s.is6<(↑(List.length p.k8):Int))))])],jc6⟩
theorem kd3:Kb9.Ok:=Lo.ok [] (by kernel_rfl) .nil rfl (.cons (λa H=>by kernel_rfl) .nil) λp s=>(.of @Ba8 (λF _ _ _ _ _=>by unfold Ba8;(repeat' apply l5 (f:=F))<;>rfl) (by kernel_rfl))
noncomputable def kb1(x:List (List Pln))(y:List (List Pln)):Option (b8×List b9):=let t1:=(lp (Ha9 (⟨rt (tLs tP) x,rt (tLs tP) y⟩:Qa2)) (⟨0⟩:ca7));let t2:=(Ea5 (rt (tLs tP) (rt (tLs tP) y)) (rt tP (gL (tLs tP) (rt (tLs tP) x) t1.2.is6.toNat)));(sl ((cnE (tLs tP) x)&&((cnE (tLs tP) y)&&true)) (sl (Nat.beq t1.1 1) (some (.tup [b false,i t2.2],[])) (sl (Nat.beq t1.1 2) (some (.tup [b true,i 0],[])) none)) none)
noncomputable def kb2(x:List (List Pln))(y:List (List Pln)):Bool×Int:=I6 (two r1B r1I) (kb1 x y)
noncomputable def kb3(x:List (List Pln))(y:List (List Pln)):Bool:=okO (two r1B r1I) (kb1 x y)
noncomputable def Tc4:Sum:=ga1 (G4 (tLs tP)) (G4 (tLs tP)) (λx y=>.guard (kb3 x y) (.ret ((two r1B r1I).enc (kb2 x y),[])))
theorem Jd9:i7 prog G 106 Tc4:=La5 (bd fg1 Bd0) (two r1B r1I) (o:=kb1) λx y=>ma5 (.s .p (.s (.s .p (.b (.u Kb9.ls))) .p)) [Kb9.pr] (by kernel_rfl) (.cons kd3 .nil) (by kernel_rfl)
noncomputable def ue3:List (Nat×Sum):=[(50,Qb2),(106,Tc4)]
theorem ee4:i8 prog G ue3:=⟨gc0,Jd9,trivial⟩
noncomputable def Lb0(x:List (List Pln))(y:List (List Pln)):Option (b8×List b9):=let t1:=(Pa7 (rt (tLs tP) x));let t2:=(Pa7 (rt (tLs tP) y));let t3:=(kb2 (rt (tLs tP) x) (rt (tLs tP) y));let t4:=(kb2 (rt (tLs tP) y) (rt (tLs tP) x));let w0:Option (b8×List b9):=(sl (okE (tLs tP) x) (sl (okE (tLs tP) y) (sl (kb3 (rt (tLs tP) x) (rt (tLs tP) y)) (sl (t3.2 != 0) (some (.tup [b false,i t3.2],[])) (sl (!t3.1) (some (.tup [b false,i t3.2],[])) (sl (okE (tLs tP) y) (sl (okE (tLs tP) x) (sl (kb3 (rt (tLs tP) y) (rt (tLs tP) x)) (some (.tup [b t4.1,i t4.2],[])) none) none) none))) none) none) none);(sl (okE (tLs tP) x) (sl (Pa8 (rt (tLs tP) x)) (sl (t1==0) (sl (okE (tLs tP) y) (sl (Pa8 (rt (tLs tP) y)) (sl (t2 != 0) (some (.tup [b false,i t2],[])) w0) none) none) (sl (t1 != 0) (some (.tup [b false,i t1],[])) w0)) none) none)
noncomputable def gc2(x:List (List Pln))(y:List (List Pln)):Bool×Int:=I6 (two r1B r1I) (Lb0 x y)
noncomputable def gc3(x:List (List Pln))(y:List (List Pln)):Bool:=okO (two r1B r1I) (Lb0 x y)
noncomputable def Bd1:Sum:=ga1 (G4 (tLs tP)) (G4 (tLs tP)) (λx y=>.guard (gc3 x y) (.ret ((two r1B r1I).enc (gc2 x y),[])))
theorem ue4:i7 prog G 48 Bd1:=La5 (bd b48 ee4) (two r1B r1I) (o:=Lb0) λx y=>w9 (by kernel_rfl)
noncomputable def jc7:List (Nat×Sum):=[(23,Ic0)]
theorem ad5:i8 prog G jc7:=⟨ed0,trivial⟩
structure Ba9 where
 (k8 A4:List (List Pln))
structure T7 where
 is5:Int
noncomputable def Rb0(p:Ba9)(s:T7):St:=⟨eL (tLs tP) p.k8::eL (tLs tP) p.A4::ra 3 (i s.is5::ra 21 []),[]⟩
noncomputable def sa3{α:Type}(k:T7->α)(e:Nat->α)(z:α)(p:Ba9)(s:T7):α:=let t1:=(Ib5 (rt tP (gL (tLs tP) p.k8 s.is5.toNat)) (rt tP (gL (tLs tP) p.A4 s.is5.toNat)));(sl (decide (s.is5<(↑(List.length p.k8):Int))) (sl (inB s.is5 (List.length p.k8)) (sl (inB s.is5 (List.length p.A4)) (sl (okE tP (gL (tLs tP) p.k8 s.is5.toNat)) (sl (okE tP (gL (tLs tP) p.A4 s.is5.toNat)) (sl (Ib6 (rt tP (gL (tLs tP) p.k8 s.is5.toNat)) (rt tP (gL (tLs tP) p.A4 s.is5.toNat))) (sl (!t1) (e 1) (k ⟨W (s.is5+1)⟩)) z) z) z) z) z) (e 2))
noncomputable def wa8(p:Ba9)(s:T7):Stp T7:=sa3 .next .exit .fail p s
noncomputable def pb5:Lo Ba9 T7:=⟨En jc7,0,Sf5,[1,1,0,1,4,4],[0,1,5],.p,[⟨.s (.c 1 (nL (tLs tP)))::.s (.c 1 (nL (tLs tP)))::ru2 3 (sIq::ru2 21 []),[],λa H=>(⟨rL (tLs tP) (slT a 0),rL (tLs tP) (slT a 1)⟩,⟨aIq a 5⟩)⟩],wa8,[(none,λp s=>⟨[b false],[]⟩),(some 0,λp s=>upq (Rb0 p s) [(11,i s.is5),(12,eL (tLs tP) p.k8),(13,i (↑(List.length p.k8):Int)),(14,b (decide (s.is5<(↑(List.length p.k8):Int))))])],Rb0⟩
theorem Tc5:pb5.Ok:=Lo.ok [] (by kernel_rfl) .nil rfl (.cons (λa H=>by kernel_rfl) .nil) λp s=>(.of @sa3 (λF _ _ _ _ _=>by unfold sa3;(repeat' apply l5 (f:=F))<;>rfl) (by kernel_rfl))
noncomputable def Qa3(x:List (List Pln))(y:List (List Pln)):Option (b8×List b9):=let t1:=(lp (wa8 (⟨rt (tLs tP) x,rt (tLs tP) y⟩:Ba9)) (⟨0⟩:T7));(sl ((↑(List.length x):Int) != (↑(List.length y):Int)) (some (b false,[])) (sl ((cnE (tLs tP) x)&&((cnE (tLs tP) y)&&true)) (sl (Nat.beq t1.1 1) (some (b false,[])) (sl (Nat.beq t1.1 2) (some (b true,[])) none)) none))
noncomputable def kb4(x:List (List Pln))(y:List (List Pln)):Bool:=I6 (one r1B) (Qa3 x y)
noncomputable def kb5(x:List (List Pln))(y:List (List Pln)):Bool:=okO (one r1B) (Qa3 x y)
noncomputable def uc5:Sum:=ga1 (G4 (tLs tP)) (G4 (tLs tP)) (λx y=>.guard (kb5 x y) (.ret ((one r1B).enc (kb4 x y),[])))
theorem kd4:i7 prog G 44 uc5:=La5 (bd b44 ad5) (one r1B) (o:=Qa3) λx y=>ma5 (.s .p (.s .p (.s (.s .p (.b (.u pb5.ls))) .p))) [pb5.pr] (by kernel_rfl) (.cons Tc5 .nil) (by kernel_rfl)
theorem Me2(x:List Pln)(y:Pln)(hx:x.length<=1000000):Rd (one (r1L tP)) (Kb8 x y) (λr=>r=x++[y]):=by
 unfold Kb8;have ea:app (bL tP x) [[i y.n.x,i y.n.y,i y.n.z,i y.b]]=bL tP (x++[y]):=Ib7 x y.n.x y.n.y y.n.z y.b;have e0:∀l:List (List b8),app [] l=l:=λ_=>rfl
 have r1:Nat.ble (x.length*32) room=true:=Qlh (by unfold room;omega)
 have r2:Nat.ble ((x.length+1)*32) room=true:=Qlh (by unfold room;omega)
 simp only[Fa1,e0,H7,Qlaa,ea,r1,r2,Qlr,Qld,f0,show Nat.beq 0 0=true from rfl]
 refine⟨_,x++[y],rfl,?_,rfl⟩
 have:=De2 tP 73 (x++[y])
 rw[Qla] at this;exact this
theorem lf4{x:List Pln}{y:Pln}(hx:x.length<=1000000):pb4 x y=x++[y]:=(Me2 x y hx).p
theorem lf5{x:List Pln}{y:Pln}(hx:x.length<=1000000):Pa9 x y=true:=(Me2 x y hx).g
noncomputable def gc4(x fs:List Pln):List (List Pln)×Int:=if Z4 x fs then (ia8 x fs fs.length,0) else ([],9)
theorem Ee6 (x fs : List Pln) (hf : ∀ p ∈ fs, okp p = true) (hfl : fs.length ≤ 1000) :
  ∃t s,lp (ca6 ⟨fs⟩) ⟨0,x,0,0,[]⟩=(t,s) /\
   ((Z4 x fs=true->t=phL (ia8 x fs fs.length)+2/\s.ns6=(ia8 x fs fs.length).length/\s.eh0=bL (tLs tP) (ia8 x fs fs.length))/\(Z4 x fs=false->t=1)):=by
 refine S8 (step:=ca6 ⟨fs⟩) (mk:=λj (O':List (List Pln))=>(⟨phL O',C5 x fs j,(j:Int),O'.length,bL (tLs tP) O'⟩:E1)) fs.length
  (λj O'=>j<=fs.length/\O'=ia8 x fs j/\∀i,i<j->(C5 x fs i).length<48)
  (λt s=>(Z4 x fs=true->t=phL (ia8 x fs fs.length)+2/\s.ns6=(ia8 x fs fs.length).length/\s.eh0=bL (tLs tP) (ia8 x fs fs.length))/\(Z4 x fs=false->t=1)) (by omega)
  (λj O' hj hi=>?_) (λj O' hj hi=>?_) 0 [] ⟨Qlb _,by simp[ia8],λi hi=>absurd hi (Nat.not_lt_zero i)⟩
 ·obtain⟨_,hO',hr⟩:=hi;have hn:W ((j:Int)+1)=((j+1:Nat):Int):=n8 hj (by omega)
  have hp:=hf _ (Y0 tP hj);have hb:=rc1 hp;have hOl:O'.length<=1000000:=by
   rw[hO']
   have:=Sc6 x fs j
   omega
  have hroom:=zd3 O' hOl;by_cases h48:(C5 x fs j).length<48
  ·have e1:decide (((C5 x fs j).length:Int)>=48)=false:=decide_eq_false (by omega)
   have w1:=lf4 (x:=C5 x fs j) (y:=Ca2 (gL tP fs j)) (by omega)
   have w2:=lf5 (x:=C5 x fs j) (y:=Ca2 (gL tP fs j)) (by omega)
   have w3:=lf4 (x:=C5 x fs j) (y:=gL tP fs j) (by omega)
   have w4:=lf5 (x:=C5 x fs j) (y:=gL tP fs j) (by omega)
   have k1:=yc3 (C5 x fs j++[Ca2 (gL tP fs j)]) (by rw[Qla];simp only[List.length_singleton];omega)
   have k2:=Rc8 (C5 x fs j++[Ca2 (gL tP fs j)]) (by rw[Qla];simp only[List.length_singleton];omega)
   have k3:=yc3 (C5 x fs j++[gL tP fs j]) (by rw[Qla];simp only[List.length_singleton];omega)
   have k4:=Rc8 (C5 x fs j++[gL tP fs j]) (by rw[Qla];simp only[List.length_singleton];omega)
   have m1:lean (C5 x fs j++[Ca2 (gL tP fs j)])=db6 x fs j:=rfl;have m2:lean (C5 x fs j++[gL tP fs j])=C5 x fs (j+1):=rfl;have hnew:ia8 x fs (j+1)=O'++(if 0<(db6 x fs j).length then [db6 x fs j] else []):=by rw[Rd5,<- hO']
   have hnx : ∀ {s : E1}, s = ⟨phL (ia8 x fs (j + 1)), C5 x fs (j + 1), ((j + 1 : Nat) : Int), (ia8 x fs (j + 1)).length, bL (tLs tP) (ia8 x fs (j + 1))⟩ →
     Nx (.next s) (λt=>(Z4 x fs=true->t=phL (ia8 x fs fs.length)+2/\(⟨phL O',C5 x fs j,(j:Int),O'.length,bL (tLs tP) O'⟩:E1).ns6=(ia8 x fs fs.length).length/\(⟨phL O',C5 x fs j,(j:Int),O'.length,bL (tLs tP) O'⟩:E1).eh0=bL (tLs tP) (ia8 x fs fs.length))/\(Z4 x fs=false->t=1))
      (λs=>∃O'',s=(⟨phL O'',C5 x fs (j+1),((j+1:Nat):Int),O''.length,bL (tLs tP) O''⟩:E1)/\(j+1<=fs.length/\O''=ia8 x fs (j+1)/\∀i,i<j+1->(C5 x fs i).length<48)) :=
    λ{s} hs=>.nx ⟨_,hs,hj,rfl,λi hi=>by
     by_cases e:i=j
     ·subst e;exact h48
     ·exact hr i (by omega)⟩
   by_cases hc:0<(db6 x fs j).length
   ·have e2:decide (((db6 x fs j).length:Int)>0)=true:=decide_eq_true (by omega)
    rw[if_pos hc] at hnew;cases O' with
    |nil =>
     have e:ca6 ⟨fs⟩ ⟨phL [],C5 x fs j,(j:Int),([]:List (List Pln)).length,bL (tLs tP) []⟩=.next ⟨1,C5 x fs (j+1),((j+1:Nat):Int),1,[[eL tP (db6 x fs j)]]⟩:=by
      show N9 Stp.next Stp.exit Stp.fail _ _=_;simp only[N9,Int.toNat_natCast,i5,j9,tc4 hb,w1,w2,w3,w4,k1,k2,k3,k4,hn,m1,m2,e1,e2,f0,p7];rw[btD (g9 hj),bt (d9 hj),bt (d9 hj)]
     rw[e];exact hnx (by rw[hnew];rfl)
    |cons o os =>
     have e:ca6 ⟨fs⟩ ⟨phL (o::os),C5 x fs j,(j:Int),(o::os).length,bL (tLs tP) (o::os)⟩=.next ⟨1,C5 x fs (j+1),((j+1:Nat):Int),(o::os).length+1,bL (tLs tP) (o::os++[db6 x fs j])⟩:=by
      show O0 Stp.next Stp.exit Stp.fail _ _=_;simp only[O0,Int.toNat_natCast,i5,j9,tc4 hb,w1,w2,w3,w4,k1,k2,k3,k4,hn,m1,m2,e1,e2,hroom,te5,f0,p7];rw[btD (g9 hj),bt (d9 hj),bt (d9 hj)]
     rw[e];exact hnx (by rw[hnew,Sc5,Qla];rfl)
   ·have e2:decide (((db6 x fs j).length:Int)>0)=false:=decide_eq_false (by omega)
    rw[if_neg hc,Qlab] at hnew;cases O' with
    |nil =>
     have e:ca6 ⟨fs⟩ ⟨phL [],C5 x fs j,(j:Int),([]:List (List Pln)).length,bL (tLs tP) []⟩=.next ⟨0,C5 x fs (j+1),((j+1:Nat):Int),0,[]⟩:=by
      show N9 Stp.next Stp.exit Stp.fail _ _=_;simp only[N9,Int.toNat_natCast,i5,j9,tc4 hb,w1,w2,w3,w4,k1,k2,k3,k4,hn,m1,m2,e1,e2,f0,p7];rw[btD (g9 hj),bt (d9 hj),bt (d9 hj)]
     rw[e];exact hnx (by rw[hnew];rfl)
    |cons o os =>
     have e:ca6 ⟨fs⟩ ⟨phL (o::os),C5 x fs j,(j:Int),(o::os).length,bL (tLs tP) (o::os)⟩=.next ⟨1,C5 x fs (j+1),((j+1:Nat):Int),(o::os).length,bL (tLs tP) (o::os)⟩:=by
      show O0 Stp.next Stp.exit Stp.fail _ _=_;simp only[O0,Int.toNat_natCast,i5,j9,tc4 hb,w1,w2,w3,w4,k1,k2,k3,k4,hn,m1,m2,e1,e2,f0,p7];rw[btD (g9 hj),bt (d9 hj),bt (d9 hj)]
     rw[e];exact hnx (by rw[hnew];rfl)
  ·have e1:decide (((C5 x fs j).length:Int)>=48)=true:=decide_eq_true (by omega)
   have hno:Z4 x fs=false:=by
    cases h:Z4 x fs with
    |false=>rfl
    |true =>
     have:=Qlj.1 h j (Qlad.2 hj)
     exact absurd (by simpa using this) h48
   have e:ca6 ⟨fs⟩ ⟨phL O',C5 x fs j,(j:Int),O'.length,bL (tLs tP) O'⟩=.exit 1:=by
    cases O' with
    |nil =>
     show N9 Stp.next Stp.exit Stp.fail _ _=_;simp only[N9,e1,f0];rw[btD (g9 hj)]
    |cons o os =>
     show O0 Stp.next Stp.exit Stp.fail _ _=_;simp only[O0,e1,f0];rw[btD (g9 hj)]
   rw[e];exact .ex ⟨λh'=>(by rw[hno] at h';cases h'),λ_=>rfl⟩
 ·obtain⟨h1,hO',hr⟩:=hi;have hje:j=fs.length:=by omega
  subst hje;have hyes:Z4 x fs=true:=Qlj.2 λi hi=>by simpa using hr i (Qlad.1 hi)
  refine⟨phL O'+2,?_,λ_=>?_,λh=>(by rw[hyes] at h;cases h)⟩
  ·cases O' with
   |nil =>
    show N9 Stp.next Stp.exit Stp.fail _ _=_;simp only[N9];rw[bfD (l0 (Qlc _))];rfl
   |cons o os =>
    show O0 Stp.next Stp.exit Stp.fail _ _=_;simp only[O0];rw[bfD (l0 (Qlc _))];rfl
  ·rw[<- hO'];exact⟨rfl,rfl,rfl⟩
theorem ue5(x fs:List Pln)(hf:∀p∈fs,okp p=true)(hfl:fs.length<=1000):Rd (two (r1L (tLs tP)) r1I) (vb7 x fs) (λr=>r=gc4 x fs):=by
 obtain⟨t,s,h,hy,hn⟩:=Ee6 x fs hf hfl;unfold vb7 gc4;simp only[i5,i9,h,Qld,f0];cases hr:Z4 x fs with
 |false =>
  obtain rfl:=hn hr;exact⟨_,([],9),rfl,rfl,rfl⟩
 |true =>
  obtain⟨rfl,h2,h3⟩:=hy hr;rw[if_pos rfl,h2,h3];cases hO:ia8 x fs fs.length with
  |nil=>exact⟨_,([],0),rfl,rfl,rfl⟩
  |cons o os=>exact⟨_,(o::os,0),rfl,Le9 (tLs tP) 24 (o::os) 0,rfl⟩
theorem Me3{x fs:List Pln}(hf:∀p∈fs,okp p=true)(hfl:fs.length<=1000):Qa0 x fs=gc4 x fs:=(ue5 x fs hf hfl).p
theorem zf4{x fs:List Pln}(hf:∀p∈fs,okp p=true)(hfl:fs.length<=1000):Qb3 x fs=true:=(ue5 x fs hf hfl).g
theorem Of6(O N:List (List Pln)):app (bL (tLs tP) O) (bL (tLs tP) N)=bL (tLs tP) (O++N):=Da3 (tLs tP) O N
structure RW(q:List Pln)(xs:List (List Pln))(t:Nat)(s:u9):Prop where
 y:xs.all (ta4 q)=true->t=phL (xs.flatMap (ua3 q))*2+2/\s.ns6=(xs.flatMap (ua3 q)).length/\s.eh0=bL (tLs tP) (xs.flatMap (ua3 q))
 n:xs.all (ta4 q)=false->(t=1\/t=3)/\∃j,s.is7=((j:Nat):Int)/\gc4 (gL (tLs tP) xs j) (lean q)=([],9)
theorem zf5 (q : List Pln) (xs : List (List Pln)) (hq : q.length ≤ 1000000) (hxs : xs.length ≤ 10000) (hx : ∀ x ∈ xs, x.length ≤ 1000000) (hf : ∀ p ∈ lean q, okp p = true) (hfl : (lean q).length ≤ 48) :
  ∃t s,lp (J5 ⟨xs,q⟩) ⟨0,0,0,[]⟩=(t,s)/\RW q xs t s:=by
 refine S8 (step:=J5 ⟨xs,q⟩) (mk:=λj (O':List (List Pln))=>(⟨phL O',(j:Int),O'.length,bL (tLs tP) O'⟩:u9)) xs.length
  (λj O'=>j<=xs.length/\O'=(xs.take j).flatMap (ua3 q)/\(xs.take j).all (ta4 q)=true) (RW q xs) (by omega)
  (λj O' hj hi=>?_) (λj O' hj hi=>?_) 0 [] ⟨Qlb _,by simp,by simp⟩
 ·obtain⟨_,hO',hr⟩:=hi;have hn:W ((j:Int)+1)=((j+1:Nat):Int):=n8 hj (by omega)
  have hxl:=hx _ (Y0 (tLs tP) hj);have hOl:O'.length<=800000:=by
   rw[hO']
   have:=zd4 hfl (xs.take j)
   have:=List.length_take_le j xs
   omega
  have hroom:=zd3 O' (by omega)
  have hA:=se1 (a:=gL (tLs tP) xs j) (c:=q) (by omega) (by omega)
  have gA:=se2 (a:=gL (tLs tP) xs j) (c:=q) (by omega) (by omega)
  have hL:=yc3 q hq;have gL':=Rc8 q hq;have hP:=Me3 (x:=gL (tLs tP) xs j) hf (by omega)
  have gP:=zf4 (x:=gL (tLs tP) xs j) hf (by omega)
  have hnew:=Rd6 (tLs tP) xs (ua3 q) hj;have hall:=Rd7 (tLs tP) xs (ta4 q) hj;rw[<- hO'] at hnew;rw[hr,Qlae] at hall;have hfull:∀{v:Bool},ta4 q (gL (tLs tP) xs j)=v->v=false->xs.all (ta4 q)=false:=λ{v} h hv=>by
   rw[List.all_eq_false];exact⟨_,Y0 (tLs tP) hj,by rw[h,hv];decide⟩
  have hnx : ta4 q (gL (tLs tP) xs j) = true → ∀ {s : u9}, s = ⟨phL ((xs.take (j + 1)).flatMap (ua3 q)), ((j + 1 : Nat) : Int), ((xs.take (j + 1)).flatMap (ua3 q)).length, bL (tLs tP) ((xs.take (j + 1)).flatMap (ua3 q))⟩ →
    Nx (.next s) (λt=>RW q xs t (⟨phL O',(j:Int),O'.length,bL (tLs tP) O'⟩:u9))
     (λs=>∃O'',s=(⟨phL O'',((j+1:Nat):Int),O''.length,bL (tLs tP) O''⟩:u9)/\(j+1<=xs.length/\O''=(xs.take (j+1)).flatMap (ua3 q)/\(xs.take (j+1)).all (ta4 q)=true)) :=
   λh {s} hs=>.nx ⟨_,hs,hj,rfl,by rw[hall,h]⟩
  have hex:ta4 q (gL (tLs tP) xs j)=false->gc4 (gL (tLs tP) xs j) (lean q)=([],9)->∀{t:Nat},(t=1\/t=3)->RW q xs t (⟨phL O',(j:Int),O'.length,bL (tLs tP) O'⟩:u9):=λh hp {t} ht =>
   ⟨λh'=>(by rw[hfull h rfl] at h';cases h'),λ_=>⟨ht,j,rfl,hp⟩⟩
  have hgx:inB (j:Int) xs.length=true:=d9 hj;have hlt:((j:Int)<(xs.length:Int)):=g9 hj;generalize hX:gL (tLs tP) xs j=x at *
  cases hap:apart x q with
  |true =>
   have hp:ua3 q x=[x]:=by unfold ua3;rw[hap,if_pos rfl]
   have hro:ta4 q x=true:=by unfold ta4;rw[hap];rfl
   rw[hap] at hA;rw[hp] at hnew;cases O' with
   |nil =>
    have e:J5 ⟨xs,q⟩ ⟨phL [],(j:Int),([]:List (List Pln)).length,bL (tLs tP) []⟩=.next ⟨1,((j+1:Nat):Int),1,[[eL tP x]]⟩:=by
     show A7 Stp.next Stp.exit Stp.fail _ _=_;simp only[A7,Int.toNat_natCast,i5,j9,hX,hA,gA,hn,hgx,f0];rw[btD hlt]
    rw[e];exact hnx hro (by rw[hnew];rfl)
   |cons o os =>
    have e:J5 ⟨xs,q⟩ ⟨phL (o::os),(j:Int),(o::os).length,bL (tLs tP) (o::os)⟩=.next ⟨1,((j+1:Nat):Int),(o::os).length+1,bL (tLs tP) (o::os++[x])⟩:=by
     show G7 Stp.next Stp.exit Stp.fail _ _=_;simp only[G7,Int.toNat_natCast,i5,j9,hX,hA,gA,hn,hgx,hroom,te5,f0];rw[btD hlt]
    rw[e];exact hnx hro (by rw[hnew,Sc5,Qla];rfl)
  |false =>
   have hp:ua3 q x=ia8 x (lean q) (lean q).length:=by unfold ua3;rw[hap,if_neg (by decide)]
   have hro:ta4 q x=Z4 x (lean q):=by unfold ta4;rw[hap];rfl
   rw[hap] at hA;rw[hp] at hnew;cases hr48:Z4 x (lean q) with
   |true =>
    have hR:gc4 x (lean q)=(ia8 x (lean q) (lean q).length,0):=by unfold gc4;rw[hr48,if_pos rfl]
    rw[hR] at hP;have hol:=Sc6 x (lean q) (lean q).length;have z00:((0:Int) != 0)=false:=rfl;cases O' with
    |nil =>
     cases hO:ia8 x (lean q) (lean q).length with
     |nil =>
      rw[hO] at hP hnew;have e:J5 ⟨xs,q⟩ ⟨phL [],(j:Int),([]:List (List Pln)).length,bL (tLs tP) []⟩=.next ⟨0,((j+1:Nat):Int),0,[]⟩:=by
       show A7 Stp.next Stp.exit Stp.fail _ _=_;simp only[A7,Int.toNat_natCast,i5,j9,hX,hA,gA,hL,gL',hP,gP,hn,hgx,z00,f0,p7];rw[btD hlt];rfl
      rw[e];exact hnx (hro.trans hr48) (by rw[hnew];rfl)
     |cons a l' =>
      rw[hO] at hP hnew hol;have rm:Nat.ble ((a::l').length*24) room=true:=Qlh (by unfold room;omega)
      have nz:Nat.beq (a::l').length 0=false:=rfl;have e:J5 ⟨xs,q⟩ ⟨phL [],(j:Int),([]:List (List Pln)).length,bL (tLs tP) []⟩=.next ⟨1,((j+1:Nat):Int),(a::l').length,bL (tLs tP) (a::l')⟩:=by
       show A7 Stp.next Stp.exit Stp.fail _ _=_;simp only[A7,Int.toNat_natCast,i5,j9,hX,hA,gA,hL,gL',hP,gP,hn,hgx,Fa1,H7,z00,rm,nz,f0,p7];rw[btD hlt]
      rw[e];exact hnx (hro.trans hr48) (by rw[hnew];rfl)
    |cons o os =>
     have rm:(Nat.beq (o::os).length (o::os).length&&Nat.ble (((o::os).length+(ia8 x (lean q) (lean q).length).length)*24) room)=true:=by
      rw[Qlr,Qlae];exact Qlh (by unfold room;omega)
     have e:J5 ⟨xs,q⟩ ⟨phL (o::os),(j:Int),(o::os).length,bL (tLs tP) (o::os)⟩=.next ⟨1,((j+1:Nat):Int),(o::os).length+(ia8 x (lean q) (lean q).length).length,bL (tLs tP) (o::os++ia8 x (lean q) (lean q).length)⟩:=by
      show G7 Stp.next Stp.exit Stp.fail _ _=_;simp only[G7,Int.toNat_natCast,i5,j9,hX,hA,gA,hL,gL',hP,gP,hn,hgx,Fa1,H7,Of6,z00,rm,f0,p7];rw[btD hlt]
     rw[e];exact hnx (hro.trans hr48) (by rw[hnew,Qla];rfl)
   |false =>
    have hR:gc4 x (lean q)=([],9):=by unfold gc4;rw[hr48];rfl
    rw[hR] at hP;have z90:((9:Int) != 0)=true:=rfl;cases O' with
    |nil =>
     have e:J5 ⟨xs,q⟩ ⟨phL [],(j:Int),([]:List (List Pln)).length,bL (tLs tP) []⟩=.exit 1:=by
      show A7 Stp.next Stp.exit Stp.fail _ _=_;simp only[A7,Int.toNat_natCast,i5,j9,hX,hA,gA,hL,gL',hP,gP,hn,hgx,z90,f0,p7];rw[btD hlt]
     rw[e];exact .ex (hex (hro.trans hr48) hR (.inl rfl))
    |cons o os =>
     have e:J5 ⟨xs,q⟩ ⟨phL (o::os),(j:Int),(o::os).length,bL (tLs tP) (o::os)⟩=.exit 3:=by
      show G7 Stp.next Stp.exit Stp.fail _ _=_;simp only[G7,Int.toNat_natCast,i5,j9,hX,hA,gA,hL,gL',hP,gP,hn,hgx,z90,f0,p7];rw[btD hlt]
     rw[e];exact .ex (hex (hro.trans hr48) hR (.inr rfl))
 ·obtain⟨h1,hO',hr⟩:=hi;have hje:j=xs.length:=by omega
  subst hje;rw[List.take_length] at hO' hr;refine⟨phL O'*2+2,?_,λ_=>?_,λh=>(by rw[hr] at h;cases h)⟩
  ·cases O' with
   |nil =>
    show A7 Stp.next Stp.exit Stp.fail _ _=_;simp only[A7];rw[bfD (l0 (Qlc _))];rfl
   |cons o os =>
    show G7 Stp.next Stp.exit Stp.fail _ _=_;simp only[G7];rw[bfD (l0 (Qlc _))];rfl
  ·rw[<- hO'];exact⟨rfl,rfl,rfl⟩
theorem ed8(x:List (List Pln))(y:List Pln)(hy:y.length<=1000000)(hx:x.length<=10000)(hxl:∀c∈x,c.length<=1000000):Rd (two (r1L (tLs tP)) r1I) (Ya7 x y) (λr=>r=I5 x y):=by
 have hF:=md5 (c:=y) (by omega);have gF:=md6 (c:=y) (by omega)
 have hL:=yc3 y hy;unfold Ya7 I5 K6;simp only[i5,j9,i9,hF,gF,hL,f0,Qld];cases hf:ful y with
 |false=>exact⟨_,(x,0),rfl,te6 (tLs tP) x 0,rfl⟩
 |true =>
  have hc:=(Le7.1 hf).1;have hfl:(lean y).length<=48:=by
   have:=Kb3 y
   rw[beq_iff_eq,Hb8] at hc;omega
  have hok:∀p∈lean y,okp p=true:=λp hp=>Fc9 hc p (List.mem_append_left _ (te4 hp))
  obtain⟨t,s,hlp,hw⟩:=zf5 y x hy hx hxl hok hfl;simp only[hlp,Bool.not_true,p7,if_true];cases hr:x.all (ta4 y) with
  |false =>
   obtain⟨ht,j,h1,h2⟩:=hw.n hr;have hP:=Me3 (x:=gL (tLs tP) x j) hok (by omega)
   rw[h2] at hP;simp only[h1,Int.toNat_natCast,hP]
   rcases ht with rfl|rfl<;>exact⟨_,([],9),rfl,rfl,rfl⟩
  |true =>
   obtain⟨h1,h2,h3⟩:=hw.y hr;by_cases hO:x.flatMap (ua3 y)=[]
   ·rw[hO] at h1 ⊢;have h1:t=2:=h1;subst h1;exact⟨_,([],0),rfl,rfl,rfl⟩
   ·have h1 : t = 4 := by
     obtain⟨o,os,hO⟩:=List.exists_cons_of_ne_nil hO;rw[h1,hO];rfl
    subst h1;rw[h2,h3];by_cases h200:(x.flatMap (ua3 y)).length<=200
    ·rw[decide_eq_true h200];refine⟨_,(x.flatMap (ua3 y),0),?_,Le9 (tLs tP) 24 _ 0,rfl⟩
     have:decide (((x.flatMap (ua3 y)).length:Int)>200)=false:=decide_eq_false (by omega)
     rw[this];rfl
    ·rw[decide_eq_false h200]
     have:decide (((x.flatMap (ua3 y)).length:Int)>200)=true:=decide_eq_true (by omega)
     rw[this];exact⟨_,([],9),rfl,rfl,rfl⟩
theorem Lb1{x:List (List Pln)}{y:List Pln}(hy:y.length<=1000000)(hx:x.length<=10000)(hxl:∀c∈x,c.length<=1000000):J6 x y=I5 x y:=(ed8 x y hy hx hxl).p
theorem Bd2{x:List (List Pln)}{y:List Pln}(hy:y.length<=1000000)(hx:x.length<=10000)(hxl:∀c∈x,c.length<=1000000):Ya8 x y=true:=(ed8 x y hy hx hxl).g
theorem Bd3(s:List (List Pln))(hs:s.length<=1000000)(hl:∀c∈s,c.length<=1000000):vb6 s=some (i (schk s),[]):=by
 have h:=za2 (step:=Pa6 ⟨s⟩) (mk:=λj=>(⟨(j:Int)⟩:ia9)) (c:=λc=>chk c != 0) (u:=1) (fin:=2) (tLs tP) s (by omega)
  (λj hj=>by
   have hc:=hl _ (Y0 (tLs tP) hj);simp only[Pa6,Ha7,Int.toNat_natCast,i5,j9,Hb7 _ (show (gL (tLs tP) s j).length<=1000000000 by omega),Yb2 _ (show (gL (tLs tP) s j).length<=1000000000 by omega),n8 hj (show s.length<=4611686018427387904 by omega),f0]
   rw[btD (g9 hj),bt (d9 hj)])
  (by simp only[Pa6,Ha7];rw[bfD (l0 (Qlc _))]) 0 (Qlb _)
 rw[Qlv,Qlaa] at h;unfold vb6 schk;simp only[i5,j9,i9];rw[show (⟨0⟩:ia9)=⟨((0:Nat):Int)⟩ from rfl,h]
 by_cases h16:(s.length:Int)>16
 ·rw[btD h16,if_pos h16]
 ·rw[bfD h16,if_neg h16];cases ha:s.any λc=>chk c != 0 with
  |true =>
   have hlt:s.findIdx (λc=>chk c != 0)<s.length:=List.findIdx_lt_length.2 (List.any_eq_true.1 ha)
   have hc:=hl _ (Y0 (tLs tP) hlt);rw[nd3 (tLs tP) s _ ha];simp only[Int.toNat_natCast,if_true,Hb7 _ (show (gL (tLs tP) s (s.findIdx λc=>chk c != 0)).length<=1000000000 by omega)]
   rfl
  |false =>
   rw[List.find?_eq_none.2 λc hc=>by have:=List.any_eq_false.1 ha c hc;simpa using this]
   rfl
theorem yc6{s:List (List Pln)}(hs:s.length<=1000000)(hl:∀c∈s,c.length<=1000000):Pa7 s=schk s:=by unfold Pa7;rw[Bd3 s hs hl];rfl
theorem yc7{s:List (List Pln)}(hs:s.length<=1000000)(hl:∀c∈s,c.length<=1000000):Pa8 s=true:=by unfold Pa8;rw[Bd3 s hs hl];rfl
structure RM0(c:List Pln)(ys:List (List Pln))(t:Nat)(s:w7):Prop where
 y:∀r,Ha6 ys (some [c])=some r->(ys=[]/\t=2)\/(ys≠[]/\t=4/\s.pa3=r)
 n:Ha6 ys (some [c])=none->(t=1/\∃j,s.is8=((j:Nat):Int)/\I5 [c] (gL (tLs tP) ys j)=([],9))\/(t=3/\∃j,s.is8=((j:Nat):Int)/\I5 s.pa3 (gL (tLs tP) ys j)=([],9)/\j<ys.length/\s.pa3.length<=200/\∀c∈s.pa3,c.length<=48)
theorem lf6 (c : List Pln) (ys : List (List Pln)) (hc : c.length ≤ 48) (hn : ys.length ≤ 1000) (hy : ∀ q ∈ ys, q.length ≤ 1000000) :
  ∃t s,lp (G8 ⟨ys,c⟩) ⟨0,0,[]⟩=(t,s)/\RM0 c ys t s:=by
 refine S8 (step:=G8 ⟨ys,c⟩) (mk:=λj (ps:List (List Pln))=>(⟨if j=0 then 0 else 1,(j:Int),if j=0 then [] else ps⟩:w7)) ys.length
  (λj ps=>j<=ys.length/\Ha6 (ys.take j) (some [c])=some ps/\ps.length<=200/\∀x∈ps,x.length<=48) (RM0 c ys) (by omega)
  (λj ps hj hi=>?_) (λj ps hj hi=>?_) 0 [c] ⟨Qlb _,rfl,by simp,by simpa using hc⟩
 ·obtain⟨_,hm,hl,hle⟩:=hi;have hw1:W ((j:Int)+1)=((j+1:Nat):Int):=n8 hj (by omega)
  have hq:=hy _ (Y0 (tLs tP) hj);have hgx:inB (j:Int) ys.length=true:=d9 hj;have hmj:=zd7 hj (some [c]);have hsp:=ed5 ys (j+1) (some [c]);rw[hm] at hmj;have pw:=Lb1 (x:=ps) hq (by omega) λx hx=>Qlk (hle x hx) (by omega)
  have gw:=Bd2 (x:=ps) hq (by omega) λx hx=>Qlk (hle x hx) (by omega)
  have hmj:Ha6 (ys.take (j+1)) (some [c])=K6 ps (gL (tLs tP) ys j):=hmj;by_cases h0:j=0
  ·subst h0;have hps:ps=[c]:=by
    have:some [c]=some ps:=hm
    injection this with this;exact this.symm
   subst hps;cases hw:K6 [c] (gL (tLs tP) ys 0) with
   |some r =>
    have hR:I5 [c] (gL (tLs tP) ys 0)=(r,0):=by unfold I5;rw[hw]
    rw[hR] at pw;have e:G8 ⟨ys,c⟩ ⟨0,((0:Nat):Int),[]⟩=.next ⟨1,((0+1:Nat):Int),r⟩:=by
     show X7 Stp.next Stp.exit Stp.fail _ _=_;simp only[X7,Int.toNat_natCast,i5,j9,pw,gw,hw1,hgx,f0,Qld];rw[btD (g9 hj)];rfl
    show Nx (G8 ⟨ys,c⟩ ⟨0,((0:Nat):Int),[]⟩) _ _;rw[e];exact .nx ⟨r,rfl,hj,hmj.trans hw,jb5 hw (by simp),vb2 hw (by simpa using hc)⟩
   |none =>
    have hR:I5 [c] (gL (tLs tP) ys 0)=([],9):=by unfold I5;rw[hw]
    rw[hR] at pw;have e:G8 ⟨ys,c⟩ ⟨0,((0:Nat):Int),[]⟩=.exit 1:=by
     show X7 Stp.next Stp.exit Stp.fail _ _=_;simp only[X7,Int.toNat_natCast,i5,j9,pw,gw,hw1,hgx,f0,Qld];rw[btD (g9 hj)];rfl
    show Nx (G8 ⟨ys,c⟩ ⟨0,((0:Nat):Int),[]⟩) _ _;rw[e];rw[hmj,hw,Kb5] at hsp;exact .ex ⟨λr hr=>(by rw[hsp] at hr;cases hr),λ_=>.inl ⟨rfl,0,rfl,hR⟩⟩
  ·have em:(⟨if j=0 then 0 else 1,(j:Int),if j=0 then [] else ps⟩:w7)=⟨1,(j:Int),ps⟩:=by rw[if_neg h0,if_neg h0]
   rw[em];cases hw:K6 ps (gL (tLs tP) ys j) with
   |some r =>
    have hR:I5 ps (gL (tLs tP) ys j)=(r,0):=by unfold I5;rw[hw]
    rw[hR] at pw;have e:G8 ⟨ys,c⟩ ⟨1,(j:Int),ps⟩=.next ⟨1,((j+1:Nat):Int),r⟩:=by
     show G2 Stp.next Stp.exit Stp.fail _ _=_;simp only[G2,Int.toNat_natCast,i5,j9,pw,gw,hw1,hgx,f0,Qld];rw[btD (g9 hj)];rfl
    rw[e];exact .nx ⟨r,by rw[if_neg (by omega),if_neg (by omega)],hj,hmj.trans hw,jb5 hw hl,vb2 hw hle⟩
   |none =>
    have hR:I5 ps (gL (tLs tP) ys j)=([],9):=by unfold I5;rw[hw]
    rw[hR] at pw;have e:G8 ⟨ys,c⟩ ⟨1,(j:Int),ps⟩=.exit 3:=by
     show G2 Stp.next Stp.exit Stp.fail _ _=_;simp only[G2,Int.toNat_natCast,i5,j9,pw,gw,hw1,hgx,f0,Qld];rw[btD (g9 hj)];rfl
    rw[e];rw[hmj,hw,Kb5] at hsp;exact .ex ⟨λr hr=>(by rw[hsp] at hr;cases hr),λ_=>.inr ⟨rfl,j,rfl,hR,hj,hl,hle⟩⟩
 ·obtain⟨h1,hm,hl,hle⟩:=hi;have hje:j=ys.length:=by omega
  subst hje;rw[List.take_length] at hm;by_cases h0:ys.length=0
  ·have hnil:ys=[]:=List.length_eq_zero_iff.1 h0;subst hnil;refine⟨2,?_,λr hr=>.inl ⟨rfl,rfl⟩,λh=>(by rw[hm] at h;cases h)⟩
   show X7 Stp.next Stp.exit Stp.fail ⟨[],c⟩ ⟨0,((([]:List (List Pln)).length:Nat):Int),[]⟩=_;simp only[X7];rfl
  ·have em:(⟨if ys.length=0 then 0 else 1,(ys.length:Int),if ys.length=0 then [] else ps⟩:w7)=⟨1,(ys.length:Int),ps⟩:=by rw[if_neg h0,if_neg h0]
   rw[em];refine⟨4,?_,λr hr=>.inr ⟨λe=>h0 (by rw[e];rfl),rfl,?_⟩,λh=>(by rw[hm] at h;cases h)⟩
   ·show G2 Stp.next Stp.exit Stp.fail _ _=_;simp only[G2];rw[bfD (l0 (Qlc _))]
   ·rw[hm] at hr;injection hr
theorem lf7 (ys : List (List Pln)) (hn : ys.length ≤ 1000) (hy : ∀ q ∈ ys, q.length ≤ 1000000) :
  ∃t s,lp (G8 ⟨ys,[]⟩) ⟨2,0,[]⟩=(t,s)/\((t=6\/t=4)/\s.pa3=[]):=by
 refine S8 (step:=G8 ⟨ys,[]⟩) (mk:=λj (_:Unit)=>(⟨if j=0 then 2 else 1,(j:Int),[]⟩:w7)) ys.length
  (λj _=>j<=ys.length) (λt s=>(t=6\/t=4)/\s.pa3=[]) (by omega)
  (λj _ hj hi=>?_) (λj _ hj hi=>?_) 0 () (Qlb _)
 ·have hw1:W ((j:Int)+1)=((j+1:Nat):Int):=n8 hj (by omega)
  have hq:=hy _ (Y0 (tLs tP) hj);have hgx:inB (j:Int) ys.length=true:=d9 hj;have pw:=Lb1 (x:=[]) hq (by simp) (by simp)
  have gw:=Bd2 (x:=[]) hq (by simp) (by simp)
  have hR:I5 [] (gL (tLs tP) ys j)=([],0):=by
   have:K6 [] (gL (tLs tP) ys j)=some []:=by unfold K6;split<;>rfl
   unfold I5;rw[this]
  rw[hR] at pw;have z00:((0:Int) != 0)=false:=rfl;have e:G8 ⟨ys,[]⟩ ⟨if j=0 then 2 else 1,(j:Int),[]⟩=.next ⟨1,((j+1:Nat):Int),[]⟩:=by
   by_cases h0:j=0
   ·rw[if_pos h0];show ma3 Stp.next Stp.exit Stp.fail _ _=_;simp only[ma3,Int.toNat_natCast,i5,j9,pw,gw,hw1,hgx,z00,f0,p7,Qld];rw[btD (g9 hj)]
   ·rw[if_neg h0];show G2 Stp.next Stp.exit Stp.fail _ _=_;simp only[G2,Int.toNat_natCast,i5,j9,pw,gw,hw1,hgx,z00,f0,p7,Qld];rw[btD (g9 hj)]
  rw[e];exact .nx ⟨(),by rw[if_neg (by omega)],hj⟩
 ·have hje:j=ys.length:=by omega
  subst hje;by_cases h0:ys.length=0
  ·refine⟨6,?_,.inl rfl,rfl⟩;rw[if_pos h0];show ma3 Stp.next Stp.exit Stp.fail _ _=_;simp only[ma3];rw[bfD (l0 (Qlc _))]
  ·refine⟨4,?_,.inr rfl,rfl⟩;rw[if_neg h0];show G2 Stp.next Stp.exit Stp.fail _ _=_;simp only[G2];rw[bfD (l0 (Qlc _))]
theorem Sd3(x:List Pln)(y:List (List Pln))(hx:x.length<=1000000)(hn:y.length<=1000000)(hy:∀q∈y,q.length<=1000000):Rd (two (r1L (tLs tP)) r1I) (vb8 x y) (λr=>r=Ka5 x y):=by
 have hC:=Hb7 x (show x.length<=1000000000 by omega);have gC:=Yb2 x (show x.length<=1000000000 by omega)
 have hS:=yc6 hn hy;have gS:=yc7 hn hy;have hF:=md5 (c:=x) (by omega);have gF:=md6 (c:=x) (by omega)
 have hL:=yc3 x hx;have gL':=Rc8 x hx;unfold vb8 Ka5;simp only[i5,j9,i9,hC,gC,hS,gS,hF,gF,hL,gL',f0,Qld];cases hc:chk x != 0 with
 |true =>
  have hc':(chk x==0)=false:=by simpa using hc
  rw[hc'];exact⟨_,([],chk x),rfl,rfl,rfl⟩
 |false =>
  have hc':(chk x==0)=true:=by simpa using hc
  rw[hc'];cases hs:schk y != 0 with
  |true=>exact⟨_,([],schk y),rfl,rfl,rfl⟩
  |false =>
   have hc0:chk x=0:=by simpa using hc
   have hs0:=Zc9 (show schk y=0 by simpa using hs)
   simp only[f0,p7,Qlw,if_false];cases hf:ful x with
   |false =>
    rw[Rd9 hf];obtain⟨t,s,hlp,ht,hs7⟩:=lf7 y (by omega) hy
    rw[hlp];simp only[hs7]
    rcases ht with rfl|rfl
    ·exact⟨_,([],0),rfl,rfl,rfl⟩
    ·exact⟨_,([],0),rfl,te6 (tLs tP) [] 0,rfl⟩
   |true =>
    simp only[f0];have hm:ya7 x y=Ha6 y (some [lean x]):=by unfold ya7 Ha6;rw[hf];rfl
    have hll:(lean x).length<=48:=Qlk (Kb3 x) (zd6 hc0);obtain⟨t,s,hlp,hM⟩:=lf6 (lean x) y hll (by omega) hy
    rw[hlp,hm];cases hr:Ha6 y (some [lean x]) with
    |some r =>
     rcases hM.y r hr with⟨rfl,rfl⟩|⟨_,rfl,rfl⟩
     ·have : r = [lean x] := by
       have:some [lean x]=some r:=hr
       injection this with this;exact this.symm
      subst this;exact⟨_,([lean x],0),rfl,Le9 (tLs tP) 24 [lean x] 0,rfl⟩
     ·exact⟨_,(s.pa3,0),rfl,te6 (tLs tP) _ 0,rfl⟩
    |none =>
     rcases hM.n hr with⟨rfl,j,h1,h2⟩|⟨rfl,j,h1,h2,hj,h4,h5⟩
     ·by_cases hj:j<y.length
      ·have pw:=Lb1 (x:=[lean x]) (hy _ (Y0 (tLs tP) hj)) (by simp) (by simpa using Qlk hll (by omega))
       rw[h2] at pw;simp only[h1,Int.toNat_natCast,pw];exact⟨_,([],9),rfl,rfl,rfl⟩
      ·have hd:gL (tLs tP) y j=[]:=by simp[gL,List.getD_eq_getElem?_getD,List.getElem?_eq_none (show y.length<=j by omega)];rfl
       have pw:=Lb1 (x:=[lean x]) (y:=gL (tLs tP) y j) (by rw[hd];simp) (by simp) (by simpa using Qlk hll (by omega))
       rw[h2] at pw;simp only[h1,Int.toNat_natCast,pw];exact⟨_,([],9),rfl,rfl,rfl⟩
     ·have pw:=Lb1 (x:=s.pa3) (hy _ (Y0 (tLs tP) hj)) (by omega) λc hc=>Qlk (h5 c hc) (by omega)
      rw[h2] at pw;simp only[h1,Int.toNat_natCast,pw];exact⟨_,([],9),rfl,rfl,rfl⟩
theorem ue6{x:List Pln}{y:List (List Pln)}(hx:x.length<=1000000)(hn:y.length<=1000000)(hy:∀q∈y,q.length<=1000000):Qb6 x y=Ka5 x y:=(Sd3 x y hx hn hy).p
theorem ue7{x:List Pln}{y:List (List Pln)}(hx:x.length<=1000000)(hn:y.length<=1000000)(hy:∀q∈y,q.length<=1000000):Qb7 x y=true:=(Sd3 x y hx hn hy).g
theorem Bd4(x:List (List Pln))(y:List Pln)(hy:y.length<=1000000)(hn:x.length<=1000000)(hx:∀q∈x,q.length<=1000000):jb9 x y=some (.tup [b (y8 x y).1,i (y8 x y).2],[]):=by
 unfold jb9 y8;simp only[i5,j9,ue6 hy hn hx,ue7 hy hn hx,f0];cases (Ka5 y x).2==0<;>rfl
theorem ad6{x:List (List Pln)}{y:List Pln}(hy:y.length<=1000000)(hn:x.length<=1000000)(hx:∀q∈x,q.length<=1000000):Ea5 x y=y8 x y:=by unfold Ea5;rw[Bd4 x y hy hn hx];rfl
theorem Sd4{x:List (List Pln)}{y:List Pln}(hy:y.length<=1000000)(hn:x.length<=1000000)(hx:∀q∈x,q.length<=1000000):kb0 x y=true:=by unfold kb0;rw[Bd4 x y hy hn hx];rfl
theorem Bd5(c:List Pln)(s:List (List Pln))(hc:c.length<=1000000)(hs:s.length<=1000000)(hl:∀q∈s,q.length<=1000000):vb9 c s=some (b (rb3 c s),[]):=by
 have h:=fb0 (step:=Qa1 ⟨c,s⟩) (mk:=λj=>(⟨(j:Int)⟩:ja0)) (c:=λq=>!apart c q) (u:=1) (fin:=2) (tLs tP) s (by omega)
  (λj hj=>by
   have hq:=hl _ (Y0 (tLs tP) hj);simp only[Qa1,Ha8,Int.toNat_natCast,i5,j9,se1 (a:=c) (c:=gL (tLs tP) s j) (by omega) (by omega),se2 (a:=c) (c:=gL (tLs tP) s j) (by omega) (by omega),n8 hj (show s.length<=4611686018427387904 by omega),f0]
   rw[btD (g9 hj),bt (d9 hj)])
  (by simp only[Qa1,Ha8];rw[bfD (l0 (Qlc _))]) 0 (Qlb _)
 rw[Qlv] at h;unfold vb9 rb3;simp only[i5,i9];rw[show (⟨0⟩:ja0)=⟨((0:Nat):Int)⟩ from rfl,h]
 cases s.any (λq=>!apart c q)<;>rfl
theorem Ue6{c:List Pln}{s:List (List Pln)}(hc:c.length<=1000000)(hs:s.length<=1000000)(hl:∀q∈s,q.length<=1000000):Qb8 c s=rb3 c s:=by unfold Qb8;rw[Bd5 c s hc hs hl];rfl
theorem Ue7{c:List Pln}{s:List (List Pln)}(hc:c.length<=1000000)(hs:s.length<=1000000)(hl:∀q∈s,q.length<=1000000):Qb9 c s=true:=by unfold Qb9;rw[Bd5 c s hc hs hl];rfl
theorem Bd6(s t:List (List Pln))(hs:s.length<=1000000)(hl:∀q∈s,q.length<=1000000)(ht:t.length<=1000000)(htl:∀q∈t,q.length<=1000000):kb1 s t=some (.tup [b (inR s t).1,i (inR s t).2],[]):=by
 have h:=za2 (step:=Ha9 ⟨s,t⟩) (mk:=λj=>(⟨(j:Int)⟩:ca7)) (c:=λc=>!(y8 t c).1) (u:=1) (fin:=2) (tLs tP) s (by omega)
  (λj hj=>by
   have hq:=hl _ (Y0 (tLs tP) hj);simp only[Ha9,Ba8,Int.toNat_natCast,i5,j9,ad6 hq ht htl,Sd4 hq ht htl,n8 hj (show s.length<=4611686018427387904 by omega),f0]
   rw[btD (g9 hj),bt (d9 hj)];cases hc:(y8 t (gL (tLs tP) s j)).1 with
   |false=>cases (y8 t (gL (tLs tP) s j)).2 != 0<;>rfl
   |true=>rw[Sc8 hc];rfl)
  (by simp only[Ha9,Ba8];rw[bfD (l0 (Qlc _))]) 0 (Qlb _)
 rw[Qlv,Qlaa] at h;unfold kb1;simp only[i5,i9];rw[show (⟨0⟩:ca7)=⟨((0:Nat):Int)⟩ from rfl,h]
 cases ha:s.any λc=>!(y8 t c).1 with
 |true =>
  obtain⟨e1,e2,e3⟩:=nd4 ha;simp only[if_true,Int.toNat_natCast,ad6 (hl _ e3) ht htl];rw[<- e1,e2];rfl
 |false =>
  rw[Zb9 ha];rfl
theorem Sd5{s t:List (List Pln)}(hs:s.length<=1000000)(hl:∀q∈s,q.length<=1000000)(ht:t.length<=1000000)(htl:∀q∈t,q.length<=1000000):kb2 s t=inR s t:=by unfold kb2;rw[Bd6 s t hs hl ht htl];rfl
theorem Sd6{s t:List (List Pln)}(hs:s.length<=1000000)(hl:∀q∈s,q.length<=1000000)(ht:t.length<=1000000)(htl:∀q∈t,q.length<=1000000):kb3 s t=true:=by unfold kb3;rw[Bd6 s t hs hl ht htl];rfl
theorem Sd7(x y:List (List Pln))(hx:x.length<=1000000)(hxl:∀q∈x,q.length<=1000000)(hy:y.length<=1000000)(hyl:∀q∈y,q.length<=1000000):Lb0 x y=some (.tup [b (vb5 x y).1,i (vb5 x y).2],[]):=by
 unfold Lb0 vb5;simp only[i5,j9,yc6 hx hxl,yc7 hx hxl,yc6 hy hyl,yc7 hy hyl,Sd5 hx hxl hy hyl,Sd6 hx hxl hy hyl,Sd5 hy hyl hx hxl,Sd6 hy hyl hx hxl,f0];cases h1:schk x != 0 with
 |true =>
  have h1':(schk x==0)=false:=by simpa using h1
  rw[h1'];rfl
 |false =>
  have h1':(schk x==0)=true:=by simpa using h1
  rw[h1'];cases h2:schk y != 0 with
  |true=>rfl
  |false =>
   simp only[f0,p7,Qlw,if_false];cases ha:x.any λc=>!(y8 y c).1 with
   |true =>
    obtain⟨e1,e2,e3⟩:=nd4 ha;simp only[e2,Qlw,if_false];cases (inR x y).2 != 0<;>rfl
   |false =>
    rw[Zb9 ha];rfl
theorem lf8{x y:List (List Pln)}(hx:x.length<=1000000)(hxl:∀q∈x,q.length<=1000000)(hy:y.length<=1000000)(hyl:∀q∈y,q.length<=1000000):gc2 x y=vb5 x y:=by unfold gc2;rw[Sd7 x y hx hxl hy hyl];rfl
theorem lf9{x y:List (List Pln)}(hx:x.length<=1000000)(hxl:∀q∈x,q.length<=1000000)(hy:y.length<=1000000)(hyl:∀q∈y,q.length<=1000000):gc3 x y=true:=by unfold gc3;rw[Sd7 x y hx hxl hy hyl];rfl
theorem ed9(x:List (List Pln))(hx:x.length<=1000000)(hl:∀q∈x,q.length<=1000000):Qa3 x x=some (b true,[]):=by
 have h:=fb0 (step:=wa8 ⟨x,x⟩) (mk:=λj=>(⟨(j:Int)⟩:T7)) (c:=λ_=>false) (u:=1) (fin:=2) (tLs tP) x (by omega)
  (λj hj=>by
   have hq:=hl _ (Y0 (tLs tP) hj);simp only[wa8,sa3,Int.toNat_natCast,i5,j9,gf0 (gL (tLs tP) x j) (by omega),gf1 (gL (tLs tP) x j) (by omega),n8 hj (show x.length<=4611686018427387904 by omega),Bool.not_true,f0]
   rw[btD (g9 hj),bt (d9 hj),bt (d9 hj)])
  (by simp only[wa8,sa3];rw[bfD (l0 (Qlc _))]) 0 (Qlb _)
 rw[Qlv,show (x.any λ_=>false)=false by simp] at h
 unfold Qa3;simp only[i5,i9];rw[show (⟨0⟩:T7)=⟨((0:Nat):Int)⟩ from rfl,h,bf (by simp)]
 rfl
theorem Ee7{x:List (List Pln)}(hx:x.length<=1000000)(hl:∀q∈x,q.length<=1000000):kb4 x x=true:=by unfold kb4;rw[ed9 x hx hl];rfl
theorem Ee8{x:List (List Pln)}(hx:x.length<=1000000)(hl:∀q∈x,q.length<=1000000):kb5 x x=true:=by unfold kb5;rw[ed9 x hx hl];rfl
end Go.Ev.Ce
namespace Go.Ev.Ce
def Ua9(a b:V3):V3:=⟨a.x-b.x,a.y-b.y,a.z-b.z⟩
def N3(u w x:V3):V3:=g7 (Ua9 w u) (Ua9 x u)
def Sol(l:List V3):Prop:=∃a c k v,a∈l/\c∈l/\k∈l/\v∈l/\dot (N3 a c k) (Ua9 v a)≠0
theorem Sol.off{l:List V3}(h:Sol l){n:V3}(hn:n≠⟨0,0,0⟩)(b:Int):∃v∈l,dot n v≠b:=by
 obtain⟨a,c,k,v,ha,hc,hk,hv,hd⟩:=h;by_cases h1:dot n a=b
 ·by_cases h2:dot n c=b
  ·by_cases h3:dot n k=b
   ·by_cases h4:dot n v=b
    ·exfalso;unfold N3 at hd;generalize hD:dot (g7 (Ua9 c a) (Ua9 k a)) (Ua9 v a)=D at *
     have q1:dot n (Ua9 c a)=0:=by unfold dot Ua9 at *;grind
     have q2:dot n (Ua9 k a)=0:=by unfold dot Ua9 at *;grind
     have q3:dot n (Ua9 v a)=0:=by unfold dot Ua9 at *;grind
     generalize Ua9 c a=p at *
     generalize Ua9 k a=q at *
     generalize Ua9 v a=r at *
     have i1:D*n.x=(g7 q r).x*dot n p+(g7 r p).x*dot n q+(g7 p q).x*dot n r:=by rw[<- hD];simp only[dot,g7];grind
     have i2:D*n.y=(g7 q r).y*dot n p+(g7 r p).y*dot n q+(g7 p q).y*dot n r:=by rw[<- hD];simp only[dot,g7];grind
     have i3:D*n.z=(g7 q r).z*dot n p+(g7 r p).z*dot n q+(g7 p q).z*dot n r:=by rw[<- hD];simp only[dot,g7];grind
     rw[q1,q2,q3] at i1 i2 i3;have z:∀{x:Int},D*x=0->x=0:=λh=>(Qli.1 h).resolve_left hd
     exact hn (Qlaf (z (by omega)) (z (by omega)) (z (by omega)))
    ·exact⟨v,hv,h4⟩
   ·exact⟨k,hk,h3⟩
  ·exact⟨c,hc,h2⟩
 ·exact⟨a,ha,h1⟩
theorem Sol.ne{l:List V3}(h:Sol l):∃v,v∈l:=by obtain⟨a,_,_,_,ha,_⟩:=h;exact⟨a,ha⟩
structure Fac(l:List V3)(n:V3)(b:Int):Prop where
 hd:∀v∈l,dot n v<=b
 on:∃u w x,u∈l/\w∈l/\x∈l/\N3 u w x≠⟨0,0,0⟩/\dot n u=b/\dot n w=b/\dot n x=b
end Go.Ev.Ce
namespace Go.Ev.Ce
open Go Go.Ev Go.Ev.L Go.Proofs
theorem Of7{l:List V3}(hf:nf0 l=true):Sol l:=(Nf9 hf).h
theorem zf6{v:V3}(h:g3 v=0):v=⟨0,0,0⟩:=by
 unfold g3 at h;have h:Nat.gcd (Nat.gcd v.x.natAbs v.y.natAbs) v.z.natAbs=0:=by omega
 rw[Nat.gcd_eq_zero_iff,Nat.gcd_eq_zero_iff] at h;exact Qlaf (by show v.x=0;omega) (by show v.y=0;omega) (by show v.z=0;omega)
theorem ue8{a c k:V3}(ha:inV a=true)(hc:inV c=true)(hk:inV k=true)(h:N3 a c k≠⟨0,0,0⟩):(Ga8 a c k).2=true:=by
 unfold Ga8;rw[ha,hc,hk];simp only[Qld,if_true];rw[if_neg (λh0=>h (zf6 h0):¬ g3 (g7 (sub c a) (sub k a))=0)]
theorem Sd8{a c k:V3}{p:Pln}(h:Thr a c k p):N3 a c k≠⟨0,0,0⟩:=λe=>by
 obtain⟨ok,⟨g,hg,e1,e2,e3⟩,_⟩:=h;have e':g7 (sub c a) (sub k a)=⟨0,0,0⟩:=e;rw[e'] at e1 e2 e3;have z:∀{x:Int},g*x=0->x=0:=λh=>(Qli.1 h).resolve_left (by omega)
 exact Le6 ok (Qlaf (z e1) (z e2) (z e3))
theorem Ee9{a c k:V3}{p:Pln}(h:Thr a c k p):dot p.n a=p.b/\dot p.n c=p.b/\dot p.n k=p.b:=by
 obtain⟨ok,⟨g,hg,e1,e2,e3⟩,o⟩:=h;have z:∀{x y:Int},g*(x-y)=0->x=y:=λh=>by have:=(Qli.1 h).resolve_left (by omega);omega
 refine⟨o.symm,?_,?_⟩
 ·rw[o];apply z
  have:g*(dot p.n c-dot p.n a)=(g*p.n.x)*(c.x-a.x)+(g*p.n.y)*(c.y-a.y)+(g*p.n.z)*(c.z-a.z):=by simp only[dot];grind
  rw[this,e1,e2,e3];simp only[g7,sub];grind
 ·rw[o];apply z
  have:g*(dot p.n k-dot p.n a)=(g*p.n.x)*(k.x-a.x)+(g*p.n.y)*(k.y-a.y)+(g*p.n.z)*(k.z-a.z):=by simp only[dot];grind
  rw[this,e1,e2,e3];simp only[g7,sub];grind
theorem ad7(p:Pln)(v:V3):dot (Ca2 p).n v=(Ca2 p).b↔dot p.n v=p.b:=by
 rw[te2];show -dot p.n v=-p.b↔_;omega
theorem Bd7{a c k:V3}{p q:Pln}(h:Thr a c k q)(hp:okp p=true)(t1:dot p.n a=p.b)(t2:dot p.n c=p.b)(t3:dot p.n k=p.b):p=q\/p=Ca2 q:=by
 obtain⟨s1,s2,s3⟩:=Ee9 h;obtain⟨ok,⟨g,hg,e1,e2,e3⟩,o⟩:=h;have d1:dot p.n (sub c a)=0:=by simp only[dot,sub] at *;grind
 have d2:dot p.n (sub k a)=0:=by simp only[dot,sub] at *;grind
 have hc:g7 q.n p.n=⟨0,0,0⟩:=by
  have z:∀{x:Int},g*x=0->x=0:=λh=>(Qli.1 h).resolve_left (by omega)
  generalize sub c a=u at *
  generalize sub k a=w at *
  refine Qlaf (z ?_) (z ?_) (z ?_)
  ·have:g*(g7 q.n p.n).x=(g*q.n.y)*p.n.z-(g*q.n.z)*p.n.y:=by simp only[g7];grind
   rw[this,e2,e3]
   have:(g7 u w).y*p.n.z-(g7 u w).z*p.n.y=w.x*dot p.n u-u.x*dot p.n w:=by simp only[g7,dot];grind
   rw[this,d1,d2];simp
  ·have:g*(g7 q.n p.n).y=(g*q.n.z)*p.n.x-(g*q.n.x)*p.n.z:=by simp only[g7];grind
   rw[this,e1,e3]
   have:(g7 u w).z*p.n.x-(g7 u w).x*p.n.z=w.y*dot p.n u-u.y*dot p.n w:=by simp only[g7,dot];grind
   rw[this,d1,d2];simp
  ·have:g*(g7 q.n p.n).z=(g*q.n.x)*p.n.y-(g*q.n.y)*p.n.x:=by simp only[g7];grind
   rw[this,e1,e2]
   have:(g7 u w).x*p.n.y-(g7 u w).y*p.n.x=w.z*dot p.n u-u.z*dot p.n w:=by simp only[g7,dot];grind
   rw[this,d1,d2];simp
 obtain⟨pn,pb⟩:=p;obtain⟨qn,qb⟩:=q
 rcases kf6 (Ee2 ok) (Ee2 hp) hc with e|e
 ·left
  simp only at e o t1 s1 t2 t3
  subst e;rw[<- t1,s1]
 ·right
  simp only at e o t1 s1 t2 t3
  subst e;rw[<- t1];simp only[dot,neg,Ca2] at s1 ⊢;simp only[Pln.mk.injEq,true_and]
  grind
structure Tc6(l:List V3)(p:Pln):Prop extends Fac l p.n p.b where
 ok:okp p=true
theorem mf0{l:List V3}{p:Pln}{u w x:V3}(hu:u∈l)(hw:w∈l)(hx:x∈l)(h:Thr u w x p)(hh:∀v∈l,dot (Ca2 p).n v<=(Ca2 p).b):Tc6 l (Ca2 p):=by
 obtain⟨s1,s2,s3⟩:=Ee9 h;exact⟨⟨hh,u,w,x,hu,hw,hx,Sd8 h,(ad7 p u).2 s1,(ad7 p w).2 s2,(ad7 p x).2 s3⟩,yd9 h.ok⟩
theorem zf7{l:List V3}{p:Pln}{u w x:V3}(hu:u∈l)(hw:w∈l)(hx:x∈l)(h:Thr u w x p)(hh:∀v∈l,dot p.n v<=p.b):Tc6 l p:=by
 obtain⟨s1,s2,s3⟩:=Ee9 h;exact⟨⟨hh,u,w,x,hu,hw,hx,Sd8 h,s1,s2,s3⟩,h.ok⟩
theorem Zf7{u w x:V3}(h:N3 u w x≠⟨0,0,0⟩):N3 w u x≠⟨0,0,0⟩/\N3 u x w≠⟨0,0,0⟩/\N3 x w u≠⟨0,0,0⟩/\N3 w x u≠⟨0,0,0⟩/\N3 x u w≠⟨0,0,0⟩:=by
 have e1:N3 w u x=neg (N3 u w x):=Qlaf (by simp only[N3,g7,Ua9,neg];grind) (by simp only[N3,g7,Ua9,neg];grind) (by simp only[N3,g7,Ua9,neg];grind)
 have e2:N3 u x w=neg (N3 u w x):=Qlaf (by simp only[N3,g7,Ua9,neg];grind) (by simp only[N3,g7,Ua9,neg];grind) (by simp only[N3,g7,Ua9,neg];grind)
 have e3:N3 x w u=neg (N3 u w x):=Qlaf (by simp only[N3,g7,Ua9,neg];grind) (by simp only[N3,g7,Ua9,neg];grind) (by simp only[N3,g7,Ua9,neg];grind)
 have e4:N3 w x u=N3 u w x:=Qlaf (by simp only[N3,g7,Ua9];grind) (by simp only[N3,g7,Ua9];grind) (by simp only[N3,g7,Ua9];grind)
 have e5:N3 x u w=N3 u w x:=Qlaf (by simp only[N3,g7,Ua9];grind) (by simp only[N3,g7,Ua9];grind) (by simp only[N3,g7,Ua9];grind)
 rw[e1,e2,e3,e4,e5];exact⟨de5 h,de5 h,de5 h,h,h⟩
theorem Gf9{u w x:V3}(h:N3 u w x≠⟨0,0,0⟩):u≠w/\u≠x/\w≠x:=by
 refine⟨λe=>h ?_,λe=>h ?_,λe=>h ?_⟩<;>subst e<;>refine Qlaf ?_ ?_ ?_<;>simp only[N3,g7,Ua9]<;>grind
theorem mg7 {l : List V3} {u w x : V3} (hu : u ∈ l) (hw : w ∈ l) (hx : x ∈ l) (h : N3 u w x ≠ ⟨0, 0, 0⟩) :
  ∃a,a<l.length/\∃c,c<a/\∃k,k<c/\N3 (gL tV l a) (gL tV l c) (gL tV l k)≠⟨0,0,0⟩/\∀f:V3->Prop,f u->f w->f x->f (gL tV l a)/\f (gL tV l c)/\f (gL tV l k):=by
 obtain⟨i,hi,rfl⟩:=Qls.1 hu;obtain⟨j,hj,rfl⟩:=Qls.1 hw;obtain⟨k,hk,rfl⟩:=Qls.1 hx;obtain⟨n1,n2,n3⟩:=Gf9 h;obtain⟨s1,s2,s3,s4,s5⟩:=Zf7 h;have d1:i≠j:=λe=>n1 (by subst e;rfl)
 have d2:i≠k:=λe=>n2 (by subst e;rfl)
 have d3:j≠k:=λe=>n3 (by subst e;rfl)
 rw[<- bb9 tV hi,<- bb9 tV hj,<- bb9 tV hk] at *
 rcases Qlx d1 with h1|h1<;>rcases Qlx d2 with h2|h2<;>rcases Qlx d3 with h3|h3
 ·exact⟨k,hk,j,h3,i,h1,s3,λf a b c=>⟨c,b,a⟩⟩
 ·exact⟨j,hj,k,h3,i,h2,s4,λf a b c=>⟨b,c,a⟩⟩
 ·omega
 ·exact⟨j,hj,i,h1,k,h2,s1,λf a b c=>⟨b,a,c⟩⟩
 ·exact⟨k,hk,i,h2,j,h1,s5,λf a b c=>⟨c,a,b⟩⟩
 ·omega
 ·exact⟨i,hi,k,h2,j,h3,s2,λf a b c=>⟨a,c,b⟩⟩
 ·exact⟨i,hi,j,h1,k,h3,h,λf a b c=>⟨a,b,c⟩⟩
theorem zf8{l:List V3}(hl:l.all inV=true)(p:Pln):p∈F0 l↔Tc6 l p:=by
 have hin:=Qlj.1 hl;constructor
 ·intro hp;obtain⟨a,ha,c,hc,k,hk,h1,h2⟩:=(Ee3 l p).1 hp;have ma:=gLm ha;have mc:=gLm (show c<l.length by omega)
  have mk:=gLm (show k<l.length by omega)
  have ht:=(Pb8 h1).2
  rcases h2 with⟨rfl,h3⟩|⟨rfl,h3⟩
  ·exact zf7 ma mc mk ht ((Sc0 ht.ok hl).1 h3)
  ·exact mf0 ma mc mk ht ((Sc0 (yd9 ht.ok) hl).1 h3)
 ·intro h;obtain⟨u,w,x,hu,hw,hx,h3,t1,t2,t3⟩:=h.on;obtain⟨a,ha,c,hc,k,hk,hn,hall⟩:=mg7 hu hw hx h3;obtain⟨i1,i2,i3⟩:=hall (λv=>inV v=true) (hin u hu) (hin w hw) (hin x hx)
  obtain⟨e1,e2,e3⟩:=hall (λv=>dot p.n v=p.b) t1 t2 t3
  have h2:=ue8 i1 i2 i3 hn;refine (Ee3 l p).2 ⟨a,ha,c,hc,k,hk,h2,?_⟩;have hh:=(Sc0 h.ok hl).2 h.hd
  rcases Bd7 (Pb8 h2).2 h.ok e1 e2 e3 with e|e
  ·exact .inl ⟨e,hh⟩
  ·exact .inr ⟨e,hh⟩
def Fv:V3:=⟨10000,100,1⟩
theorem Of8{a c:V3}(ha:inV a=true)(hc:inV c=true)(h:dot Fv a=dot Fv c):a=c:=by
 obtain⟨⟨a1,a2⟩,⟨a3,a4⟩,a5,a6⟩:=(ec5 a).1 ha;obtain⟨⟨c1,c2⟩,⟨c3,c4⟩,c5,c6⟩:=(ec5 c).1 hc;simp only[dot,Fv] at h;exact Qlaf (by omega) (by omega) (by omega)
structure Crs(l:List V3)(p:Pln)(v:V3):Prop where
 h:∃u w,u∈l/\w∈l/\dot p.n u=p.b/\dot p.n w=p.b/\dot Fv w<dot Fv v/\dot Fv v<dot Fv u/\N3 v u w≠⟨0,0,0⟩
 on:dot p.n v=p.b
theorem zf9(u w x:V3):N3 u x w=neg (N3 u w x):=by simp only[N3,g7,Ua9,neg,V3.mk.injEq];refine⟨?_,?_,?_⟩<;>grind
theorem mf1(u w x:V3):N3 w x u=N3 u w x:=by simp only[N3,g7,Ua9,V3.mk.injEq];refine⟨?_,?_,?_⟩<;>grind
theorem Zf8{d:V3}(h:neg d=⟨0,0,0⟩):d=⟨0,0,0⟩:=by
 simp only[neg,V3.mk.injEq] at h;exact Qlaf (by show d.x=0;omega) (by show d.y=0;omega) (by show d.z=0;omega)
section
variable{l:List V3}(hl:l.all inV=true)
include hl
theorem mf2{p:Pln}(hp:Tc6 l p):∃v∈l,Crs l p v:=by
 obtain⟨u,w,x,hu,hw,hx,h3,t1,t2,t3⟩:=hp.on;have hi:=Qlj.1 hl;obtain⟨n1,n3,n2⟩:=Gf9 h3;have ne:∀{a c:V3},a∈l->c∈l->a≠c->dot Fv a<dot Fv c\/dot Fv c<dot Fv a:=λ{a c} ha hc h=>by
  have:dot Fv a≠dot Fv c:=λe=>h (Of8 (hi a ha) (hi c hc) e)
  omega
 have sw:∀{a c d:V3},N3 a c d≠⟨0,0,0⟩->N3 a d c≠⟨0,0,0⟩:=λ{a c d} h e=>h (by
  have e2:=zf9 a c d;rw[e] at e2;exact Zf8 e2.symm)
 have m:∀{a c d:V3},a∈l->c∈l->d∈l->N3 c d a≠⟨0,0,0⟩->dot p.n a=p.b->dot p.n c=p.b->dot p.n d=p.b->dot Fv a<dot Fv c->dot Fv c<dot Fv d->∃v∈l,Crs l p v :=
  λ{a c d} ha hc hd hn ta tc td h1 h2=>⟨c,hc,⟨⟨d,a,hd,ha,td,ta,h1,h2,hn⟩,tc⟩⟩
 have r1:N3 w x u≠⟨0,0,0⟩:=by rw[mf1];exact h3
 have r2:N3 x u w≠⟨0,0,0⟩:=by rw[mf1];exact r1
 rcases ne hu hw n1 with a|a<;>rcases ne hw hx n2 with c|c<;>rcases ne hu hx n3 with d|d
 ·exact m hu hw hx r1 t1 t2 t3 a c
 ·omega
 ·exact m hu hx hw (sw r2) t1 t3 t2 d c
 ·exact m hx hu hw (h3) t3 t1 t2 d a |>.elim λv h=>⟨v,h⟩
 ·exact m hw hu hx (sw h3) t2 t1 t3 a d
 ·exact m hw hx hu r2 t2 t3 t1 c d
 ·omega
 ·exact m hx hw hu (sw r1) t3 t2 t1 c a
theorem mf3(hs:Sol l){p q:Pln}(hp:Tc6 l p)(hq:Tc6 l q){u w x:V3}(hu:u∈l)(hw:w∈l)(hx:x∈l)(h3:N3 u w x≠⟨0,0,0⟩)(p1:dot p.n u=p.b)(p2:dot p.n w=p.b)(p3:dot p.n x=p.b)(q1:dot q.n u=q.b)(q2:dot q.n w=q.b)(q3:dot q.n x=q.b):p=q:=by
 have hi:=Qlj.1 hl;have hT:=(Pb8 (ue8 (hi u hu) (hi w hw) (hi x hx) h3)).2;have fl:∀{p:Pln},Tc6 l p->Tc6 l (Ca2 p)->False:=λ{p} h h'=>by
  obtain⟨v,hv,hne⟩:=hs.off (Le6 h.ok) p.b;have a:=h.hd v hv;have c:=h'.hd v hv;rw[te2] at c;have c:-dot p.n v<=-p.b:=c;omega
 rcases Bd7 hT hp.ok p1 p2 p3 with e|e<;>rcases Bd7 hT hq.ok q1 q2 q3 with e'|e'
 ·rw[e,e']
 ·rw[e',<- e] at hq;exact (fl hp hq).elim
 ·rw[e,<- e'] at hp;exact (fl hq hp).elim
 ·rw[e,e']
theorem ee5(hs:Sol l){p:Pln}{v:V3}(hp:Tc6 l p)(hv:v∈l)(h:Crs l p v):∃d:V3,dot Fv d=0/\dot p.n d=0/\∀q,Tc6 l q->dot q.n v=q.b->q≠p->dot q.n d<0:=by
 obtain⟨⟨u,w,hu,hw,tu,tw,h1,h2,h3⟩,tv⟩:=h;generalize ha:dot Fv v-dot Fv w=a at *
 generalize hc:dot Fv u-dot Fv v=c at *
 have dd:∀n:V3,dot n ⟨c*(w.x-v.x)+a*(u.x-v.x),c*(w.y-v.y)+a*(u.y-v.y),c*(w.z-v.z)+a*(u.z-v.z)⟩=c*(dot n w-dot n v)+a*(dot n u-dot n v):=λn=>by simp only[dot];grind
 refine⟨⟨c*(w.x-v.x)+a*(u.x-v.x),c*(w.y-v.y)+a*(u.y-v.y),c*(w.z-v.z)+a*(u.z-v.z)⟩,?_,?_,λq hq tq hne=>?_⟩
 ·rw[dd,<- ha,<- hc];grind
 ·rw[dd,tu,tw,tv];simp
 ·rw[dd,tq];have g1:=hq.hd w hw;have g2:=hq.hd u hu;have e1:c*(dot q.n w-q.b)<=0:=Qlo (by omega) (by omega)
  have e2:a*(dot q.n u-q.b)<=0:=Qlo (by omega) (by omega)
  apply Qly;intro hno;have z1:=(Qli.1 (show c*(dot q.n w-q.b)=0 by omega)).resolve_left (by omega)
  have z2:=(Qli.1 (show a*(dot q.n u-q.b)=0 by omega)).resolve_left (by omega)
  exact hne (mf3 hl hs hq hp hv hu hw h3 tq (by omega) (by omega) tv tu tw)
end
theorem opp{x y A B:Int}(hA:A<0)(hB:B<0)(h:x*A+y*B=0):(0<x->y<0)/\(x<0->0<y)/\(x=0->y=0):=by
 refine⟨λhx=>?_,λhx=>?_,λhx=>?_⟩
 ·have:=Qlz hx hA
  have h2:0<y*B:=by omega
  rcases Int.lt_trichotomy y 0 with h3|h3|h3
  ·exact h3
  ·rw[h3] at h2;simp at h2
  ·have:=Qlz h3 hB;omega
 ·have:=Qln hx hA
  have h2:y*B<0:=by omega
  rcases Int.lt_trichotomy y 0 with h3|h3|h3
  ·have:=Qln h3 hB;omega
  ·rw[h3] at h2;simp at h2
  ·exact h3
 ·rw[hx] at h;exact (Qli.1 (show y*B=0 by omega)).resolve_right (by omega)
theorem Af0{l:List V3}(hl:l.all inV=true)(hs:Sol l){p q r:Pln}{v:V3}(hv:v∈l)(hp:Tc6 l p)(hq:Tc6 l q)(hr:Tc6 l r)(cp:Crs l p v)(cq:Crs l q v)(cr:Crs l r v):p=q\/q=r\/p=r:=by
 apply Qly;intro hno;have n1:p≠q:=λe=>hno (.inl e)
 have n2:q≠r:=λe=>hno (.inr (.inl e))
 have n3:p≠r:=λe=>hno (.inr (.inr e))
 obtain⟨a,fa,pa,ha⟩:=ee5 hl hs hp hv cp;obtain⟨c,fc,qc,hc⟩:=ee5 hl hs hq hv cq;obtain⟨d,fd,rd,hd⟩:=ee5 hl hs hr hv cr;have pc:=hc p hp cp.on n1;have pd:=hd p hp cp.on n3;have qa:=ha q hq cq.on (Ne.symm n1);have qd:=hd q hq cq.on n2;have ra:=ha r hr cr.on (Ne.symm n3);have rc:=hc r hr cr.on (Ne.symm n2)
 -- the Rf1 directions lie in a plane
 have hdet:dot a (g7 c d)=0:=by
  have e:dot Fv Fv*dot a (g7 c d)=dot Fv a*dot Fv (g7 c d)+dot Fv c*dot Fv (g7 d a)+dot Fv d*dot Fv (g7 a c):=by simp only[dot,g7,Fv];grind
  rw[fa,fc,fd] at e;have hF:dot Fv Fv=100010001:=by decide
  rw[hF] at e;omega
 have lin:∀n:V3,dot Fv (g7 c d)*dot n a+dot Fv (g7 d a)*dot n c+dot Fv (g7 a c)*dot n d=0:=λn=>by
  have e:dot Fv (g7 c d)*dot n a+dot Fv (g7 d a)*dot n c+dot Fv (g7 a c)*dot n d=dot a (g7 c d)*dot n Fv:=by simp only[dot,g7];grind
  rw[e,hdet,Int.zero_mul]
 have lp:=lin p.n;have lq:=lin q.n;have lr:=lin r.n;rw[pa] at lp;rw[qc] at lq;rw[rd] at lr;obtain⟨i1,i2,i3⟩:=opp pc pd (by omega:dot Fv (g7 d a)*dot p.n c+dot Fv (g7 a c)*dot p.n d=0)
 obtain⟨j1,j2,j3⟩:=opp qa qd (by omega:dot Fv (g7 c d)*dot q.n a+dot Fv (g7 a c)*dot q.n d=0)
 obtain⟨k1,k2,k3⟩:=opp ra rc (by omega:dot Fv (g7 c d)*dot r.n a+dot Fv (g7 d a)*dot r.n c=0)
 have z:dot Fv (g7 a c)=0:=by omega
 -- so two of them are alike
 have cr0:g7 a c=⟨0,0,0⟩:=by
  have e1:dot Fv Fv*(g7 a c).x=Fv.x*dot Fv (g7 a c)+dot Fv a*(g7 Fv c).x-dot Fv c*(g7 Fv a).x:=by simp only[dot,g7,Fv];grind
  have e2:dot Fv Fv*(g7 a c).y=Fv.y*dot Fv (g7 a c)+dot Fv a*(g7 Fv c).y-dot Fv c*(g7 Fv a).y:=by simp only[dot,g7,Fv];grind
  have e3:dot Fv Fv*(g7 a c).z=Fv.z*dot Fv (g7 a c)+dot Fv a*(g7 Fv c).z-dot Fv c*(g7 Fv a).z:=by simp only[dot,g7,Fv];grind
  rw[z,fa,fc] at e1 e2 e3;have hF:dot Fv Fv=100010001:=by decide
  rw[hF] at e1 e2 e3;exact Qlaf (by show (g7 a c).x=0;omega) (by show (g7 a c).y=0;omega) (by show (g7 a c).z=0;omega)
 have k:∀n:V3,dot p.n c*dot n a=dot p.n a*dot n c+dot n (g7 p.n (g7 a c)):=λn=>by simp only[dot,g7];grind
 have hk:=k q.n;rw[cr0,pa,qc] at hk;have e0:dot q.n (g7 p.n ⟨0,0,0⟩)=0:=by simp[dot,g7]
 rw[e0] at hk
 have:=Qln pc qa
 omega
theorem Of9{α:Type}{l:List α}(hn:l.Nodup)(h:∀x∈l,∀y∈l,∀z∈l,x=y\/y=z\/x=z):l.length<=2:=by
 match l with
 |[]=>simp
 |[_]=>simp
 |[_,_]=>simp
 |x::y::z::l =>
  exfalso;simp only[List.nodup_cons,Qlp,not_or] at hn
  rcases h x (by simp) y (by simp) z (by simp) with e|e|e
  ·exact hn.1.1 e
  ·exact hn.2.1.1 e
  ·exact hn.1.2.1 e
theorem Sd9{α β:Type}{R:α->β->Prop}:∀(B:List β) (A:List α),A.Nodup->(∀x∈A,∃v∈B,R x v)->(∀v∈B,∀x∈A,∀y∈A,∀z∈A,R x v->R y v->R z v->x=y\/y=z\/x=z)->A.length<=2*B.length
 |[],A,_,h1,_=>by
  cases A with
  |nil=>simp
  |cons a A=>obtain⟨v,hv,_⟩:=h1 a (by simp);cases hv
 |b::B,A,hn,h1,h2=>by
  classical
  have hs:A.length=(A.filter λx=>decide (R x b)).length+(A.filter λx=>!decide (R x b)).length:=by
   rw[<- Qlg,<- Qlg]
   have:=Qlq (λx=>decide (R x b)) (l:=A)
   rw[this];congr 1;apply List.countP_congr;intro x _;simp
  have a1:(A.filter λx=>decide (R x b)).length<=2:=Of9 (hn.filter _) λx hx y hy z hz=>by
   obtain⟨x1,x2⟩:=Qle.1 hx;obtain⟨y1,y2⟩:=Qle.1 hy;obtain⟨z1,z2⟩:=Qle.1 hz;exact h2 b (by simp) x x1 y y1 z z1 (of_decide_eq_true x2) (of_decide_eq_true y2) (of_decide_eq_true z2)
  have a2:=Sd9 (R:=R) B (A.filter λx=>!decide (R x b)) (hn.filter _) (λx hx=>by
   obtain⟨x1,x2⟩:=Qle.1 hx;have x2:¬ R x b:=by simpa using x2
   obtain⟨v,hv,hr⟩:=h1 x x1
   rcases Qlp.1 hv with rfl|hv
   ·exact absurd hr x2
   ·exact⟨v,hv,hr⟩) (λv hv x hx y hy z hz=>h2 v (by simp[hv]) x (Qle.1 hx).1 y (Qle.1 hy).1 z (Qle.1 hz).1)
  simp only[List.length_cons];omega
theorem mf4{α:Type}(f:α->Int):∀l:List α,l≠[]->∃m∈l,∀x∈l,f m<=f x
 |[],h=>absurd rfl h
 |[a],_=>⟨a,by simp,λx hx=>by rw[Qlm.1 hx];exact Int.le_refl _⟩
 |a::c::l,_=>by
  obtain⟨m,hm,h⟩:=mf4 f (c::l) (by simp)
  by_cases hle:f a<=f m
  ·refine⟨a,by simp,λx hx=>?_⟩
   rcases Qlp.1 hx with rfl|hx
   ·exact Int.le_refl _
   ·have:=h x hx;omega
  ·refine⟨m,List.mem_cons_of_mem _ hm,λx hx=>?_⟩
   rcases Qlp.1 hx with rfl|hx
   ·omega
   ·exact h x hx
theorem Pf0{l:List V3}(hl:l.all inV=true)(hf:nf0 l=true):(F0 l).length<=2*(l.length-2):=by
 classical
 have hs:=Of7 hf;have hF:∀p∈F0 l,Tc6 l p:=λp hp=>(zf8 hl p).1 hp
 obtain⟨v0,hv0⟩:=hs.ne;have hne:l≠[]:=λe=>by rw[e] at hv0;cases hv0
 obtain⟨m,hm,hmin⟩:=mf4 (dot Fv) l hne;obtain⟨M,hM,hmax⟩:=mf4 (λv=>-dot Fv v) l hne
 by_cases h0:F0 l=[]
 ·rw[h0];simp
 obtain⟨p0,hp0⟩:=List.exists_mem_of_ne_nil _ h0;obtain⟨v1,hv1,c1⟩:=mf2 hl (hF p0 hp0);obtain⟨u1,w1,hu1,hw1,_,_,q1,q2,_⟩:=c1.h;have hmM:m≠M:=λe=>by
  have a1:=hmin w1 hw1;have a2:=hmax u1 hu1;subst e;omega
 have hB:(l.filter λv=>decide (v≠m)&&decide (v≠M)).length+2<=l.length:=by
  have e:=Qlq (λv=>decide (v≠m)&&decide (v≠M)) (l:=l)
  rw[Qlg] at e;rw[Qlg] at e
  have:([m,M]:List V3).length<=(l.filter λa=>decide (¬ (decide (a≠m)&&decide (a≠M))=true)).length :=
   List.Nodup.length_le_of_subset (by simp[hmM]) (λx hx=>by
    simp only[Qlp,List.not_mem_nil,or_false] at hx;rw[Qle]
    rcases hx with rfl|rfl
    ·exact⟨hm,by simp⟩
    ·exact⟨hM,by simp⟩)
  simp only[List.length_cons,List.length_nil] at this;omega
 have:=Sd9 (R:=λp v=>Crs l p v) (l.filter λv=>decide (v≠m)&&decide (v≠M)) (F0 l) (Ue1 (Of4 l))
  (λp hp=>by
   obtain⟨v,hv,c⟩:=mf2 hl (hF p hp);refine⟨v,Qle.2 ⟨hv,?_⟩,c⟩;obtain⟨u,w,hu,hw,_,_,g1,g2,_⟩:=c.h;have a1:=hmin w hw;have a2:=hmax u hu;have k1:v≠m:=λe=>by subst e;omega
   have k2:v≠M:=λe=>by subst e;omega
   simp[k1,k2])
  (λv hv p hp q hq r hr=>Af0 hl hs (Qle.1 hv).1 (hF p hp) (hF q hq) (hF r hr))
 omega
set_option maxRecDepth 100000
structure pf0 where
 (Ia0 Ia1 Ia2 j7 e8 j8 l8:Int)
structure pf1 where
 alt:Nat
 bs0:Bool
structure Td0 where
 k9:List V3
 (j7 e8 j8 l8:Int)
structure Dd3 where
 k9:List V3
 (is7 j7 e8 j8 l8:Int)
structure Dd4 where
 is8:Int
structure Td1 where
 alt:Nat
 is0:Int
structure Bd8 where
 k9:List V3
 (j7 e8 j8 l8:Int)
structure Bd9 where
 alt:Nat
 bs0:Bool
structure pf2 where
 (is3 is4 is9 xa2 ng1 ng2 ng4:Int)
 (Ud1 Ud2:List V3)
structure pf8 where
 ng5:Int
structure pf9 where
 (is3 is9 xa2 ng1:Int)
structure qf0 where
 ng2:Int
 (Ud1 Ud2:List V3)
structure qf1 where
 is9:Int
structure qf2 where
 xa2:Int
 (Ud1 Ud2:List V3)
end Go.Ev.Ce
namespace Go.Ev
open Go Go.ChangeShapes Go.RowKit
structure Cd0(w w':World):Prop where
 os:w'.os=w.os
 output:w'.output=w.output
 size:w.heap.size<=w'.heap.size
 block:∀k,k<w.heap.size->w'.heap[k]?=w.heap[k]?
theorem Cd0.kept{w w':World}(h:Cd0 w w')(may:MemPlace->Prop):w.keptBut w' may:=by
 refine⟨h.os,h.output,λi hi=>?_⟩
 rw[h.block i hi];cases w.heap[i]? with
 |none=>rfl
 |some o=>cases o<;>first | exact⟨rfl,rfl,rfl,λ_ _=>rfl⟩ | exact .inr ⟨rfl,rfl⟩ | rfl
theorem Cd0.frozen{w w':World}(h:Cd0 w w')(b off:Nat)(hb:b<w.heap.size):w'.frozen? ⟨b,off,none⟩=w.frozen? ⟨b,off,none⟩:=by
 simp only[World.frozen?,h.block b hb]
theorem Cd0.cell{w w':World}(h:Cd0 w w')(b off:Nat)(hb:b<w.heap.size):w'.cell? ⟨b,off,none⟩=w.cell? ⟨b,off,none⟩:=by
 simp only[World.cell?,h.block b hb]
theorem Cd0.same{w w':World}(h:Cd0 w w')(p:MemPlace)(hp:p.block<w.heap.size):w.sameAt w' p:=by
 cases p with
 |cell b off=>exact h.cell b off hp
 |map b=>exact h.block b hp
theorem ac0{α β:Type}{f:α->Option β}:∀{l:List α} {r:List β},l.mapM f=some r->r.length=l.length/\∀(j:Nat) y,r[j]?=some y->∃x,l[j]?=some x/\f x=some y
 |[],r,h=>by
  have:r=[]:=by simpa using h.symm
  subst this;simp
 |x::l,r,h=>by
  rw[List.mapM_cons] at h;obtain⟨y,h1,h2⟩:=Qll.1 h;obtain⟨r',h3,h4⟩:=Qll.1 h2
  have:r=y::r':=by simpa using h4.symm
  subst this;obtain⟨g1,g2⟩:=ac0 h3;refine⟨by simp[g1],λj z hz=>?_⟩
  cases j with
  |zero=>simp at hz;subst hz;exact⟨x,rfl,h1⟩
  |succ j=>simpa using g2 j z (by simpa using hz)
section
variable{D:Type}{enc:TypeId×Value->D}{P:Program}
theorem Dc6 {T : TypeId → Prop} (K : Kids P T) (hsz : ∀ {t e : TypeId}, T t → P.underlying t = some (.slice e) → 0 < P.cellsOf e) {w w' : World} {sp : Nat → Bool} (hs : Cd0 w w') :
  ∀{ts:List TypeId} {vs:List Value} {ds:List (DataW D)} {ps:List MemPlace},(∀t∈ts,T t)->DataW.TrodAll enc P w 0 (λ_=>true) true ts vs ds ps->(∀p∈ps,p.block<w.heap.size)->(∀p∈ps,sp p.block=true)->DataW.TrodAll enc P w' 0 sp true ts vs ds ps
 |[],[],[],_,_,h,_,_=>h
 |t::ts,v::vs,d::ds,ps,ht,h,hlt,hsp=>by
  obtain⟨p,q,⟨fuel,h1⟩,h2,rfl⟩:=h;refine⟨p,q,⟨fuel,?_⟩,Dc6 K hsz hs (λt h=>ht t (by simp[h])) h2 (λx hx=>hlt x (by simp[hx])) (λx hx=>hsp x (by simp[hx])),rfl⟩
  exact DataW.trod_stays K hsz (λh=>by cases h) (ht t (by simp)) h1 (λx hx=>hs.same x (hlt x (by simp at hx ⊢;exact .inl hx))) (λx hx=>hsp x (by simp at hx ⊢;exact .inl hx))
 |[],_::_,_,_,_,h,_,_=>h.elim
 |[],[],_::_,_,_,h,_,_=>h.elim
 |_::_,[],_,_,_,h,_,_=>h.elim
 |_::_,_::_,[],_,_,h,_,_=>h.elim
theorem mf5 {T : TypeId → Prop} (K : Kids P T) (hsz : ∀ {t e : TypeId}, T t → P.underlying t = some (.slice e) → 0 < P.cellsOf e) {f : Func} {s : ChangeSpec} {apart fresh handsOn again : Bool} {W W' : World} {args : Array Value} {ds gs : List (DataW D)} {before : List MemPlace} {tb : TypeId}
  (hT:∀t∈f.params.toList,T t) (hW:DataW.Whole enc P f.params.toList s.vars apart W args.toList ds gs before) (hv:s.vars=[]) (hr:f.resultTypes=#[tb]) (hb:P.underlying tb=some .bool)
  (h1:(s.fn D ds).results=[.lit (.bool true)]) (h2:(s.fn D ds).args=ds) (h3:(s.fn D ds).vars=[]) (hs:Cd0 W W') :
  s.post enc P f apart fresh handsOn again W args (.bool true) W':=by
 have hlt:=hW.lt;obtain⟨pa,pv,hA,hV,hps,hz,hn⟩:=id hW;rw[hv] at hV;have hpv:gs=[]/\pv=[]:=by
  cases gs with
  |nil=>exact⟨rfl,hV⟩
  |cons=>exact hV.elim
 obtain⟨rfl,rfl⟩:=hpv;rw[<- Qlab ds] at h1 h3;have h2:(s.fn D (ds++[])).args=ds:=by rw[Qlab];exact h2
 have hpa:before=pa:=by rw[hps];simp
 subst hpa;have hagain:∀sp:Nat->Bool,(∀p∈before,sp p.block=true)->DataW.TrodAll enc P W' 0 sp true f.params.toList args.toList ds before:=λsp h=>Dc6 K hsz hs hT hA hlt h
 have hres:∀(b:Nat) (sp:Nat->Bool) (hd:Bool),DataW.TrodAll enc P W' b sp hd f.resultTypes.toList ((Value.bool true).resultList f.resultTypes.size) [.lit (.bool true)] []:=λb sp hd=>by
  rw[hr];exact⟨[],[],⟨1,by simp[DataW.trod,hb,Value.cells,Value.resultList]⟩,rfl,rfl⟩
 have hvars:∀sp:Nat->Bool,DataW.TrodVars enc P W' sp s.vars ([]:List (DataW D)) []:=λsp=>by rw[hv];exact rfl
 have hok:∀(j:Nat) (t:TypeId) (r:Value),f.resultTypes[j]?=some t->((Value.bool true).resultList f.resultTypes.size)[j]?=some r->Value.okWide P W' .any 0 t r:=by
  rw[hr];intro j t r h4 h5;cases j with
  |zero =>
   simp at h4
   subst h4
   have:r=.bool true:=by simpa [Value.resultList] using h5.symm
   subst this;exact okWide_bool_mk hb _
  |succ j=>simp at h4
 have hag:DataW.TrodAll enc P W' 0 (λ_=>true) true (f.resultTypes.toList++f.params.toList) ((Value.bool true).resultList f.resultTypes.size++args.toList) (.lit (.bool true)::ds) before:=by
  have:=hagain (λ_=>true) (λ_ _=>rfl)
  rw[hr];exact⟨[],before,⟨1,by simp[DataW.trod,hb,Value.cells,Value.resultList]⟩,this,rfl⟩
 refine⟨ds,[],before,[],before,[],hW,?_,?_,?_,hs.kept _,λ_=>?_⟩
 ·rw[h1];exact hres _ _ _
 ·rw[h2];exact hagain _ λp hp=>by simpa using hlt p hp
 ·rw[h3];exact hvars _
 ·refine⟨hok,.lit (.bool true)::ds,[],before,⟨before,[],hag,hvars _,by simp,?_,?_⟩,?_⟩
  ·intro b off hp;rw[hs.frozen b off (hlt _ hp)];exact hz b off (by simpa using hp)
  ·intro ha;simpa using hn ha
  ·intro p hp _;exact hp
variable{w:World}{base:Nat}{spare:Nat->Bool}{held:Bool}
def Jc0(w:World):Fz:=λb o=>(w.cell? ⟨b,o,none⟩).isSome
theorem Pf1 {fuel : Nat} {t : TypeId} {k : IntKind} {cs : List Value} {x : DataW D × List MemPlace} (ht : P.underlying t = some (.int k)) (h : DataW.trod enc P w base spare held fuel t cs = some x) :
  ∃n,cs=[.int k n]/\(Lit.int k n).wf=true/\x.1=.lit (.int k n):=by
 cases fuel with
 |zero=>cases h
 |succ fuel =>
  match cs,h with
  |[],h=>simp[DataW.trod,ht] at h
  |[v],h =>
   cases v with
   |int k' n =>
    simp only[DataW.trod,ht] at h
    split at h
    ·rename_i hk;obtain⟨rfl,hw⟩:=hk;injection h with h;subst h
     exact⟨n,rfl,hw,rfl⟩
    ·cases h
   |_=>simp[DataW.trod,ht] at h
  |a::b::r,h=>simp[DataW.trod,ht] at h
theorem Af1 {fuel : Nat} {t : TypeId} {cs : List Value} {x : DataW D × List MemPlace} (ht : P.underlying t = some .bool) (h : DataW.trod enc P w base spare held fuel t cs = some x) :
  ∃n,cs=[.bool n]/\x.1=.lit (.bool n):=by
 cases fuel with
 |zero=>cases h
 |succ fuel =>
  match cs,h with
  |[],h=>simp[DataW.trod,ht] at h
  |[v],h =>
   cases v with
   |bool n =>
    simp only[DataW.trod,ht] at h;injection h with h;subst h
    exact⟨n,rfl,rfl⟩
   |_=>simp[DataW.trod,ht] at h
  |a::b::r,h=>simp[DataW.trod,ht] at h
theorem mf6 {fuel : Nat} {t e : TypeId} {n : Nat} {cs : List Value} {x : DataW D × List MemPlace} (ht : P.underlying t = some (.array n e)) (h : DataW.trod enc P w base spare held fuel t cs = some x) :
  cs.length=P.cellsOf t/\∃(fuel':Nat) (xs:List (DataW D×List MemPlace)),xs.length=n/\x.1=.agg (xs.map (·.1))/\∀(j:Nat) y,xs[j]?=some y->DataW.trod enc P w base spare held fuel' e ((cs.drop (j*P.cellsOf e)).take (P.cellsOf e))=some y:=by
 cases fuel with
 |zero=>cases h
 |succ fuel =>
  unfold DataW.trod at h;rw[ht] at h
  simp only at h
  split at h
  ·rename_i hl;obtain⟨xs,h1,h2⟩:=Qlac.1 h;have hx:=ac0 h1;exact⟨hl,fuel,xs,by simpa using hx.1,by rw[<- h2],λj y hy=>by
    obtain⟨a,ha,hb⟩:=hx.2 j y hy
    have:j<n:=by
     have:=(List.getElem?_eq_some_iff.1 hy).1
     rw[hx.1] at this;simpa using this
    rw[Qlu this] at ha;injection ha with ha;subst ha;exact hb⟩
  ·cases h
theorem Ue8 {fuel : Nat} {t : TypeId} {fs : Array Field} {cs : List Value} {x : DataW D × List MemPlace} (ht : P.underlying t = some (.struct fs)) (h : DataW.trod enc P w base spare held fuel t cs = some x) :
  cs.length=P.cellsOf t/\∃(fuel':Nat) (xs:List (DataW D×List MemPlace)),xs.length=fs.size/\x.1=.agg (xs.map (·.1))/\∀(j:Nat) f,fs[j]?=some f->∃y,xs[j]?=some y/\DataW.trod enc P w base spare held fuel' f.type ((cs.drop f.offset).take (P.cellsOf f.type))=some y:=by
 cases fuel with
 |zero=>cases h
 |succ fuel =>
  unfold DataW.trod at h;rw[ht] at h
  simp only at h
  split at h
  ·rename_i hl;obtain⟨xs,h1,h2⟩:=Qlac.1 h;have hx:=ac0 h1;refine⟨hl,fuel,xs,by simpa using hx.1,by rw[<- h2],λj f hf=>?_⟩
   have hj:j<xs.length:=by
    rw[hx.1];simpa using (Array.getElem?_eq_some_iff.1 hf).1
   obtain⟨a,ha,hb⟩:=hx.2 j _ (Qlf hj)
   have:a=f:=by
    have:fs.toList[j]?=some f:=by simpa using hf
    exact Option.some.inj (ha.symm.trans this)
   subst this;exact⟨_,Qlf hj,hb⟩
  ·cases h
theorem ue9 {fuel : Nat} {t e : TypeId} {cs : List Value} {x : DataW D × List MemPlace} (ht : P.underlying t = some (.slice e)) (h : DataW.trod enc P w base spare held fuel t cs = some x) :
  cs=[.slice none 0 0]\/∃(a:Addr) (n cap fuel':Nat),cs=[.slice (some a) n cap]/\n<=cap/\cap<=maxLen/\∀j,j<n->∃row y,w.cells? base (a.add (j*P.cellsOf e)) (P.cellsOf e)=some row/\DataW.trod enc P w base spare held fuel' e row=some y:=by
 cases fuel with
 |zero=>cases h
 |succ fuel =>
  match cs,h with
  |[],h=>simp[DataW.trod,ht] at h
  |[v],h =>
   cases v with
   |slice a len cap =>
    cases a with
    |none =>
     simp only[DataW.trod,ht] at h
     split at h<;>first | (rename_i e1;cases e1;done) | skip
     all_goals first | exact .inl rfl | (simp_all;done) | skip
    |some a =>
     refine .inr ?_;simp only[DataW.trod,ht] at h
     split at h
     ·rename_i hc;obtain⟨elems,h1,h2⟩:=Qll.1 h;have hx:=ac0 h1;refine⟨a,len,cap,fuel,rfl,hc.2.1,hc.2.2,λj hj=>?_⟩
      have hj':j<elems.length:=by rw[hx.1];simpa using hj
      obtain⟨i,hi,hb⟩:=hx.2 j _ (Qlf hj');rw[Qlu hj] at hi;injection hi with hi;subst hi;obtain⟨row,r1,r2⟩:=Qll.1 hb;exact⟨row,_,r1,r2⟩
     ·cases h
   |_=>simp[DataW.trod,ht] at h
  |a::b::r,h=>simp[DataW.trod,ht] at h
theorem Me4:∀(d:Nat) (t:TypeId) (l:List (Nat×CK)),ha4 P d t=some l->∀(fuel:Nat) (cs:List Value) (x:DataW D×List MemPlace),DataW.trod enc P w base spare held fuel t cs=some x->∀p∈l,Ra2 cs.toArray p
 |0,_,_,h,_,_,_,_=>by cases h
 |d+1,t,l,h,fuel,cs,x,hx=>by
  have hpart:∀{off n:Nat} {e:TypeId} {l':List (Nat×CK)} {fuel':Nat} {y:DataW D×List MemPlace},mc1 off n (ha4 P d e)=some l'->DataW.trod enc P w base spare held fuel' e ((cs.drop off).take n)=some y->∀p∈l',Ra2 cs.toArray p:=λ{off n e l' fuel' y} h1 h2 p hp=>by
   obtain⟨l2,g1,g2,rfl⟩:=bb7 h1;obtain⟨q,hq,rfl⟩:=List.mem_map.1 hp
   have:=Me4 d e l2 g1 fuel' _ y h2 q hq
   have hlt:=g2 q hq;unfold Ra2 at this ⊢;simp only[List.getElem?_toArray,List.getElem?_take,hlt,if_true,List.getElem?_drop] at this ⊢;exact this
  have hcat:∀{α:Type} (f:α->Option (List (Nat×CK))) (xs:List α) (l:List (Nat×CK)),xa4 (xs.map f)=some l->∀p∈l,∃a∈xs,∃l',f a=some l'/\p∈l':=λ{α} f xs=>by
   induction xs with
   |nil=>intro l h;simp only[List.map_nil,xa4] at h;injection h with h;subst h;simp
   |cons a xs ih =>
    intro l h p hp;simp only[List.map_cons,xa4] at h;cases h1:f a with
    |none=>simp[h1] at h
    |some l1 =>
    cases h2:xa4 (xs.map f) with
    |none=>simp[h1,h2] at h
    |some l2 =>
    simp only[h1,h2] at h;injection h with h;subst h
    rcases Qlt.1 hp with hp|hp
    ·exact⟨a,by simp,l1,h1,hp⟩
    ·obtain⟨b,hb,r⟩:=ih l2 h2 p hp;exact⟨b,by simp[hb],r⟩
  unfold ha4 at h;cases hu:P.underlying t with
  |none=>simp[hu] at h
  |some u =>
  cases u with
  |int k =>
   simp only[hu] at h;injection h with h;subst h
   obtain⟨n,rfl,_,_⟩:=Pf1 hu hx;intro p hp;simp at hp;subst hp;exact⟨n,rfl⟩
  |bool =>
   simp only[hu] at h;injection h with h;subst h
   obtain⟨n,rfl,_⟩:=Af1 hu hx;intro p hp;simp at hp;subst hp;exact⟨n,rfl⟩
  |struct fs =>
   simp only[hu] at h
   split at h
   ·cases h
   obtain⟨_,fuel',xs,_,_,hxs⟩:=Ue8 hu hx;intro p hp;obtain⟨f,hf,l',h1,h2⟩:=hcat _ _ _ h p hp
   split at h1
   ·cases h1
   obtain⟨j,hj⟩:=List.getElem?_of_mem hf;obtain⟨y,_,hy⟩:=hxs j f (by simpa using hj)
   have hc:P.cellsOf f.type=szT P f.type:=by
    unfold Program.cellsOf szT;cases P.info? f.type<;>rfl
   rw[hc] at hy;exact hpart h1 hy p h2
  |array n e =>
   simp only[hu] at h
   split at h
   case isFalse=>cases h
   obtain⟨_,fuel',xs,hn,_,hxs⟩:=mf6 hu hx;intro p hp;obtain⟨j,hj,l',h1,h2⟩:=hcat _ _ _ h p hp;have hj':j<xs.length:=by rw[hn];simpa using hj
   have hy:=hxs j _ (Qlf hj');have hc:P.cellsOf e=szT P e:=by
    unfold Program.cellsOf szT;cases P.info? e<;>rfl
   rw[hc] at hy;exact hpart h1 hy p h2
  |_=>simp[hu] at h
def Va0(k:IntKind)(es:Nat)(g:Nat->Int):List b8:=(List.range es).map λc=>.v (.int k (g c))
def Ja9(k:IntKind)(es:Nat):List (Nat×CK):=(List.range es).map λc=>(c,.int k)
theorem Me5 {d : Nat} {t : TypeId} {k : IntKind} {es : Nat} (hf : ha4 P d t = some (Ja9 k es)) {fuel : Nat} {cs : List Value} {x : DataW D × List MemPlace} (hx : DataW.trod enc P w base spare held fuel t cs = some x) (hl : cs.length = es) :
  ∃g:Nat->Int,∀c,c<es->cs[c]?=some (.int k (g c)):=by
 have h:=Me4 d t _ hf fuel cs x hx;have h':∀c,∃n:Int,c<es->cs[c]?=some (.int k n):=λc=>by
  by_cases hc:c<es
  ·have:=h (c,.int k) (List.mem_map.2 ⟨c,by simpa using hc,rfl⟩)
   obtain⟨n,hn⟩:=this;exact⟨n,λ_=>by simpa using hn⟩
  ·exact⟨0,λh=>absurd h hc⟩
 exact⟨λc=>Classical.choose (h' c),λc hc=>Classical.choose_spec (h' c) hc⟩
theorem mf7{F:Fz}{w:World}(k:IntKind)(n:Int):ga7 F w (.v (.int k n)) (.int k n):=.v _ rfl
theorem Cd1{k:IntKind}{es:Nat}{g:Nat->Int}{c:Nat}{x:b8}(h:(Va0 k es g)[c]?=some x):c<es/\x=.v (.int k (g c)):=by
 unfold Va0 at h;obtain⟨h1,h2⟩:=eb4 h;exact⟨h1,h2.symm⟩
theorem Dc7 {t e : TypeId} {k : IntKind} {es d : Nat} (ht : P.underlying t = some (.slice e)) (hf : ha4 P d e = some (Ja9 k es)) (hes : P.cellsOf e = es) (h0 : 0 < es) {fuel : Nat} {cs : List Value} {x : DataW D × List MemPlace} (hx : DataW.trod enc P w 0 spare held fuel t cs = some x) :
  ∃(v:Value) (n:Nat) (g:Nat->Nat->Int),cs=[v]/\n<=maxLen/\ga7 (Jc0 w) w (.tree es n λj=>Va0 k es (g j)) v:=by
 rcases ue9 ht hx with rfl|⟨a,n,cap,fuel',rfl,hn,hc,hel⟩
 ·exact⟨_,0,λ_ _=>0,rfl,Qlb _,.nil _ _⟩
 ·rw[hes] at hel;have hcell:∀j,j<n->∃g:Nat->Int,∀c,c<es->w.cell? ((a.add (j*es)).add c)=some (.int k (g c)):=λj hj=>by
   obtain⟨row,y,h1,h2⟩:=hel j hj;unfold World.cells? at h1
   split at h1
   ·obtain⟨l1,l2⟩:=ac0 h1;have hl:row.length=es:=by simpa using l1
    obtain⟨g,hg⟩:=Me5 hf h2 hl;refine⟨g,λc hc=>?_⟩
    obtain⟨i,hi,hi2⟩:=l2 c _ (hg c hc);rw[Qlu hc] at hi;injection hi with hi;subst hi;exact hi2
   ·cases h1
  have hg:∀j,∃g:Nat->Int,j<n->∀c,c<es->w.cell? ((a.add (j*es)).add c)=some (.int k (g c)):=λj=>by
   by_cases hj:j<n
   ·obtain⟨g,hg⟩:=hcell j hj;exact⟨g,λ_=>hg⟩
   ·exact⟨λ_=>0,λh=>absurd h hj⟩
  obtain⟨g,hg⟩:=Classical.axiomOfChoice hg;have hspot:0<n->a.spot=none:=λhn=>by
   have:=hg 0 hn 0 h0
   simpa [Addr.add] using World.cell?_spot this
  have hw:∀j c,j<n->c<es->w.cell? ⟨a.block,a.off+(j*es+c),none⟩=some (.int k (g j c)):=λj c hj hc=>by
   have:=hg j hj c hc
   rw[aa0 (hspot (by omega)),aa0 rfl] at this
   simpa [Nat.add_assoc] using this
  refine⟨_,n,g,rfl,Qlk hn hc,.tree es n _ a cap (λj c=>.int k (g j c)) hspot hn (λi hi=>by simp[Va0]) (λi c hi hc=>?_) hw λi c hi hc=>?_⟩
  ·unfold Jc0;rw[hw i c hi hc];rfl
  ·have:=(Cd1 (Qlf hc)).2
   rw[this];exact mf7 _ _
theorem Ue9(w:World):E3 (λk=>w.heap.size<=k) (λ_=>⟨0,0,0⟩) [] (Jc0 w) w :=
 ⟨λid b h=>by simp at h,λid id' b b' h=>by simp at h,λ_ _ h=>h,λ_ h=>h⟩
theorem Ve0 {G : Nat → List Value} {f : FuncId} {S : Sum} (hS : i7 P G f S) {aargs : List b8} {args : List Value} (hrun : ∃ out, (S aargs []).run = some (b true, out)) (hl : aargs.length = args.length)
  (ha:∀(i:Nat) x x',aargs[i]?=some x->args[i]?=some x'->la1 (λ_=>⟨0,0,0⟩) [] (Jc0 w) w x x') (hG:∀g (c:Nat) x,(G g)[c]?=some x->x.oneCell'=true/\w.cell? ⟨g,c,none⟩=some x) :
  Calls P f args.toArray w λe w'=>e=.returned (.bool true)/\Cd0 w w':=by
 obtain⟨out,hrun⟩:=hrun;obtain⟨_,hc⟩:=hS aargs [] (b true) out hrun (λk=>w.heap.size<=k) (λ_=>⟨0,0,0⟩) (Jc0 w) w args (Ue9 w) hl (λi x x' h1 h2=>.val (ha i x x' h1 h2)) (λg c x hx=>by
  obtain⟨h1,h2⟩:=hG g c x hx;exact⟨h1,by unfold Jc0;rw[h2];rfl,h2⟩)
 refine hc.mono λe w' ⟨r',he,ρ',F',hA,hH,hW⟩=>?_
 have:=ma4 hW
 subst this;exact⟨he,hA.ext.os,hA.ext.output,hA.ext.size,λk hk=>hA.ext.block k hk (by omega)⟩
theorem Af2 {ρ : Rho} {H : List b9} {F : Fz} {t : TypeId} {k : IntKind} {es d : Nat} {v : Value} {dd : DataW D} {pp : List MemPlace} {bs : Nat} {r : Reach} (hag : agT P t = true) (hf : ha4 P d t = some (Ja9 k es)) (hes : P.cellsOf t = es)
  (hok:Value.okWide P w r bs t v) (h:DataW.Trod enc P w base spare held t v dd pp):∃g:Nat->Int,la1 ρ H F w (.agg (Va0 k es g)) v:=by
 have hv:∃cs:Array Value,v=.agg cs/\cs.size=P.cellsOf t:=by
  unfold agT at hag;unfold Value.okWide at hok
  split at hag
  ·rename_i fs hu;rw[hu] at hok;obtain⟨cs,h1,h2,_⟩:=hok;exact⟨cs,h1,h2⟩
  ·rename_i n e hu;rw[hu] at hok;obtain⟨cs,h1,h2,_⟩:=hok;exact⟨cs,h1,h2⟩
  ·cases hag
 obtain⟨cs,rfl,hsz⟩:=hv;obtain⟨fuel,hx⟩:=h;have hx:DataW.trod enc P w base spare held fuel t cs.toList=some (dd,pp):=hx;obtain⟨g,hg⟩:=Me5 hf hx (by simpa [hes] using hsz)
 refine⟨g,.agg _ _ (by simp[Va0,hsz,hes]) λc x x' h1 h2=>?_⟩
 obtain⟨hc,rfl⟩:=Cd1 h1
 have:=hg c hc
 have h3:some x'=some (.int k (g c)):=by rw[<- h2];simpa using this
 injection h3 with h3;subst h3;exact .v _
theorem Td2 {ρ : Rho} {H : List b9} {t e : TypeId} {k : IntKind} {es d : Nat} {v : Value} {dd : DataW D} {pp : List MemPlace} {bs : Nat} {r : Reach} (ht : P.underlying t = some (.slice e)) (hf : ha4 P d e = some (Ja9 k es)) (hes : P.cellsOf e = es) (h0 : 0 < es)
  (hok:Value.okWide P w r bs t v) (h:DataW.Trod enc P w 0 spare held t v dd pp):∃(n:Nat) (g:Nat->Nat->Int),n<=maxLen/\la1 ρ H (Jc0 w) w (.tree es n λj=>Va0 k es (g j)) v:=by
 obtain⟨fuel,hx⟩:=h;obtain⟨v',n,g,h1,h2,h3⟩:=Dc7 ht hf hes h0 hx;have hv:v.cells=#[v]:=by
  unfold Value.okWide at hok;rw[ht] at hok;cases v with
  |agg cs=>exfalso;simp[Cell.okWide,Cell.ok,ht] at hok
  |_=>rfl
 rw[hv] at h1
 have:v=v':=by simpa using h1
 subst this;exact⟨n,g,h2,.cell (.mem h3)⟩
end
end Go.Ev
namespace Go.Ev.L
open Go Go.Ev
theorem mf8 {α : Type} (t : Ty α) (n : Nat) (g : Nat → Nat → Int) (f : (Nat → Int) → α) (h : ∀ j, Va0 .i64 t.es (g j) = t.row (f (g j))) :
  ∃l,(G4 t).dec (.tree t.es n λj=>Va0 .i64 t.es (g j))=some l/\(G4 t).grd (.tree t.es n λj=>Va0 .i64 t.es (g j))=true:=by
 refine⟨lsL t n λj=>Va0 .i64 t.es (g j),?_,eb8 t (f:=λk=>f (g k)) λk _=>h k⟩
 show Bool.rec (motive:=λ_=>Option (List α)) none (some (lsL t n λj=>Va0 .i64 t.es (g j))) (Nat.beq t.es t.es)=_
 rw[Qlr]
def Rdg{α:Type}(c:Cod α)(x:b8)(a:α):Prop:=c.dec x=some a/\c.grd x=true
theorem ve0{α:Type}(t:Ty α)(n:Nat)(g:Nat->Nat->Int)(f:(Nat->Int)->α)(h:∀j,Va0 .i64 t.es (g j)=t.row (f (g j))):∃l,Rdg (G4 t) (.tree t.es n λj=>Va0 .i64 t.es (g j)) l:=mf8 t n g f h
theorem mf9(n:Nat)(g:Nat->Nat->Int):∃l,Rdg (G4 tI) (.tree 1 n λj=>Va0 .i64 1 (g j)) l:=ve0 tI n g (λg=>g 0) λ_=>rfl
theorem Af3{α:Type}(t:Ty α){cs:List b8}(h:t.ok cs=true):∃a,Rdg (da1 t) (.agg cs) a:=⟨t.rd cs,by
 show Bool.rec (motive:=λ_=>Option α) none (some (t.rd cs)) (t.ok cs)=_
 rw[h],rfl⟩
section
variable{α β γ δ ε:Type}{c:Cod α}{d:Cod β}{e:Cod γ}{f:Cod δ}{c5:Cod ε}{x y z w v:b8}{a:α}{b':β}{g:γ}{j:δ}{m:ε}{r:b8×List b9}
theorem mg8{k:α->β->γ->δ->ε->DT (b8×List b9)}(h1:Rdg c x a)(h2:Rdg d y b')(h3:Rdg e z g)(h4:Rdg f w j)(h5:Rdg c5 v m)(h:(k a b' g j m).run=some r):(je3 c d e f c5 k [x,y,z,w,v] []).run=some r:=by
 unfold je3;simp only[h1.1,h1.2,h2.1,h2.2,h3.1,h3.2,h4.1,h4.2,h5.1,h5.2];exact h
end
theorem Pf2{g p:Bool}(hg:g=true)(hp:p=true):(DT.guard g (.ret ((one r1B).enc p,([]:List b9)))).run=some (b true,([]:List b9)):=by subst hg;subst hp;rfl
end Go.Ev.L
namespace Go.Ev.Ce
open Go Go.Ev Go.Ev.L Go.Proofs
structure B3 where
 b0:Int
 b1:Int
 b2:Int
structure B2 where
 d0:Int
 d1:Int
structure LL where
 u:List Int
 v:List Int
def dU:b8->Option Int
 |.v (.int .u8 n)=>some n
 |_=>none
theorem Zf9{x:b8}{n:Int}(h:dU x=some n):x=.v (.int .u8 n):=by
 unfold dU at h
 split at h
 ·cases h;rfl
 ·cases h
def cU:Cod Int:=⟨λn=>.v (.int .u8 n),dU,λ_=>true,λ_ _ h _=>.of (Zf9 h)⟩
end Go.Ev.Ce
namespace Go.Ev.L
open Go Go.Ev
section
variable{α β γ δ ε ζ:Type}{P:Program}{G:Nat->List Value}{f:FuncId}{R0:Sum}{c:Cod α}{d:Cod β}{e:Cod γ}{c4:Cod δ}{c5:Cod ε}{c6:Cod ζ}{ρ:Type}
theorem mg9(hb:i7 P G f R0)(R:RR ρ){o:α->β->γ->δ->ε->ζ->Option (b8×List b9)}(h:∀a b g j m n r,o a b g j m n=some r->(R0 [c.enc a,d.enc b,e.enc g,c4.enc j,c5.enc m,c6.enc n] []).run=some r):i7 P G f (Pe9 c d e c4 c5 c6 λa b g j m n=>rdO R (o a b g j m n)) :=
 (sf4 hb (k:=λa b g j m n=>DT.ofOption (o a b g j m n)) λa b g j m n r hr=>h a b g j m n r (by rw[Za2] at hr;exact hr)).conv λargs blks y out hr=>by
  unfold Pe9 at hr
  split at hr
  ·obtain⟨a,h1,hr⟩:=A0 hr;obtain⟨b,h2,hr⟩:=A0 hr;obtain⟨g,h3,hr⟩:=A0 hr;obtain⟨j,h4,hr⟩:=A0 hr;obtain⟨m,h5,hr⟩:=A0 hr;obtain⟨n,h6,hr⟩:=A0 hr;obtain⟨g1,hr⟩:=DT.run_guard_some hr;obtain⟨g2,hr⟩:=DT.run_guard_some hr;obtain⟨g3,hr⟩:=DT.run_guard_some hr;obtain⟨g4,hr⟩:=DT.run_guard_some hr;obtain⟨g5,hr⟩:=DT.run_guard_some hr;obtain⟨g6,hr⟩:=DT.run_guard_some hr;obtain⟨e1,x,o',e2,e3⟩:=Vc2 hr;refine⟨rfl,e1,x,o',?_,e3⟩;simp only[Pe9,h1,h2,h3,h4,h5,h6,onO,g1,g2,g3,g4,g5,g6];show (DT.ofOption (o a b g j m n)).run=_;rw[Za2,e2]
  ·cases hr
end
end Go.Ev.L
namespace Go.Ev.Ce
open Go Go.Ev Go.Ev.L Go.Proofs
structure B6 where
 c0:Int
 c1:Int
 c2:Int
 c3:Int
 c4:Int
 c5:Int
set_option maxRecDepth 100000
noncomputable def fd0:List (Nat×Sum):=[(16,Hc9)]
theorem ee6:i8 prog G fd0:=⟨dd8,trivial⟩
structure wa9 where
 v7:List (List Int)
 is1:Int
structure T8 where
 ph:Nat
 is6:Int
 ns5:Nat
 eh0:List (List b8)
noncomputable def Lb2(p:wa9)(s:T8):St:=⟨eL (tLs tI) p.v7::i p.is1::ra 3 (.v (.slice none 0 0)::i s.is6::ra 20 []),[]⟩
noncomputable def Lb3(p:wa9)(s:T8):St:=⟨eL (tLs tI) p.v7::i p.is1::ra 3 (.sl 0 0 s.ns5 0::i s.is6::ra 20 []),[⟨24,1,s.eh0,true,false,0⟩]⟩
noncomputable def Kd0(p:wa9)(s:T8):St:=(sel (Nat.beq s.ph 1) (Lb3 p s) (Lb2 p s))
noncomputable def R7{α:Type}(k:T8->α)(e:Nat->α)(z:α)(p:wa9)(s:T8):α:=let t1:=(ra5 (rt tI (gL (tLs tI) p.v7 s.is6.toNat)));(sl (decide (s.is6<(↑(List.length p.v7):Int))) (sl (decide (s.is6<p.is1)) (sl (inB s.is6 (List.length p.v7)) (sl (okE tI (gL (tLs tI) p.v7 s.is6.toNat)) (sl (Ib3 (rt tI (gL (tLs tI) p.v7 s.is6.toNat))) (k ⟨1,W (s.is6+1),1,[[eL tP t1]]⟩) z) z) z) (e 1)) (e 2))
noncomputable def R8{α:Type}(k:T8->α)(e:Nat->α)(z:α)(p:wa9)(s:T8):α:=let t1:=(ra5 (rt tI (gL (tLs tI) p.v7 s.is6.toNat)));(sl (decide (s.is6<(↑(List.length p.v7):Int))) (sl (decide (s.is6<p.is1)) (sl (inB s.is6 (List.length p.v7)) (sl (okE tI (gL (tLs tI) p.v7 s.is6.toNat)) (sl (Ib3 (rt tI (gL (tLs tI) p.v7 s.is6.toNat))) (sl (Nat.beq s.ns5 (len s.eh0)&&Nat.ble ((s.ns5+1)*24) room) (k ⟨1,W (s.is6+1),s.ns5+1,app s.eh0 [[eL tP t1]]⟩) z) z) z) z) (e 3)) (e 4))
noncomputable def pa9(p:wa9)(s:T8):Stp T8:=(sel (Nat.beq s.ph 1) (R8 .next .exit .fail p s) (R7 .next .exit .fail p s))
noncomputable def gc5:Lo wa9 T8:=⟨En fd0,0,Tf1,[1,1,0,1,4,4],[0,1,5,6],.p,[⟨.s (.c 1 (nL (tLs tI)))::sIq::ru2 3 (.s (.o .nil)::sIq::ru2 20 []),[],λa H=>(⟨rL (tLs tI) (slT a 0),aIq a 1⟩,⟨0,aIq a 6,0,[]⟩)⟩,⟨.s (.c 1 (nL (tLs tI)))::sIq::ru2 3 (.s (.o (.sl 0 0 (some 0) none))::sIq::ru2 20 []),[⟨24,1,true,none⟩],λa H=>(⟨rL (tLs tI) (slT a 0),aIq a 1⟩,⟨1,aIq a 6,slN (slT a 5),elT H 0⟩)⟩],pa9,[(some 0,λp s=>upq (Lb2 p s) [(7,i s.is6),(8,eL (tLs tI) p.v7),(9,i (↑(List.length p.v7):Int)),(10,b (decide (s.is6<(↑(List.length p.v7):Int)))),(11,b true),(12,i s.is6),(13,i p.is1),(14,b (decide (s.is6<p.is1))),(15,b (decide (s.is6<p.is1)))]),(some 0,λp s=>upq (Lb2 p s) [(7,i s.is6),(8,eL (tLs tI) p.v7),(9,i (↑(List.length p.v7):Int)),(10,b (decide (s.is6<(↑(List.length p.v7):Int)))),(11,b false),(12,u),(13,u),(14,u),(15,b false)]),(some 0,λp s=>upq (Lb3 p s) [(7,i s.is6),(8,eL (tLs tI) p.v7),(9,i (↑(List.length p.v7):Int)),(10,b (decide (s.is6<(↑(List.length p.v7):Int)))),(11,b true),(12,i s.is6),(13,i p.is1),(14,b (decide (s.is6<p.is1))),(15,b (decide (s.is6<p.is1)))]),(some 0,λp s=>upq (Lb3 p s) [(7,i s.is6),(8,eL (tLs tI) p.v7),(9,i (↑(List.length p.v7):Int)),(10,b (decide (s.is6<(↑(List.length p.v7):Int)))),(11,b false),(12,u),(13,u),(14,u),(15,b false)])],Kd0⟩
theorem Kd1:gc5.Ok:=Lo.ok [] (by kernel_rfl) .nil rfl (.cons (λa H=>by kernel_rfl) (.cons (λa H=>by kernel_rfl) .nil)) λp s=>(.sel (Nat.beq s.ph 1) (.of @R8 (λF _ _ _ _ _=>by unfold R8;(repeat' apply l5 (f:=F))<;>rfl) (by kernel_rfl)) (.of @R7 (λF _ _ _ _ _=>by unfold R7;(repeat' apply l5 (f:=F))<;>rfl) (by kernel_rfl)))
noncomputable def Lb4(x:List (List Int))(y:Int):Option (b8×List b9):=let t1:=(lp (pa9 (⟨rt (tLs tI) x,y⟩:wa9)) (⟨0,0,0,[]⟩:T8));(sl ((cnE (tLs tI) x)&&true) (sl (Nat.beq t1.1 1) (some (.v (.slice none 0 0),[])) (sl (Nat.beq t1.1 2) (some (.v (.slice none 0 0),[])) (sl (Nat.beq t1.1 3) (some (.sl 0 0 t1.2.ns5 0,[⟨24,1,t1.2.eh0,true,false,0⟩])) (sl (Nat.beq t1.1 4) (some (.sl 0 0 t1.2.ns5 0,[⟨24,1,t1.2.eh0,true,false,0⟩])) none)))) none)
noncomputable def Cd2(x:List (List Int))(y:Int):List (List Pln):=I6 (one (r1L (tLs tP))) (Lb4 x y)
noncomputable def Jc1(x:List (List Int))(y:Int):Bool:=okO (one (r1L (tLs tP))) (Lb4 x y)
noncomputable def Cd3:Sum:=ga1 (G4 (tLs tI)) cI (λx y=>.guard (Jc1 x y) (.ret ((one (r1L (tLs tP))).enc (Cd2 x y),[])))
theorem ve1:i7 prog G 95 Cd3:=La5 (bd b95 ee6) (one (r1L (tLs tP))) (o:=Lb4) λx y=>ma5 (.s .p (.s .p (.s (.s .p (.b (.u gc5.ls))) .p))) [gc5.pr] (by kernel_rfl) (.cons Kd1 .nil) (by kernel_rfl)
noncomputable def ee7:List (Nat×Sum):=[(63,xd8)]
theorem Kd2:i8 prog G ee7:=⟨re1,trivial⟩
noncomputable def uc6(x:Int)(y:Int)(z:Int)(w:Int)(v:Int)(q:Int):Option (b8×List b9):=let t1:=(xd7 (⟨x,y,z⟩:V3) (⟨w,v,q⟩:V3));(some (.sl 0 0 6 0,[⟨73,4,[[i 1,i 0,i 0,i t1.l8],[i (-1),i 0,i 0,i t1.Me9],[i 0,i 1,i 0,i t1.Ne0],[i 0,i (-1),i 0,i t1.Ne1],[i 0,i 0,i 1,i t1.Ne2],[i 0,i 0,i (-1),i t1.Ne3]],true,false,0⟩]))
noncomputable def R9(x:Int)(y:Int)(z:Int)(w:Int)(v:Int)(q:Int):List Pln:=I6 (one (r1L tP)) (uc6 x y z w v q)
noncomputable def P0(x:Int)(y:Int)(z:Int)(w:Int)(v:Int)(q:Int):Bool:=okO (one (r1L tP)) (uc6 x y z w v q)
noncomputable def fd1:Sum:=Pe9 cI cI cI cI cI cI (λx y z w v q=>.guard (P0 x y z w v q) (.ret ((one (r1L tP)).enc (R9 x y z w v q),[])))
theorem ee8:i7 prog G 93 fd1:=mg9 (bd b93 Kd2) (one (r1L tP)) (o:=uc6) λx y z w v q=>w9 (by kernel_rfl)
noncomputable def uc7:List (Nat×Sum):=[]
theorem kd5:i8 prog G uc7:=trivial
structure da8 where
 v7:List (List Int)
 is1:Int
structure G3 where
 ph:Nat
 is6:Int
 ns5:Nat
 eh0:List (List b8)
noncomputable def kb6(p:da8)(s:G3):St:=⟨eL (tLs tI) p.v7::i p.is1::ra 3 (.v (.slice none 0 0)::i s.is6::ra 26 []),[]⟩
noncomputable def kb7(p:da8)(s:G3):St:=⟨eL (tLs tI) p.v7::i p.is1::ra 3 (.sl 0 0 s.ns5 0::i s.is6::ra 26 []),[⟨22,1,s.eh0,true,false,0⟩]⟩
noncomputable def ad8(p:da8)(s:G3):St:=(sel (Nat.beq s.ph 1) (kb7 p s) (kb6 p s))
noncomputable def G9{α:Type}(k:G3->α)(e:Nat->α)(z:α)(p:da8)(s:G3):α:=(sl (decide (s.is6<(↑(List.length p.v7):Int))) (sl (decide (s.is6<p.is1)) (sl (inB s.is6 (List.length p.v7)) (sl (inB s.is6 (List.length p.v7)) (sl (inB (if 40<(↑(List.length (gL (tLs tI) p.v7 s.is6.toNat)):Int) then 40 else (↑(List.length (gL (tLs tI) p.v7 s.is6.toNat)):Int)) ((List.length (gL (tLs tI) p.v7 s.is6.toNat))+1)) (k ⟨1,W (s.is6+1),1,[[(.tree 1 ((if 40<(↑(List.length (gL (tLs tI) p.v7 s.is6.toNat)):Int) then 40 else (↑(List.length (gL (tLs tI) p.v7 s.is6.toNat)):Int)).toNat-0) (λk=>(λk=>(tI).row (gL tI (gL (tLs tI) p.v7 s.is6.toNat) k)) (0+k)))]]⟩) z) z) z) (e 1)) (e 2))
noncomputable def H4{α:Type}(k:G3->α)(e:Nat->α)(z:α)(p:da8)(s:G3):α:=(sl (decide (s.is6<(↑(List.length p.v7):Int))) (sl (decide (s.is6<p.is1)) (sl (inB s.is6 (List.length p.v7)) (sl (inB s.is6 (List.length p.v7)) (sl (inB (if 40<(↑(List.length (gL (tLs tI) p.v7 s.is6.toNat)):Int) then 40 else (↑(List.length (gL (tLs tI) p.v7 s.is6.toNat)):Int)) ((List.length (gL (tLs tI) p.v7 s.is6.toNat))+1)) (sl (Nat.beq s.ns5 (len s.eh0)&&Nat.ble ((s.ns5+1)*24) room) (k ⟨1,W (s.is6+1),s.ns5+1,(app s.eh0 [[(.tree 1 ((if 40<(↑(List.length (gL (tLs tI) p.v7 s.is6.toNat)):Int) then 40 else (↑(List.length (gL (tLs tI) p.v7 s.is6.toNat)):Int)).toNat-0) (λk=>(λk=>(tI).row (gL tI (gL (tLs tI) p.v7 s.is6.toNat) k)) (0+k)))]])⟩) z) z) z) z) (e 3)) (e 4))
noncomputable def Y9(p:da8)(s:G3):Stp G3:=(sel (Nat.beq s.ph 1) (H4 .next .exit .fail p s) (G9 .next .exit .fail p s))
noncomputable def zb3:Lo da8 G3:=⟨En uc7,0,Tf2,[1,1,0,1,4,4],[0,1,5,6],.p,[⟨.s (.c 1 (nL (tLs tI)))::sIq::ru2 3 (.s (.o .nil)::sIq::ru2 26 []),[],λa H=>(⟨rL (tLs tI) (slT a 0),aIq a 1⟩,⟨0,aIq a 6,0,[]⟩)⟩,⟨.s (.c 1 (nL (tLs tI)))::sIq::ru2 3 (.s (.o (.sl 0 0 (some 0) none))::sIq::ru2 26 []),[⟨22,1,true,none⟩],λa H=>(⟨rL (tLs tI) (slT a 0),aIq a 1⟩,⟨1,aIq a 6,slN (slT a 5),elT H 0⟩)⟩],Y9,[(some 0,λp s=>upq (kb6 p s) [(7,i s.is6),(8,eL (tLs tI) p.v7),(9,i (↑(List.length p.v7):Int)),(10,b (decide (s.is6<(↑(List.length p.v7):Int)))),(11,b true),(12,i s.is6),(13,i p.is1),(14,b (decide (s.is6<p.is1))),(15,b (decide (s.is6<p.is1)))]),(some 0,λp s=>upq (kb6 p s) [(7,i s.is6),(8,eL (tLs tI) p.v7),(9,i (↑(List.length p.v7):Int)),(10,b (decide (s.is6<(↑(List.length p.v7):Int)))),(11,b false),(12,u),(13,u),(14,u),(15,b false)]),(some 0,λp s=>upq (kb7 p s) [(7,i s.is6),(8,eL (tLs tI) p.v7),(9,i (↑(List.length p.v7):Int)),(10,b (decide (s.is6<(↑(List.length p.v7):Int)))),(11,b true),(12,i s.is6),(13,i p.is1),(14,b (decide (s.is6<p.is1))),(15,b (decide (s.is6<p.is1)))]),(some 0,λp s=>upq (kb7 p s) [(7,i s.is6),(8,eL (tLs tI) p.v7),(9,i (↑(List.length p.v7):Int)),(10,b (decide (s.is6<(↑(List.length p.v7):Int)))),(11,b false),(12,u),(13,u),(14,u),(15,b false)])],ad8⟩
theorem ad9:zb3.Ok:=Lo.ok [] (by kernel_rfl) .nil rfl (.cons (λa H=>by kernel_rfl) (.cons (λa H=>by kernel_rfl) .nil)) λp s=>(.sel (Nat.beq s.ph 1) (.of @H4 (λF _ _ _ _ _=>by unfold H4;(repeat' apply l5 (f:=F))<;>rfl) (by kernel_rfl)) (.of @G9 (λF _ _ _ _ _=>by unfold G9;(repeat' apply l5 (f:=F))<;>rfl) (by kernel_rfl)))
noncomputable def Za0(x:List (List Int))(y:Int):Option (b8×List b9):=let t1:=(lp (Y9 (⟨rt (tLs tI) x,y⟩:da8)) (⟨0,0,0,[]⟩:G3));(sl ((cnE (tLs tI) x)&&true) (sl (Nat.beq t1.1 1) (some (.v (.slice none 0 0),[])) (sl (Nat.beq t1.1 2) (some (.v (.slice none 0 0),[])) (sl (Nat.beq t1.1 3) (some (.sl 0 0 t1.2.ns5 0,[⟨22,1,t1.2.eh0,true,false,0⟩])) (sl (Nat.beq t1.1 4) (some (.sl 0 0 t1.2.ns5 0,[⟨22,1,t1.2.eh0,true,false,0⟩])) none)))) none)
noncomputable def rb4(x:List (List Int))(y:Int):List (List Int):=I6 (one (r1L (tLs tI))) (Za0 x y)
noncomputable def Vb8(x:List (List Int))(y:Int):Bool:=okO (one (r1L (tLs tI))) (Za0 x y)
noncomputable def Dc8:Sum:=ga1 (G4 (tLs tI)) cI (λx y=>.guard (Vb8 x y) (.ret ((one (r1L (tLs tI))).enc (rb4 x y),[])))
theorem Cd4:i7 prog G 96 Dc8:=La5 (bd b96 kd5) (one (r1L (tLs tI))) (o:=Za0) λx y=>ma5 (.s .p (.s .p (.s (.s .p (.b (.u zb3.ls))) .p))) [zb3.pr] (by kernel_rfl) (.cons ad9 .nil) (by kernel_rfl)
noncomputable def Kd3:List (Nat×Sum):=[(96,Dc8),(95,Cd3)]
theorem Cd5:i8 prog G Kd3:=⟨Cd4,ve1,trivial⟩
noncomputable def kb8(x:List (List Int))(y:Int):Option (b8×List b9):=let t1:=(rb4 (rt (tLs tI) x) y);let t2:=(Cd2 (rt (tLs tI) t1) y);(sl (okE (tLs tI) x) (sl (Vb8 (rt (tLs tI) x) y) (sl (okE (tLs tI) t1) (sl (Jc1 (rt (tLs tI) t1) y) (some (eL (tLs tP) t2,[])) none) none) none) none)
noncomputable def kb9(x:List (List Int))(y:Int):List (List Pln):=I6 (one (r1L (tLs tP))) (kb8 x y)
noncomputable def Cb2(x:List (List Int))(y:Int):Bool:=okO (one (r1L (tLs tP))) (kb8 x y)
noncomputable def Tc7:Sum:=ga1 (G4 (tLs tI)) cI (λx y=>.guard (Cb2 x y) (.ret ((one (r1L (tLs tP))).enc (kb9 x y),[])))
theorem Kd4:i7 prog G 39 Tc7:=La5 (bd b39 Cd5) (one (r1L (tLs tP))) (o:=kb8) λx y=>w9 (by kernel_rfl)
noncomputable def ee9:List (Nat×Sum):=[(16,Hc9)]
theorem Kd5:i8 prog G ee9:=⟨dd8,trivial⟩
noncomputable def wb0(x:List Int):Option (b8×List b9):=let t1:=(ra5 (lsL tI ((if 40<(↑(List.length x):Int) then 40 else (↑(List.length x):Int)).toNat-0) (λk=>(λk=>(tI).row (gL tI x k)) (0+k))));(sl (inB (if 40<(↑(List.length x):Int) then 40 else (↑(List.length x):Int)) ((List.length x)+1)) (sl (okL tI ((if 40<(↑(List.length x):Int) then 40 else (↑(List.length x):Int)).toNat-0) (λk=>(λk=>(tI).row (gL tI x k)) (0+k))) (sl (Ib3 (lsL tI ((if 40<(↑(List.length x):Int) then 40 else (↑(List.length x):Int)).toNat-0) (λk=>(λk=>(tI).row (gL tI x k)) (0+k)))) (some (eL tP t1,[])) none) none) none)
noncomputable def db3(x:List Int):List Pln:=I6 (one (r1L tP)) (wb0 x)
noncomputable def Rb1(x:List Int):Bool:=okO (one (r1L tP)) (wb0 x)
noncomputable def fd2:Sum:=Z5 (G4 tI) (λx=>.guard (Rb1 x) (.ret ((one (r1L tP)).enc (db3 x),[])))
theorem fe0:i7 prog G 38 fd2:=La4 (bd b38 Kd5) (one (r1L tP)) (o:=wb0) λx=>w9 (by kernel_rfl)
noncomputable def jc8:List (Nat×Sum):=[(40,rb2),(101,Kb0),(23,Ic0)]
theorem bd0:i8 prog G jc8:=⟨Kb4,Pb7,ed0,trivial⟩
structure Ca0 where
 (Dd0 pa3:List (List Pln))
 Kd9:Int
structure T9 where
 Va3:Int
noncomputable def Rb2(p:Ca0)(s:T9):St:=⟨.unk::.unk::eL (tLs tP) p.Dd0::ra 4 (eL (tLs tP) p.pa3::ra 18 (i p.Kd9::i s.Va3::ra 14 [])),[]⟩
noncomputable def sa4{α:Type}(k:T9->α)(e:Nat->α)(z:α)(p:Ca0)(s:T9):α:=let t1:=(ha0 (rt tP (gL (tLs tP) p.Dd0 s.Va3.toNat)));let t2:=(Ib5 (rt tP (gL (tLs tP) p.pa3 s.Va3.toNat)) (rt tP t1));(sl (decide (s.Va3<p.Kd9)) (sl (inB s.Va3 (List.length p.pa3)) (sl (inB s.Va3 (List.length p.Dd0)) (sl (okE tP (gL (tLs tP) p.Dd0 s.Va3.toNat)) (sl (ma0 (rt tP (gL (tLs tP) p.Dd0 s.Va3.toNat))) (sl (okE tP (gL (tLs tP) p.pa3 s.Va3.toNat)) (sl (okE tP t1) (sl (Ib6 (rt tP (gL (tLs tP) p.pa3 s.Va3.toNat)) (rt tP t1)) (sl (!t2) (e 1) (k ⟨W (s.Va3+1)⟩)) z) z) z) z) z) z) z) (e 2))
noncomputable def xa0(p:Ca0)(s:T9):Stp T9:=sa4 .next .exit .fail p s
noncomputable def pb6:Lo Ca0 T9:=⟨En jc8,0,Tf0,[1,1,1,0,1,4,4],[2,7,26,27],.p,[⟨sUq::sUq::.s (.c 1 (nL (tLs tP)))::ru2 4 (.s (.c 1 (nL (tLs tP)))::ru2 18 (sIq::sIq::ru2 14 [])),[],λa H=>(⟨rL (tLs tP) (slT a 2),rL (tLs tP) (slT a 7),aIq a 26⟩,⟨aIq a 27⟩)⟩],xa0,[(none,λp s=>⟨[b false],[]⟩),(some 0,λp s=>upq (Rb2 p s) [(28,b (decide (s.Va3<p.Kd9)))])],Rb2⟩
theorem Tc8:pb6.Ok:=Lo.ok [] (by kernel_rfl) .nil rfl (.cons (λa H=>by kernel_rfl) .nil) λp s=>(.of @sa4 (λF _ _ _ _ _=>by unfold sa4;(repeat' apply l5 (f:=F))<;>rfl) (by kernel_rfl))
noncomputable def Qa4(x:List Pln)(y:List (List Pln))(z:List (List Pln)):Option (b8×List b9):=let t1:=(Ya2 (rt tP x) (rt (tLs tP) y));let t2:=(lp (xa0 (⟨rt (tLs tP) z,rt (tLs tP) t1.1,(↑(List.length z):Int)⟩:Ca0)) (⟨0⟩:T9));(sl (okE tP x) (sl (okE (tLs tP) y) (sl (Ya3 (rt tP x) (rt (tLs tP) y)) (sl (t1.2 != 0) (some (b false,[])) (sl ((↑(List.length t1.1):Int) != (↑(List.length z):Int)) (some (b false,[])) (sl ((cnE (tLs tP) z)&&((cnE (tLs tP) t1.1)&&true)) (sl (Nat.beq t2.1 1) (some (b false,[])) (sl (Nat.beq t2.1 2) (some (b true,[])) none)) none))) none) none) none)
noncomputable def sa5(x:List Pln)(y:List (List Pln))(z:List (List Pln)):Bool:=I6 (one r1B) (Qa4 x y z)
noncomputable def sa6(x:List Pln)(y:List (List Pln))(z:List (List Pln)):Bool:=okO (one r1B) (Qa4 x y z)
noncomputable def uc8:Sum:=gd3 (G4 tP) (G4 (tLs tP)) (G4 (tLs tP)) (λx y z=>.guard (sa6 x y z) (.ret ((one r1B).enc (sa5 x y z),[])))
theorem kd6:i7 prog G 94 uc8:=Ye8 (bd b94 bd0) (one r1B) (o:=Qa4) λx y z=>ma5 (.s .p (.s .p (.s .p (.s (.s .p (.b (.u pb6.ls))) .p)))) [pb6.pr] (by kernel_rfl) (.cons Tc8 .nil) (by kernel_rfl)
noncomputable def kd7:List (Nat×Sum):=[(42,jb4)]
theorem bd1:i8 prog G kd7:=⟨zb0,trivial⟩
noncomputable def Qa5(x:List (List Pln))(y:List Pln)(z:Bool):Option (b8×List b9):=let t1:=(ca1 (rt (tLs tP) x) (rt tP y));(sl (okE (tLs tP) x) (sl (okE tP y) (sl (Ba5 (rt (tLs tP) x) (rt tP y)) (sl (t1.2==0) (some (b (t1.1==z),[])) (some (b false,[]))) none) none) none)
noncomputable def Qa6(x:List (List Pln))(y:List Pln)(z:Bool):Bool:=I6 (one r1B) (Qa5 x y z)
noncomputable def sa7(x:List (List Pln))(y:List Pln)(z:Bool):Bool:=okO (one r1B) (Qa5 x y z)
noncomputable def uc9:Sum:=gd3 (G4 (tLs tP)) (G4 tP) cB (λx y z=>.guard (sa7 x y z) (.ret ((one r1B).enc (Qa6 x y z),[])))
theorem kd8:i7 prog G 54 uc9:=Ye8 (bd b54 bd1) (one r1B) (o:=Qa5) λx y z=>w9 (by kernel_rfl)
noncomputable def Kd6:List (Nat×Sum):=[(47,fc9)]
theorem Cd6:i8 prog G Kd6:=⟨Dc2,trivial⟩
noncomputable def lb0(x:List (List Pln))(y:List (List Pln))(z:Bool):Option (b8×List b9):=let t1:=(jb7 (rt (tLs tP) x) (rt (tLs tP) y));(sl (okE (tLs tP) x) (sl (okE (tLs tP) y) (sl (jb8 (rt (tLs tP) x) (rt (tLs tP) y)) (sl (t1.2==0) (some (b (t1.1==z),[])) (some (b false,[]))) none) none) none)
noncomputable def lb1(x:List (List Pln))(y:List (List Pln))(z:Bool):Bool:=I6 (one r1B) (lb0 x y z)
noncomputable def U0(x:List (List Pln))(y:List (List Pln))(z:Bool):Bool:=okO (one r1B) (lb0 x y z)
noncomputable def Tc9:Sum:=gd3 (G4 (tLs tP)) (G4 (tLs tP)) cB (λx y z=>.guard (U0 x y z) (.ret ((one r1B).enc (lb1 x y z),[])))
theorem Kd7:i7 prog G 53 Tc9:=Ye8 (bd b53 Cd6) (one r1B) (o:=lb0) λx y z=>w9 (by kernel_rfl)
noncomputable def kd9:List (Nat×Sum):=[(93,fd1),(94,uc8),(54,uc9),(45,Vb3),(53,Tc9),(49,Ya0)]
theorem bd2:i8 prog G kd9:=⟨ee8,kd6,kd8,uc0,Kd7,jb1,trivial⟩
noncomputable def Qa7  : Option (b8×List b9):=let t1:=(R9 0 0 0 1 1 1);let t2:=(R9 1 0 0 2 1 1);let t3:=(R9 0 0 0 2 1 1);let t4:=(R9 1 0 0 3 1 1);let t5:=(sa5 (rt tP t3) [rt tP t4] [rt tP t1]);let t6:=(R9 0 0 0 3 1 1);let t7:=(R9 2 0 0 3 1 1);let t8:=(sa5 (rt tP t6) [rt tP t2] [rt tP t1,rt tP t7]);let t9:=(sa5 (rt tP t1) [] [rt tP t1]);let t10:=(sa5 (rt tP t1) [rt tP t2] [rt tP t1]);let t11:=(Qa6 [rt tP t1,rt tP t2] (rt tP t3) true);let t12:=(Qa6 [rt tP t1] (rt tP t3) false);let t13:=(R9 0 1 0 1 2 1);let t14:=(Ya5 (rt tP t1) [rt tP t2,rt tP t13]);let t15:=(lb1 [rt tP t3] [rt tP t1,rt tP t2] true);let t16:=(lb1 [rt tP t3] [rt tP t2] false);let t17:=(V6 [[],[],[],[],[],[],[],[],[],[],[],[],[],[],[],[],[]]);let t18:=(V6 [[(⟨(⟨2,0,0⟩:V3),1⟩:Pln)]]);let a0:=((okE tP t1)&&((okE tP t2)&&true));let a1:=((okE tP t2)&&((okE tP t13)&&true));let w0:Option (b8×List b9):=(sl a0 (sl (okE tP t3) (sl (sa7 [rt tP t1,rt tP t2] (rt tP t3) true) (sl t11 (sl ((okE tP t1)&&true) (sl (okE tP t3) (sl (sa7 [rt tP t1] (rt tP t3) false) (sl t12 (sl (P0 0 1 0 1 2 1) (sl (okE tP t1) (sl a1 (sl (Ja6 (rt tP t1) [rt tP t2,rt tP t13]) (sl ((okE tP t3)&&true) (sl a0 (sl (U0 [rt tP t3] [rt tP t1,rt tP t2] true) (sl t15 (sl ((okE tP t3)&&true) (sl ((okE tP t2)&&true) (sl (U0 [rt tP t3] [rt tP t2] false) (some (b false,[])) none) none) none) (some (b false,[]))) none) none) none) none) none) none) none) (sl ((okE tP t3)&&true) (sl a0 (sl (U0 [rt tP t3] [rt tP t1,rt tP t2] true) (sl t15 (sl ((okE tP t3)&&true) (sl ((okE tP t2)&&true) (sl (U0 [rt tP t3] [rt tP t2] false) (some (b false,[])) none) none) none) (some (b false,[]))) none) none) none)) none) none) none) (sl ((okE tP t3)&&true) (sl a0 (sl (U0 [rt tP t3] [rt tP t1,rt tP t2] true) (sl t15 (sl ((okE tP t3)&&true) (sl ((okE tP t2)&&true) (sl (U0 [rt tP t3] [rt tP t2] false) (some (b false,[])) none) none) none) (some (b false,[]))) none) none) none)) none) none) none);let w1:Option (b8×List b9):=(sl ((okE tP t3)&&true) (sl a0 (sl (U0 [rt tP t3] [rt tP t1,rt tP t2] true) (sl t15 (sl ((okE tP t3)&&true) (sl ((okE tP t2)&&true) (sl (U0 [rt tP t3] [rt tP t2] false) (sl t10 (some (b false,[])) (some (b false,[]))) none) none) none) (sl t10 (some (b false,[])) (some (b false,[])))) none) none) none);(sl (P0 0 0 0 1 1 1) (sl (P0 1 0 0 2 1 1) (sl (P0 0 0 0 2 1 1) (sl (P0 1 0 0 3 1 1) (sl (okE tP t3) (sl ((okE tP t4)&&true) (sl ((okE tP t1)&&true) (sl (sa6 (rt tP t3) [rt tP t4] [rt tP t1]) (sl t5 (sl (P0 0 0 0 3 1 1) (sl (P0 2 0 0 3 1 1) (sl (okE tP t6) (sl ((okE tP t2)&&true) (sl ((okE tP t1)&&((okE tP t7)&&true)) (sl (sa6 (rt tP t6) [rt tP t2] [rt tP t1,rt tP t7]) (sl t8 (sl (okE tP t1) (sl ((okE tP t1)&&true) (sl (sa6 (rt tP t1) [] [rt tP t1]) (sl t9 (sl (okE tP t1) (sl ((okE tP t2)&&true) (sl ((okE tP t1)&&true) (sl (sa6 (rt tP t1) [rt tP t2] [rt tP t1]) (sl a0 (sl (okE tP t3) (sl (sa7 [rt tP t1,rt tP t2] (rt tP t3) true) (sl t11 (sl ((okE tP t1)&&true) (sl (okE tP t3) (sl (sa7 [rt tP t1] (rt tP t3) false) (sl t12 (sl (P0 0 1 0 1 2 1) (sl (okE tP t1) (sl a1 (sl (Ja6 (rt tP t1) [rt tP t2,rt tP t13]) (sl ((okE tP t3)&&true) (sl a0 (sl (U0 [rt tP t3] [rt tP t1,rt tP t2] true) (sl t15 (sl ((okE tP t3)&&true) (sl ((okE tP t2)&&true) (sl (U0 [rt tP t3] [rt tP t2] false) (sl t10 (sl t14 (sl t16 (sl (V7 [[],[],[],[],[],[],[],[],[],[],[],[],[],[],[],[],[]]) (sl (t17==2) (sl (V7 [[(⟨(⟨2,0,0⟩:V3),1⟩:Pln)]]) (some (b (t18==12),[])) none) (some (b false,[]))) none) (some (b false,[]))) (some (b false,[]))) (some (b false,[]))) none) none) none) (sl t10 (sl t14 (some (b false,[])) (some (b false,[]))) (some (b false,[])))) none) none) none) none) none) none) none) w1) none) none) none) w1) none) none) none) none) none) none) none) w0) none) none) none) w0) none) none) none) none) none) none) w0) none) none) none) none) none) none) none) none)
noncomputable def lb2  : Bool:=I6 (one r1B) Qa7
noncomputable def lb3  : Bool:=okO (one r1B) Qa7
noncomputable def vc0:Sum:=ze3  (.guard lb3 (.ret ((one r1B).enc lb2,[])))
theorem ld0:i7 prog G 37 vc0:=ag9 (bd b37 bd2) (one r1B) (o:=Qa7) (w9 (by kernel_rfl))
structure Ve1 where
 Za1:List Pln
 (is8 j7 e8 j8:Int)
structure Ve2 where
 is9:Int
structure Mc(c:List Pln):Prop where
 g:zd0 c
 l:c.length<=12
theorem Af4{l:List V3}(h:Zc1 l=0)(h8:l.length<=8):Mc (F0 l):=by
 obtain⟨h1,h2⟩:=Ue2 h
 have:=Pf0 h1 h2
 have k:2*(l.length-2)<=12:=by omega
 exact⟨⟨by omega,λp hp=>(kf8 hp).ok,yf7 h1 h2⟩,by omega⟩
theorem Me6(x:List Int):Rd (one (r1L tP)) (Ib2 x) Mc:=by
 obtain⟨v1,j1,e1,a1,b1,c1,d1⟩:=za3 4 x 0 (by omega) (by omega) (by omega) (by omega)
 obtain⟨w1,w2,w3,j2,e2,p1,p2,p3,c2,d2⟩:=Ic1 6 x j1 (by omega) (by omega) (by omega) (by omega)
 obtain⟨v3,j3,e3,a3,b3,c3,d3⟩:=za3 6 x j2 (by omega) (by omega) (by omega) (by omega)
 obtain⟨v4,j4,e4,a4,b4,c4,d4⟩:=za3 6 x j3 (by omega) (by omega) (by omega) (by omega)
 obtain⟨v5,j5,e5,a5,b5,c5,d5⟩:=za3 6 x j4 (by omega) (by omega) (by omega) (by omega)
 have hin:inB (if 7<(x.length:Int) then 7 else (x.length:Int)) (x.length+1)=true:=by
  rw[Mc8];apply decide_eq_true
  split<;>omega
 have hok:∀n m,okL tI n (λk=>(λk=>tI.row (gL tI x k)) (m+k))=true:=λn m=>eb8 tI (f:=λk=>gL tI x (m+k)) λ_ _=>rfl
 unfold Ib2;simp only[i5,i9,j9,e1,e2,e3,e4,e5,Ff9,Gf0,hin,hok,Fa1,wf5,gf8,Qlr,Bool.and_true,f0];generalize hL:lsL tI _ _=L;have hg:zd0 (Gd8 ⟨w1,w2,w3⟩ ⟨W (W (w1+1)+v3),W (W (w2+1)+v4),W (W (w3+1)+v5)⟩):=by
  obtain⟨q1,q2⟩:=p1;obtain⟨q3,q4⟩:=p2;obtain⟨q5,q6⟩:=p3;have i1:W (W (w1+1)+v3)=w1+1+v3:=by rw[ka5 (n:=w1+1) (by omega) (by omega),ka5 (by omega) (by omega)]
  have i2:W (W (w2+1)+v4)=w2+1+v4:=by rw[ka5 (n:=w2+1) (by omega) (by omega),ka5 (by omega) (by omega)]
  have i3:W (W (w3+1)+v5)=w3+1+v5:=by rw[ka5 (n:=w3+1) (by omega) (by omega),ka5 (by omega) (by omega)]
  rw[i1,i2,i3];refine lf0 ⟨⟨?_,?_⟩,⟨?_,?_⟩,?_,?_⟩ ⟨⟨?_,?_⟩,⟨?_,?_⟩,?_,?_⟩ ⟨?_,?_,?_⟩<;>simp only<;>omega
 have hB6:(Gd8 ⟨w1,w2,w3⟩ ⟨W (W (w1+1)+v3),W (W (w2+1)+v4),W (W (w3+1)+v5)⟩).length=6:=rfl;generalize hB:Gd8 _ _=B at *
 have hl6:len (bL tP B)=6:=by rw[H7,hB6]
 have ea:app [] (bL tP B)=bL tP B:=rfl;have es:∀q:Pln,slR tP (bL tP (B++[q])) 0 (0+6+1)=B++[q]:=λq=>by
  have:=Sb1 tP (B++[q])
  rw[Qla,hB6] at this;exact this
 have eo:∀q:Pln,okS tP (bL tP (B++[q])) 0 (0+6+1)=true:=λq=>by
  have:=Sb2 tP (B++[q])
  rw[Qla,hB6] at this;exact this
 have hlen:∀q:Pln,(B++[q]).length<=1000000000:=λq=>by rw[Qla,hB6];exact (by decide:6+1<=1000000000)
 have gF:∀q:Pln,Na0 (B++[q])=true:=λq=>md6 (hlen q)
 have pF:∀q:Pln,Ma9 (B++[q])=ful (B++[q]):=λq=>md5 (hlen q)
 have q1:Nat.ble ((0+6)*32) room=true:=S4 (by omega)
 have q2:Nat.ble (((0+6)+1)*32) room=true:=S4 (by omega)
 have q3:Nat.beq (0+6) 6=true:=rfl;have hp:=gf9 L;have gf:Pb4 (oa2 L)=true:=xf0 _ (by omega)
 simp only[hl6,ea,Ib7,es,eo,gF,pF,q1,q2,q3,Qld,gf,kf4 (oa2 L) (by omega),f0,show Nat.beq 6 0=false from rfl,p7]
 have box:Rd (one (r1L tP)) (some (eL tP B,[])) Mc:=hf0 ⟨hg,by rw[hB6];decide⟩
 have fcs:(Zc3 (oa2 L)).2==0->Rd (one (r1L tP)) (some (eL tP (Zc3 (oa2 L)).1,[])) Mc:=λh=>hf0 (by
  unfold Zc3 at h ⊢;by_cases h0:Zc1 (oa2 L)=0
  ·rw[if_pos h0];exact Af4 h0 hp.2
  ·rw[if_neg h0] at h;exact absurd (by simpa using h) h0)
 have hcut:ful (B++[Ib0 L])=true->Mc (B++[Ib0 L]):=λhf=>⟨
  ⟨by rw[Qla,hB6];exact (by decide:6+1<=47),λp h=>by
   rcases Qlt.1 h with h|h
   ·exact hg.v p h
   ·rw[Qlm.1 h];exact yf8 L,(jf4 hf).2.2⟩,by rw[Qla,hB6];exact (by decide:6+1<=12)⟩
 exact Rd.sl (λ_=>Rd.sl (λhf=>Ib9 (by rw[Qla,hB6];rfl) rfl (hcut hf)) λ_=>Rd.sl (λ_=>Rd.sl (λh=>fcs h) λ_=>box) λ_=>box) λ_=>Rd.sl (λ_=>Rd.sl (λh=>fcs h) λ_=>box) λ_=>box
theorem Td3(x:List Int):Mc (ra5 x):=(Me6 x).p
theorem Td4(x:List Int):Ib3 x=true:=(Me6 x).g
theorem ag0(x:List Int):inB (if 40<(x.length:Int) then 40 else (x.length:Int)) (x.length+1)=true:=by
 rw[Mc8];apply decide_eq_true
 split<;>omega
theorem nf3(x:List Int):∃L,wb0 x=some (eL tP (ra5 L),[]):=by
 unfold wb0;rw[ag0 x,eb8 tI (f:=λk=>gL tI x (0+k)) λ_ _=>rfl]
 simp only[i5,Td4,f0];exact⟨_,rfl⟩
theorem ag1(x:List Int):Mc (db3 x):=by
 obtain⟨L,h⟩:=nf3 x;unfold db3;rw[h,Ja3 (one (r1L tP)) (Cc0 tP (ra5 L))];exact Td3 L
theorem ag2(x:List Int):Rb1 x=true:=by
 obtain⟨L,h⟩:=nf3 x;unfold Rb1;rw[h];exact Wa9 _ (Cc0 tP (ra5 L))
def phA(R:List (List b8)):Nat:=match R with
 |[]=>0
 |_::_=>1
theorem Af5(R:List (List b8))(r:List b8):phA (R++[r])=1:=by cases R<;>rfl
theorem ag3(R:List (List b8))(h:R.length<=1000000):(Nat.beq R.length (len R)&&Nat.ble ((R.length+1)*24) room)=true:=by
 rw[o4,Qlr,Qlae];exact Qlh (by unfold room;omega)
structure RI(y:Nat)(t:Nat)(s:G3):Prop where
 t:t=phA s.eh0*2+1\/t=phA s.eh0*2+2
 n:s.ns5=s.eh0.length
 y:s.eh0.length<=y
 r:∀r∈s.eh0,(tLs tI).ok r=true
theorem Fe0(x:List (List Int))(y:Nat)(hy:y<=1000000):∃t s,lp (Y9 ⟨x,(y:Int)⟩) ⟨0,0,0,[]⟩=(t,s)/\RI y t s:=by
 refine S8 (step:=Y9 ⟨x,(y:Int)⟩) (mk:=λj (R:List (List b8))=>(⟨phA R,(j:Int),R.length,R⟩:G3)) y
  (λj R=>j<=y/\R.length=j/\∀r∈R,(tLs tI).ok r=true) (RI y) (by omega) (λj R hj hi=>?_) (λj R hj hi=>?_) 0 [] ⟨Qlb _,rfl,λr hr=>by cases hr⟩
 ·obtain⟨_,hl,hr⟩:=hi;have hn:W ((j:Int)+1)=((j+1:Nat):Int):=n8 hj (by omega)
  by_cases hx:j<x.length
  ·have h40:=ag0 (gL (tLs tI) x j);have hok:(tLs tI).ok [(.tree 1 ((if 40<((gL (tLs tI) x j).length:Int) then 40 else ((gL (tLs tI) x j).length:Int)).toNat-0) (λk=>(λk=>tI.row (gL tI (gL (tLs tI) x j) k)) (0+k)))]=true:=by
    show Bool.and (Nat.beq 1 tI.es) (okL tI _ _)=true;rw[eb8 tI (f:=λk=>gL tI (gL (tLs tI) x j) (0+k)) λ_ _=>rfl]
    rfl
   cases R with
   |nil =>
    have e:Y9 ⟨x,(y:Int)⟩ ⟨phA [],(j:Int),([]:List (List b8)).length,[]⟩=.next ⟨1,((j+1:Nat):Int),1,[[(.tree 1 ((if 40<((gL (tLs tI) x j).length:Int) then 40 else ((gL (tLs tI) x j).length:Int)).toNat-0) (λk=>(λk=>tI.row (gL tI (gL (tLs tI) x j) k)) (0+k)))]]⟩:=by
     show G9 Stp.next Stp.exit Stp.fail _ _=_;simp only[G9,Int.toNat_natCast,h40,hn,f0];rw[btD (g9 hx),btD (g9 hj),bt (d9 hx),bt (d9 hx)]
    rw[e];exact .nx ⟨[[_]],rfl,hj,by have:0=j:=hl;subst this;rfl,λr hr=>by rw[Qlm.1 hr];exact hok⟩
   |cons o os =>
    have e:Y9 ⟨x,(y:Int)⟩ ⟨phA (o::os),(j:Int),(o::os).length,o::os⟩=.next ⟨1,((j+1:Nat):Int),(o::os).length+1,o::os++[[(.tree 1 ((if 40<((gL (tLs tI) x j).length:Int) then 40 else ((gL (tLs tI) x j).length:Int)).toNat-0) (λk=>(λk=>tI.row (gL tI (gL (tLs tI) x j) k)) (0+k)))]]⟩:=by
     show H4 Stp.next Stp.exit Stp.fail _ _=_;simp only[H4,Int.toNat_natCast,h40,hn,ag3 (o::os) (by omega),f0]
     rw[btD (g9 hx),btD (g9 hj),bt (d9 hx),bt (d9 hx),J9]
    rw[e];exact .nx ⟨_,by rw[Af5,Qla];rfl,hj,by rw[Qla,hl];rfl,λr hr'=>by
     rcases Qlt.1 hr' with h|h
     ·exact hr r h
     ·rw[Qlm.1 h];exact hok⟩
  ·cases R with
   |nil =>
    have e:Y9 ⟨x,(y:Int)⟩ ⟨phA [],(j:Int),([]:List (List b8)).length,[]⟩=.exit 2:=by
     show G9 Stp.next Stp.exit Stp.fail _ _=_;simp only[G9];rw[bfD (l0 hx)]
    rw[e];exact .ex ⟨.inr rfl,rfl,Qlb _,hr⟩
   |cons o os =>
    have e:Y9 ⟨x,(y:Int)⟩ ⟨phA (o::os),(j:Int),(o::os).length,o::os⟩=.exit 4:=by
     show H4 Stp.next Stp.exit Stp.fail _ _=_;simp only[H4];rw[bfD (l0 hx)]
    rw[e];exact .ex ⟨.inr rfl,rfl,by simp only;omega,hr⟩
 ·obtain⟨h1,hl,hr⟩:=hi;have hje:j=y:=by omega
  subst hje;by_cases hx:j<x.length
  ·cases R with
   |nil =>
    refine⟨1,?_,.inl rfl,rfl,Qlb _,hr⟩;show G9 Stp.next Stp.exit Stp.fail _ _=_;simp only[G9];rw[btD (g9 hx),bfD (l0 (Qlc _))]
   |cons o os =>
    refine⟨3,?_,.inl rfl,rfl,by simp only;omega,hr⟩
    show H4 Stp.next Stp.exit Stp.fail _ _=_;simp only[H4];rw[btD (g9 hx),bfD (l0 (Qlc _))]
  ·cases R with
   |nil =>
    refine⟨2,?_,.inr rfl,rfl,Qlb _,hr⟩;show G9 Stp.next Stp.exit Stp.fail _ _=_;simp only[G9];rw[bfD (l0 hx)]
   |cons o os =>
    refine⟨4,?_,.inr rfl,rfl,by simp only;omega,hr⟩
    show H4 Stp.next Stp.exit Stp.fail _ _=_;simp only[H4];rw[bfD (l0 hx)]
theorem nf4(x:List (List Int))(y:Nat)(hy:y<=1000000):Rd (one (r1L (tLs tI))) (Za0 x (y:Int)) (λr=>r.length<=y):=by
 obtain⟨t,s,h,hR⟩:=Fe0 x y hy;unfold Za0;simp only[i5,i9,h,Qld,f0];obtain⟨ht,hn,hl,hr⟩:=hR;cases hs:s.eh0 with
 |nil =>
  rw[hs] at ht
  rcases ht with rfl|rfl<;>exact⟨_,[],rfl,rfl,Qlb _⟩
 |cons o os =>
  have hrd:(one (r1L (tLs tI))).rd (.sl 0 0 s.ns5 0,[⟨22,1,o::os,true,false,0⟩])=some (slR (tLs tI) (o::os) 0 s.ns5):=by
   show Bool.rec (motive:=λ_=>Option (List (List Int))) none (some (slR (tLs tI) (o::os) 0 s.ns5)) (Bool.and (Nat.beq 1 1) (okS (tLs tI) (o::os) 0 s.ns5))=_
   have:okS (tLs tI) (o::os) 0 s.ns5=true:=by
    unfold okS okL;rw[Qlj];intro k hk;have hk:=Qlad.1 hk;rw[hn,hs] at hk;simp only[Qlaa];have e:d8 (o::os) k=(o::os)[k]:=by unfold d8;rw[D9,Qlf hk]
    rw[e];exact hr _ (by rw[hs];exact List.getElem_mem hk)
   rw[this];rfl
  have hlen:(slR (tLs tI) (o::os) 0 s.ns5).length<=y:=by unfold slR;rw[wc5,hn];exact hl
  rw[hs] at ht
  rcases ht with rfl|rfl<;>exact⟨_,_,rfl,hrd,hlen⟩
structure Ms(y:Nat)(s:List (List Pln)):Prop where
 n:s.length<=y
 c:∀c∈s,Mc c
structure RM(y:Nat)(t:Nat)(s:T8):Prop where
 h:∃O,(t=phL O*2+1\/t=phL O*2+2)/\s.eh0=bL (tLs tP) O/\s.ns5=O.length/\Ms y O
theorem ve2(x:List (List Int))(y:Nat)(hy:y<=1000000):∃t s,lp (pa9 ⟨x,(y:Int)⟩) ⟨0,0,0,[]⟩=(t,s)/\RM y t s:=by
 refine S8 (step:=pa9 ⟨x,(y:Int)⟩) (mk:=λj (O:List (List Pln))=>(⟨phL O,(j:Int),O.length,bL (tLs tP) O⟩:T8)) y
  (λj O=>j<=y/\O.length=j/\∀c∈O,Mc c) (RM y) (by omega) (λj O hj hi=>?_) (λj O hj hi=>?_) 0 [] ⟨Qlb _,rfl,λr hr=>by cases hr⟩
 ·obtain⟨_,hl,hr⟩:=hi;have hn:W ((j:Int)+1)=((j+1:Nat):Int):=n8 hj (by omega)
  by_cases hx:j<x.length
  ·have hM:=Td3 (gL (tLs tI) x j);have gM:=Td4 (gL (tLs tI) x j);have hnew:∀c∈O++[ra5 (gL (tLs tI) x j)],Mc c:=λc hc=>by
    rcases Qlt.1 hc with h|h
    ·exact hr c h
    ·rw[Qlm.1 h];exact hM
   cases O with
   |nil =>
    have e:pa9 ⟨x,(y:Int)⟩ ⟨phL [],(j:Int),([]:List (List Pln)).length,bL (tLs tP) []⟩=.next ⟨1,((j+1:Nat):Int),1,[[eL tP (ra5 (gL (tLs tI) x j))]]⟩:=by
     show R7 Stp.next Stp.exit Stp.fail _ _=_;simp only[R7,Int.toNat_natCast,i5,j9,gM,hn,f0];rw[btD (g9 hx),btD (g9 hj),bt (d9 hx)]
    rw[e];exact .nx ⟨[_],rfl,hj,by have:0=j:=hl;subst this;rfl,hnew⟩
   |cons o os =>
    have e:pa9 ⟨x,(y:Int)⟩ ⟨phL (o::os),(j:Int),(o::os).length,bL (tLs tP) (o::os)⟩=.next ⟨1,((j+1:Nat):Int),(o::os).length+1,bL (tLs tP) (o::os++[ra5 (gL (tLs tI) x j)])⟩:=by
     show R8 Stp.next Stp.exit Stp.fail _ _=_;simp only[R8,Int.toNat_natCast,i5,j9,gM,hn,zd3 (o::os) (by omega),te5,f0]
     rw[btD (g9 hx),btD (g9 hj),bt (d9 hx)]
    rw[e];exact .nx ⟨_,by rw[Sc5,Qla];rfl,hj,by rw[Qla,hl];rfl,hnew⟩
  ·cases O with
   |nil =>
    have e:pa9 ⟨x,(y:Int)⟩ ⟨phL [],(j:Int),([]:List (List Pln)).length,bL (tLs tP) []⟩=.exit 2:=by
     show R7 Stp.next Stp.exit Stp.fail _ _=_;simp only[R7];rw[bfD (l0 hx)]
    rw[e];exact .ex ⟨[],.inr rfl,rfl,rfl,Qlb _,hr⟩
   |cons o os =>
    have e:pa9 ⟨x,(y:Int)⟩ ⟨phL (o::os),(j:Int),(o::os).length,bL (tLs tP) (o::os)⟩=.exit 4:=by
     show R8 Stp.next Stp.exit Stp.fail _ _=_;simp only[R8];rw[bfD (l0 hx)]
    rw[e];exact .ex ⟨o::os,.inr rfl,rfl,rfl,by omega,hr⟩
 ·obtain⟨h1,hl,hr⟩:=hi;have hje:j=y:=by omega
  subst hje;by_cases hx:j<x.length
  ·cases O with
   |nil =>
    refine⟨1,?_,[],.inl rfl,rfl,rfl,Qlb _,hr⟩;show R7 Stp.next Stp.exit Stp.fail _ _=_;simp only[R7];rw[btD (g9 hx),bfD (l0 (Qlc _))]
   |cons o os =>
    refine⟨3,?_,o::os,.inl rfl,rfl,rfl,by omega,hr⟩
    show R8 Stp.next Stp.exit Stp.fail _ _=_;simp only[R8];rw[btD (g9 hx),bfD (l0 (Qlc _))]
  ·cases O with
   |nil =>
    refine⟨2,?_,[],.inr rfl,rfl,rfl,Qlb _,hr⟩;show R7 Stp.next Stp.exit Stp.fail _ _=_;simp only[R7];rw[bfD (l0 hx)]
   |cons o os =>
    refine⟨4,?_,o::os,.inr rfl,rfl,rfl,by omega,hr⟩
    show R8 Stp.next Stp.exit Stp.fail _ _=_;simp only[R8];rw[bfD (l0 hx)]
theorem Ve3(x:List (List Int))(y:Nat)(hy:y<=1000000):Rd (one (r1L (tLs tP))) (Lb4 x (y:Int)) (Ms y):=by
 obtain⟨t,s,h,O,ht,he,hn,hM⟩:=ve2 x y hy;unfold Lb4;simp only[i5,i9,h,he,hn,Qld,f0];cases O with
 |nil=>rcases ht with rfl | rfl<;>exact⟨_,[],rfl,rfl,hM⟩
 |cons o os=>rcases ht with rfl | rfl<;>exact⟨_,o::os,rfl,De2 (tLs tP) 24 (o::os),hM⟩
theorem ve3(x:List (List Int))(y:Nat)(hy:y<=1000000):Rd (one (r1L (tLs tP))) (kb8 x (y:Int)) (Ms y):=by
 have h1:=nf4 x y hy;have h2:=Ve3 (rb4 x (y:Int)) y hy;unfold kb8;simp only[i5,j9,show Vb8 x (y:Int)=true from h1.g,show Jc1 (rb4 x (y:Int)) (y:Int)=true from h2.g,f0]
 exact⟨_,_,rfl,Cc0 (tLs tP) _,h2.p⟩
theorem Af6(x:List (List Int))(y:Nat)(hy:y<=1000000):Ms y (kb9 x (y:Int)):=(ve3 x y hy).p
theorem Af7(x:List (List Int))(y:Nat)(hy:y<=1000000):Cb2 x (y:Int)=true:=(ve3 x y hy).g
theorem Td5{x:List (List Pln)}{y:List Pln}{z:Bool}(hy:y.length<=1000000)(hn:x.length<=1000000)(hx:∀q∈x,q.length<=1000000):Qa6 x y z=((y8 x y).2==0&&(y8 x y).1==z)/\sa7 x y z=true:=by
 have e:Qa5 x y z=some (b ((y8 x y).2==0&&(y8 x y).1==z),[]):=by
  unfold Qa5;simp only[i5,j9,tc9 hy hn hx,zd8 hy hn hx,f0];cases (y8 x y).2==0<;>rfl
 unfold Qa6 sa7;rw[e];exact⟨rfl,rfl⟩
theorem Me7{x y:List (List Pln)}{z:Bool}(hx:x.length<=1000000)(hxl:∀q∈x,q.length<=1000000)(hy:y.length<=1000000)(hyl:∀q∈y,q.length<=1000000):lb1 x y z=((vb5 x y).2==0&&(vb5 x y).1==z)/\U0 x y z=true:=by
 have e:lb0 x y z=some (b ((vb5 x y).2==0&&(vb5 x y).1==z),[]):=by
  unfold lb0;simp only[i5,j9,Me0 hx hxl hy hyl,Me1 hx hxl hy hyl,f0];cases (vb5 x y).2==0<;>rfl
 unfold lb1 U0;rw[e];exact⟨rfl,rfl⟩
structure Bnd(n m:Nat)(ps:List (List Pln)):Prop where
 n:ps.length<=n
 m:∀x∈ps,x.length<=m
def Cov(s:List (List Pln))(c:List Pln):Prop:=ful c=true->∀z,Inr (c++ws) z->∃q∈s,ful q=true/\Inr (q++ws) z
theorem Cov.mono{s t:List (List Pln)}{c:List Pln}(h:Cov s c)(hs:∀q∈s,q∈t):Cov t c:=λhf z hz=>by
 obtain⟨q,hq,h2⟩:=h hf z hz;exact⟨q,hs q hq,h2⟩
theorem nd5{s:List (List Pln)}(hn:s.length<=16)(hs:∀q∈s,(chk q==0)=true):schk s=0:=by
 unfold schk;rw[if_neg (by omega),List.find?_eq_none.2 λq hq=>by have:=hs q hq;rw[beq_iff_eq] at this;simp[this]]
theorem Mc.chk{c:List Pln}(h:Mc c):(chk c==0)=true:=h.g.chk
theorem Mc.ful{c:List Pln}(h:Mc c):ful c=true:=h.g.ful
theorem Ms.schk{y:Nat}{s:List (List Pln)}(h:Ms y s)(hy:y<=16):schk s=0:=nd5 (Qlk h.n hy) λq hq=>(h.c q hq).chk
structure Und(c U:List Pln)(n:Nat)(ps:List (List Pln)):Prop where
 n:ps.length<=n
 d:∀x∈ps,x.Nodup/\(∀p∈x,p∈U)/\ful x=true/\∀z,Inr (x++ws) z->Inr (c++ws) z
end Go.Ev.Ce
