/- Own work. -/
import Derived.Test.YtekgjjgbdcgldaaGreatEvODH
import Derived.ChangeStays
import Derived.ChangeSame
import Derived.OpenShut
import Derived.RowKit
set_option linter.all false
def Qka:=@List.getElem?_eq_getElem
def Qkb:=@Bool.and_self
def Qkc:=@List.getD_eq_getElem?_getD
def Qkd:=@List.mem_append
def Qke:=@List.length_append
def Qkf:=@List.mem_singleton
def Qkg:=@List.mem_append_left
def Qkh:=@Nat.lt_irrefl
def Qki:=@Nat.le_trans
def Qkj:=@List.mem_range
def Qkk:=@List.all_eq_true
def Qkl:=@Option.bind_eq_some_iff
def Qkm:=@Bool.false_eq_true
def Qkn:=@Nat.zero_le
def Qko:=@List.not_mem_nil
def Qkp:=@List.mem_cons
def Qkq:=@Classical.byContradiction
def Qkr:=@List.find?_eq_none
def Qks:=@List.findIdx_lt_length
def Qkt:=@Int.neg_neg
def Qku:=@Int.mul_add
def Qkv:=@Nat.zero_add
def Qkw:=@List.length_map
def Qkx:=@List.getElem?_range
def Qky:=@Bool.not_false
def Qkz:=@List.drop_zero
def Qkaa:=@Int.add_mul
def Qkab:=@Bool.true_and
def Qkac:=@List.exists_cons_of_ne_nil
def Qkad:=@List.take_add_one
def Qkae:=@List.any_eq_false
def Qkaf:=@List.foldl_append
def Qkag:=@List.any_eq_true
def Qkah:=@Bool.and_eq_true
def Qkai:=@List.mem_map
def Qkaj:=@List.length_eq_zero_iff
def Qkak:=@List.append_nil
def Qkal:=@List.mem_filter
def Qkam:=@Option.map_eq_some_iff
def Qkan:=@Bool.not_true
namespace Go.Ev.Ce
open Go Go.Ev Go.Ev.L Go.Proofs
set_option maxRecDepth 100000
noncomputable def ac5:List (Nat×Sum):=[(97,ob3)]
theorem Lc0:g9 prog G ac5:=⟨Db8,trivial⟩
structure Ba0 where
 xb6:List (List Pln)
 qa5:Int
structure S4 where
 o3:Int
noncomputable def Ib8(p:Ba0)(s:S4):St:=⟨ra 9 (eL (tLs tP) p.xb6::i p.qa5::i s.o3::ra 9 []),[]⟩
noncomputable def qa3{α:Type}(k:S4->α)(e:Nat->α)(z:α)(p:Ba0)(s:S4):α:=let t1:=(pa0 (rt tP (gL (tLs tP) p.xb6 s.o3.toNat)));(sl (decide (s.o3<p.qa5)) (sl (inB s.o3 (List.length p.xb6)) (sl (okE tP (gL (tLs tP) p.xb6 s.o3.toNat)) (sl (Ja2 (rt tP (gL (tLs tP) p.xb6 s.o3.toNat))) (sl (t1 != 0) (e 1) (k ⟨W (s.o3+1)⟩)) z) z) z) (e 2))
noncomputable def va1(p:Ba0)(s:S4):Stp S4:=qa3 .next .exit .fail p s
noncomputable def mb6:Lo Ba0 S4:=⟨En ac5,0,lf3,[1,1,0,1,4,4],[9,10,11],.p,[⟨ru2 9 (.s (.c 1 (nL (tLs tP)))::sIq::sIq::ru2 9 []),[],λa H=>(⟨rL (tLs tP) (slT a 9),aIq a 10⟩,⟨aIq a 11⟩)⟩],va1,[(none,λp s=>let t1:=(pa0 (rt tP (gL (tLs tP) p.xb6 s.o3.toNat)));⟨[i t1],[]⟩),(some 0,λp s=>upq (Ib8 p s) [(12,b (decide (s.o3<p.qa5)))])],Ib8⟩
theorem Dc5:mb6.Ok:=Lo.ok [] (by kernel_rfl) .nil rfl (.cons (λa H=>by kernel_rfl) .nil) λp s=>(.of @qa3 (λF _ _ _ _ _=>by unfold qa3;(repeat' apply l5 (f:=F))<;>rfl) (by kernel_rfl))
noncomputable def Pa6(x:List (List Pln)):Option (a7×List a8):=let t1:=(lp (va1 (⟨rt (tLs tP) x,(↑(List.length x):Int)⟩:Ba0)) (⟨0⟩:S4));let t2:=(pa0 (rt tP (gL (tLs tP) (rt (tLs tP) x) t1.2.o3.toNat)));(sl (decide ((↑(List.length x):Int)>16)) (some (i 2,[])) (sl ((cnE (tLs tP) x)&&true) (sl (Nat.beq t1.1 1) (some (i t2,[])) (sl (Nat.beq t1.1 2) (some (i 0,[])) none)) none))
noncomputable def U4(x:List (List Pln)):Int:=Q5 (one r1I) (Pa6 x)
noncomputable def U5(x:List (List Pln)):Bool:=okO (one r1I) (Pa6 x)
noncomputable def eb9:Sum:=ca7 (ba7 (tLs tP)) (λx=>.guard (U5 x) (.ret ((one r1I).enc (U4 x),[])))
theorem wb7:e7 prog G 49 eb9:=Ta0 (bd b49 Lc0) (one r1I) (o:=Pa6) λx=>Da7 (.s .p (.s .p (.s (.s .p (.b (.u mb6.ls))) .p))) [mb6.pr] (by kernel_rfl) (.cons Dc5 .nil) (by kernel_rfl)
noncomputable def ac6:List (Nat×Sum):=[]
theorem Lc1:g9 prog G ac6:=trivial
@[reducible] noncomputable def jc4:Sum:=Fb4 (En ac6) We2
theorem ad3:e7 prog G 155 jc4:=bd yf0 Lc1
noncomputable def cb7:List (Nat×Sum):=[(55,va8),(98,Pb1),(56,pb0),(52,wc3),(166,Ca3),(155,jc4)]
theorem wc4:g9 prog G cb7:=⟨wa7,jc3,Eb9,id6,Wa4,ad3,trivial⟩
structure w9 where
 y5:List Pln
 qa5:Int
 (Bd4 Bd5:List Pln)
 Pc1:List (List Pln)
 (Ue8 Ue9:Int)
structure f8 where
 ph:Nat
 Y2:List Pln
 o3:Int
 B1:Nat
 eh3:List (List a7)
noncomputable def nb0(p:w9)(s:f8):St:=⟨ra 4 (eL tP s.Y2::ra 4 (eL tP p.y5::i p.qa5::i s.o3::ra 31 (i 0::.unk::eL tP p.Bd4::.unk::.unk::.ptr 0 0 0 0::.ptr 1 0 0 0::eL tP p.Bd5::.ptr 2 0 0 0::ra 9 (eL (tLs tP) p.Pc1::i p.Ue8::i p.Ue9::ra 25 [])))),[⟨0,1,[[.v (.slice none 0 0)]],true,false,0⟩,⟨0,1,[[i 0]],true,false,0⟩,⟨0,0,[[.v (.slice none 0 0)]],true,false,0⟩]⟩
noncomputable def nb1(p:w9)(s:f8):St:=⟨ra 4 (eL tP s.Y2::ra 4 (eL tP p.y5::i p.qa5::i s.o3::ra 31 (i 0::.unk::eL tP p.Bd4::.unk::.unk::.ptr 0 0 0 0::.ptr 1 0 0 0::eL tP p.Bd5::.ptr 2 0 0 0::ra 9 (eL (tLs tP) p.Pc1::i p.Ue8::i p.Ue9::ra 25 [])))),[⟨0,1,[[.v (.slice none 0 0)]],true,false,0⟩,⟨0,1,[[i 0]],true,false,0⟩,⟨0,0,[[.sl 3 0 s.B1 0]],true,false,0⟩,⟨24,1,s.eh3,true,false,0⟩]⟩
noncomputable def nc9(p:w9)(s:f8):St:=(sel (Nat.beq s.ph 1) (nb1 p s) (nb0 p s))
noncomputable def A0{α:Type}(k:f8->α)(e:Nat->α)(z:α)(p:w9)(s:f8):α:=let t1:=(Ya0 (gL tP p.y5 s.o3.toNat));let t2:=(s9 [rt tP s.Y2,[t1]]);let t3:=(O6 []);let t4:=(s9 [rt tP s.Y2,[gL tP p.y5 s.o3.toNat]]);let t5:=(O6 (slR tP t4.eh0 0 t4.ns0));let t6:=(O6 (slR tP t2.eh0 0 t2.ns0));let w0:α:=(sl ((okE tP s.Y2)&&true) (sl (Nat.beq t4.alt 1) (sl (r4 []) (k ⟨0,t3,W (s.o3+1),0,[]⟩) z) (sl (Nat.beq t4.alt 2) (sl (okS tP t4.eh0 0 t4.ns0) (sl (r4 (slR tP t4.eh0 0 t4.ns0)) (k ⟨0,t5,W (s.o3+1),0,[]⟩) z) z) z)) z);(sl (decide (s.o3<p.qa5)) (sl (inB s.o3 (List.length p.y5)) (sl (decide ((↑(List.length s.Y2):Int)>=48)) (e 1) (sl ((okE tP s.Y2)&&true) (sl (Nat.beq t2.alt 1) (sl (r4 []) (sl (decide ((↑(List.length t3):Int)>0)) (sl (decide ((↑(List.length t3):Int)>0)) (sl ((!(Nat.beq (List.length t3) 0))&&true) (sl ((okE tP s.Y2)&&true) (sl (Nat.beq t4.alt 1) (sl (r4 []) (k ⟨1,t3,W (s.o3+1),1,[[eL tP t3]]⟩) z) (sl (Nat.beq t4.alt 2) (sl (okS tP t4.eh0 0 t4.ns0) (sl (r4 (slR tP t4.eh0 0 t4.ns0)) (k ⟨1,t5,W (s.o3+1),1,[[eL tP t3]]⟩) z) z) z)) z) z) w0) (sl (decide ((↑(List.length t3):Int)>0)) z w0)) z) (sl (Nat.beq t2.alt 2) (sl (okS tP t2.eh0 0 t2.ns0) (sl (r4 (slR tP t2.eh0 0 t2.ns0)) (sl (decide ((↑(List.length t6):Int)>0)) (sl (decide ((↑(List.length t6):Int)>0)) (sl ((!(Nat.beq (List.length t6) 0))&&true) (sl ((okE tP s.Y2)&&true) (sl (Nat.beq t4.alt 1) (sl (r4 []) (k ⟨1,t3,W (s.o3+1),1,[[eL tP t6]]⟩) z) (sl (Nat.beq t4.alt 2) (sl (okS tP t4.eh0 0 t4.ns0) (sl (r4 (slR tP t4.eh0 0 t4.ns0)) (k ⟨1,t5,W (s.o3+1),1,[[eL tP t6]]⟩) z) z) z)) z) z) w0) (sl (decide ((↑(List.length t6):Int)>0)) z w0)) z) z) z)) z)) z) (e 2))
noncomputable def A1{α:Type}(k:f8->α)(e:Nat->α)(z:α)(p:w9)(s:f8):α:=let t1:=(Ya0 (gL tP p.y5 s.o3.toNat));let t2:=(s9 [rt tP s.Y2,[t1]]);let t3:=(O6 []);let t4:=(s9 [rt tP s.Y2,[gL tP p.y5 s.o3.toNat]]);let t5:=(O6 (slR tP t4.eh0 0 t4.ns0));let t6:=(O6 (slR tP t2.eh0 0 t2.ns0));let w0:α:=(sl ((okE tP s.Y2)&&true) (sl (Nat.beq t4.alt 1) (sl (r4 []) (k ⟨1,t3,W (s.o3+1),s.B1,s.eh3⟩) z) (sl (Nat.beq t4.alt 2) (sl (okS tP t4.eh0 0 t4.ns0) (sl (r4 (slR tP t4.eh0 0 t4.ns0)) (k ⟨1,t5,W (s.o3+1),s.B1,s.eh3⟩) z) z) z)) z);(sl (decide (s.o3<p.qa5)) (sl (inB s.o3 (List.length p.y5)) (sl (decide ((↑(List.length s.Y2):Int)>=48)) (e 3) (sl ((okE tP s.Y2)&&true) (sl (Nat.beq t2.alt 1) (sl (r4 []) (sl (decide ((↑(List.length t3):Int)>0)) (sl (decide ((↑(List.length t3):Int)>0)) (sl ((!(Nat.beq (List.length t3) 0))&&true) (sl (Nat.beq s.B1 (len s.eh3)&&Nat.ble ((s.B1+1)*24) room) (sl ((okE tP s.Y2)&&true) (sl (Nat.beq t4.alt 1) (sl (r4 []) (k ⟨1,t3,W (s.o3+1),s.B1+1,app s.eh3 [[eL tP t3]]⟩) z) (sl (Nat.beq t4.alt 2) (sl (okS tP t4.eh0 0 t4.ns0) (sl (r4 (slR tP t4.eh0 0 t4.ns0)) (k ⟨1,t5,W (s.o3+1),s.B1+1,app s.eh3 [[eL tP t3]]⟩) z) z) z)) z) z) z) w0) (sl (decide ((↑(List.length t3):Int)>0)) z w0)) z) (sl (Nat.beq t2.alt 2) (sl (okS tP t2.eh0 0 t2.ns0) (sl (r4 (slR tP t2.eh0 0 t2.ns0)) (sl (decide ((↑(List.length t6):Int)>0)) (sl (decide ((↑(List.length t6):Int)>0)) (sl ((!(Nat.beq (List.length t6) 0))&&true) (sl (Nat.beq s.B1 (len s.eh3)&&Nat.ble ((s.B1+1)*24) room) (sl ((okE tP s.Y2)&&true) (sl (Nat.beq t4.alt 1) (sl (r4 []) (k ⟨1,t3,W (s.o3+1),s.B1+1,app s.eh3 [[eL tP t6]]⟩) z) (sl (Nat.beq t4.alt 2) (sl (okS tP t4.eh0 0 t4.ns0) (sl (r4 (slR tP t4.eh0 0 t4.ns0)) (k ⟨1,t5,W (s.o3+1),s.B1+1,app s.eh3 [[eL tP t6]]⟩) z) z) z)) z) z) z) w0) (sl (decide ((↑(List.length t6):Int)>0)) z w0)) z) z) z)) z)) z) (e 4))
noncomputable def j7(p:w9)(s:f8):Stp f8:=(sel (Nat.beq s.ph 1) (A1 .next .exit .fail p s) (A0 .next .exit .fail p s))
noncomputable def Ya1:Lo w9 f8:=⟨En cb7,0,df0,[1,1,1,1,0,1,4,4,1,1,0,4,1,1,1,4,4,1,1,4,4],[4,9,10,11,43,45,48,49,50,51,61,62,63],.p,[⟨ru2 4 (sLq tP::ru2 4 (sLq tP::sIq::sIq::ru2 31 (.s (.o (.lit .i64 0))::sUq::sLq tP::sUq::sUq::sPq 0::sPq 1::sLq tP::sPq 2::ru2 9 (.s (.c 1 (nL (tLs tP)))::sIq::sIq::ru2 25 [])))),[⟨0,1,true,some [[.o .nil]]⟩,⟨0,1,true,some [[.o (.lit .i64 0)]]⟩,⟨0,0,true,some [[.o .nil]]⟩],λa H=>(⟨aLq tP a 9,aIq a 10,aLq tP a 45,aLq tP a 50,rL (tLs tP) (slT a 61),aIq a 62,aIq a 63⟩,⟨0,aLq tP a 4,aIq a 11,0,[]⟩)⟩,⟨ru2 4 (sLq tP::ru2 4 (sLq tP::sIq::sIq::ru2 31 (.s (.o (.lit .i64 0))::sUq::sLq tP::sUq::sUq::sPq 0::sPq 1::sLq tP::sPq 2::ru2 9 (.s (.c 1 (nL (tLs tP)))::sIq::sIq::ru2 25 [])))),[⟨0,1,true,some [[.o .nil]]⟩,⟨0,1,true,some [[.o (.lit .i64 0)]]⟩,⟨0,0,true,some [[.o (.sl 3 0 (some 0) none)]]⟩,⟨24,1,true,none⟩],λa H=>(⟨aLq tP a 9,aIq a 10,aLq tP a 45,aLq tP a 50,rL (tLs tP) (slT a 61),aIq a 62,aIq a 63⟩,⟨1,aLq tP a 4,aIq a 11,slN (slT (rwT (elT H 2) 0) 0),elT H 3⟩)⟩],j7,[(none,λp s=>⟨ra 4 (eL tP s.Y2::.unk::.ptr 3 0 0 0::.unk::.unk::eL tP p.y5::i p.qa5::i s.o3::b (decide (s.o3<p.qa5))::.tptr [i (gL tP p.y5 s.o3.toNat).n.x,i (gL tP p.y5 s.o3.toNat).n.y,i (gL tP p.y5 s.o3.toNat).n.z,i (gL tP p.y5 s.o3.toNat).b]::.agg [i (gL tP p.y5 s.o3.toNat).n.x,i (gL tP p.y5 s.o3.toNat).n.y,i (gL tP p.y5 s.o3.toNat).n.z,i (gL tP p.y5 s.o3.toNat).b]::eL tP s.Y2::i (↑(List.length s.Y2):Int)::b (decide ((↑(List.length s.Y2):Int)>=48))::.unk::b false::ra 23 (i 1::.unk::eL tP p.Bd4::.unk::.unk::.ptr 0 0 0 0::.ptr 1 0 0 0::eL tP p.Bd5::.ptr 2 0 0 0::ra 9 (eL (tLs tP) p.Pc1::i p.Ue8::i p.Ue9::ra 25 []))),[⟨0,1,[[.v (.slice none 0 0)]],true,false,0⟩,⟨0,1,[[i 9]],true,false,0⟩,⟨0,0,[[.v (.slice none 0 0)]],true,false,0⟩,⟨0,4,[[i (gL tP p.y5 s.o3.toNat).n.x,i (gL tP p.y5 s.o3.toNat).n.y,i (gL tP p.y5 s.o3.toNat).n.z,i (gL tP p.y5 s.o3.toNat).b]],true,false,0⟩]⟩),(some 0,λp s=>upq (nb0 p s) [(12,b (decide (s.o3<p.qa5)))]),(none,λp s=>⟨ra 4 (eL tP s.Y2::.unk::.ptr 4 0 0 0::.unk::.unk::eL tP p.y5::i p.qa5::i s.o3::b (decide (s.o3<p.qa5))::.tptr [i (gL tP p.y5 s.o3.toNat).n.x,i (gL tP p.y5 s.o3.toNat).n.y,i (gL tP p.y5 s.o3.toNat).n.z,i (gL tP p.y5 s.o3.toNat).b]::.agg [i (gL tP p.y5 s.o3.toNat).n.x,i (gL tP p.y5 s.o3.toNat).n.y,i (gL tP p.y5 s.o3.toNat).n.z,i (gL tP p.y5 s.o3.toNat).b]::eL tP s.Y2::i (↑(List.length s.Y2):Int)::b (decide ((↑(List.length s.Y2):Int)>=48))::.unk::b false::ra 23 (i 1::.unk::eL tP p.Bd4::.unk::.unk::.ptr 0 0 0 0::.ptr 1 0 0 0::eL tP p.Bd5::.ptr 2 0 0 0::ra 9 (eL (tLs tP) p.Pc1::i p.Ue8::i p.Ue9::ra 25 []))),[⟨0,1,[[.v (.slice none 0 0)]],true,false,0⟩,⟨0,1,[[i 9]],true,false,0⟩,⟨0,0,[[.sl 3 0 s.B1 0]],true,false,0⟩,⟨24,1,s.eh3,true,false,0⟩,⟨0,4,[[i (gL tP p.y5 s.o3.toNat).n.x,i (gL tP p.y5 s.o3.toNat).n.y,i (gL tP p.y5 s.o3.toNat).n.z,i (gL tP p.y5 s.o3.toNat).b]],true,false,0⟩]⟩),(some 0,λp s=>upq (nb1 p s) [(12,b (decide (s.o3<p.qa5)))])],nc9⟩
theorem oc0:Ya1.OkM:=Lo.okM [] (by kernel_rfl) .nil rfl (.cons (λa H=>by kernel_rfl) (.cons (λa H=>by kernel_rfl) .nil)) λp s=>(.sel (Nat.beq s.ph 1) (.of @A1 (λF _ _ _ _ _=>by unfold A1;(repeat' apply l5 (f:=F))<;>rfl) (by kernel_rfl)) (.of @A0 (λF _ _ _ _ _=>by unfold A0;(repeat' apply l5 (f:=F))<;>rfl) (by kernel_rfl)))
structure P7 where
 gc4:Int
structure n7 where
 ph:Nat
 (ga2 p9:List Pln)
 A8:List (List Pln)
 qa6:Int
 B1:Nat
 eh3:List (List a7)
noncomputable def nb2(p:P7)(s:n7):St:=⟨.unk::eL tP s.ga2::.unk::.unk::.ptr 0 0 0 0::.ptr 1 0 0 0::eL tP s.p9::.ptr 2 0 0 0::ra 9 (eL (tLs tP) s.A8::i p.gc4::i s.qa6::ra 25 []),[⟨0,1,[[.v (.slice none 0 0)]],true,false,0⟩,⟨0,1,[[i 0]],true,false,0⟩,⟨0,0,[[.v (.slice none 0 0)]],true,false,0⟩]⟩
noncomputable def nb3(p:P7)(s:n7):St:=⟨.unk::eL tP s.ga2::.unk::.unk::.ptr 0 0 0 0::.ptr 1 0 0 0::eL tP s.p9::.ptr 2 0 0 0::ra 9 (eL (tLs tP) s.A8::i p.gc4::i s.qa6::ra 25 []),[⟨0,1,[[.v (.slice none 0 0)]],true,false,0⟩,⟨0,1,[[i 0]],true,false,0⟩,⟨0,0,[[.sl 3 0 s.B1 0]],true,false,0⟩,⟨24,1,s.eh3,true,false,0⟩]⟩
noncomputable def oc1(p:P7)(s:n7):St:=(sel (Nat.beq s.ph 1) (nb3 p s) (nb2 p s))
noncomputable def m9{α:Type}(k:n7->α)(e:Nat->α)(z:α)(p:P7)(s:n7):α:=let t1:=(wa9 (rt tP (gL (tLs tP) s.A8 s.qa6.toNat)) (rt tP s.ga2));let t2:=(lp (j7 (⟨rt tP s.p9,(↑(List.length s.p9):Int),rt tP s.ga2,rt tP s.p9,rt (tLs tP) s.A8,p.gc4,s.qa6⟩:w9)) (⟨0,rt tP (gL (tLs tP) s.A8 s.qa6.toNat),0,0,[]⟩:f8));(sl (decide (s.qa6<p.gc4)) (sl (inB s.qa6 (List.length s.A8)) (sl (okE tP (gL (tLs tP) s.A8 s.qa6.toNat)) (sl (okE tP s.ga2) (sl (xa0 (rt tP (gL (tLs tP) s.A8 s.qa6.toNat)) (rt tP s.ga2)) (sl t1 (k ⟨1,s.ga2,s.p9,s.A8,W (s.qa6+1),1,[[eL tP (gL (tLs tP) s.A8 s.qa6.toNat)]]⟩) (sl ((cnE tP (gL (tLs tP) s.A8 s.qa6.toNat))&&((cnE tP s.p9)&&((cnE tP s.ga2)&&((cnE tP s.p9)&&((cnE (tLs tP) s.A8)&&true))))) (sl (Nat.beq t2.1 1) (e 1) (sl (Nat.beq t2.1 2) (k ⟨0,rt tP s.ga2,rt tP s.p9,rt (tLs tP) s.A8,W (s.qa6+1),0,[]⟩) (sl (Nat.beq t2.1 3) (e 2) (sl (Nat.beq t2.1 4) (k ⟨1,rt tP s.ga2,rt tP s.p9,rt (tLs tP) s.A8,W (s.qa6+1),t2.2.B1,t2.2.eh3⟩) z)))) z)) z) z) z) z) (e 3))
noncomputable def r7{α:Type}(k:n7->α)(e:Nat->α)(z:α)(p:P7)(s:n7):α:=let t1:=(wa9 (rt tP (gL (tLs tP) s.A8 s.qa6.toNat)) (rt tP s.ga2));let t2:=(lp (j7 (⟨rt tP s.p9,(↑(List.length s.p9):Int),rt tP s.ga2,rt tP s.p9,rt (tLs tP) s.A8,p.gc4,s.qa6⟩:w9)) (⟨1,rt tP (gL (tLs tP) s.A8 s.qa6.toNat),0,s.B1,s.eh3⟩:f8));(sl (decide (s.qa6<p.gc4)) (sl (inB s.qa6 (List.length s.A8)) (sl (okE tP (gL (tLs tP) s.A8 s.qa6.toNat)) (sl (okE tP s.ga2) (sl (xa0 (rt tP (gL (tLs tP) s.A8 s.qa6.toNat)) (rt tP s.ga2)) (sl t1 (sl (Nat.beq s.B1 (len s.eh3)&&Nat.ble ((s.B1+1)*24) room) (k ⟨1,s.ga2,s.p9,s.A8,W (s.qa6+1),s.B1+1,app s.eh3 [[eL tP (gL (tLs tP) s.A8 s.qa6.toNat)]]⟩) z) (sl ((cnE tP (gL (tLs tP) s.A8 s.qa6.toNat))&&((cnE tP s.p9)&&((cnE tP s.ga2)&&((cnE tP s.p9)&&((cnE (tLs tP) s.A8)&&true))))) (sl (Nat.beq t2.1 1) (e 4) (sl (Nat.beq t2.1 2) (k ⟨0,rt tP s.ga2,rt tP s.p9,rt (tLs tP) s.A8,W (s.qa6+1),0,[]⟩) (sl (Nat.beq t2.1 3) (e 5) (sl (Nat.beq t2.1 4) (k ⟨1,rt tP s.ga2,rt tP s.p9,rt (tLs tP) s.A8,W (s.qa6+1),t2.2.B1,t2.2.eh3⟩) z)))) z)) z) z) z) z) (e 6))
noncomputable def u9(p:P7)(s:n7):Stp n7:=(sel (Nat.beq s.ph 1) (r7 .next .exit .fail p s) (m9 .next .exit .fail p s))
noncomputable def Ya2:Lo P7 n7:=⟨En cb7,0,df0,[1,1,1,1,0,1,4,4],[1,4,5,6,7,17,18,19],.s .p (.s .p (.s (.b (.s .p (.s .p (.s .p (.b (.i (.s .p (.s .p (.b (.u Ya1.lsM)))))))))) .p)),[⟨sUq::sLq tP::sUq::sUq::sPq 0::sPq 1::sLq tP::sPq 2::ru2 9 (.s (.c 1 (nL (tLs tP)))::sIq::sIq::ru2 25 []),[⟨0,1,true,some [[.o .nil]]⟩,⟨0,1,true,some [[.o (.lit .i64 0)]]⟩,⟨0,0,true,some [[.o .nil]]⟩],λa H=>(⟨aIq a 18⟩,⟨0,aLq tP a 1,aLq tP a 6,rL (tLs tP) (slT a 17),aIq a 19,0,[]⟩)⟩,⟨sUq::sLq tP::sUq::sUq::sPq 0::sPq 1::sLq tP::sPq 2::ru2 9 (.s (.c 1 (nL (tLs tP)))::sIq::sIq::ru2 25 []),[⟨0,1,true,some [[.o .nil]]⟩,⟨0,1,true,some [[.o (.lit .i64 0)]]⟩,⟨0,0,true,some [[.o (.sl 3 0 (some 0) none)]]⟩,⟨24,1,true,none⟩],λa H=>(⟨aIq a 18⟩,⟨1,aLq tP a 1,aLq tP a 6,rL (tLs tP) (slT a 17),aIq a 19,slN (slT (rwT (elT H 2) 0) 0),elT H 3⟩)⟩],u9,[(none,λp s=>let t2:=(lp (j7 (⟨rt tP s.p9,(↑(List.length s.p9):Int),rt tP s.ga2,rt tP s.p9,rt (tLs tP) s.A8,p.gc4,s.qa6⟩:w9)) (⟨0,rt tP (gL (tLs tP) s.A8 s.qa6.toNat),0,0,[]⟩:f8));⟨.unk::eL tP (rt tP s.ga2)::.unk::.unk::.ptr 0 0 0 0::.ptr 1 0 0 0::eL tP (rt tP s.p9)::.ptr 2 0 0 0::ra 9 (eL (tLs tP) (rt (tLs tP) s.A8)::i p.gc4::i s.qa6::ra 25 []),[⟨0,1,[[.v (.slice none 0 0)]],true,false,0⟩,⟨0,1,[[i 9]],true,false,0⟩,⟨0,0,[[.v (.slice none 0 0)]],true,false,0⟩,⟨0,4,[[i (gL tP (rt tP s.p9) t2.2.o3.toNat).n.x,i (gL tP (rt tP s.p9) t2.2.o3.toNat).n.y,i (gL tP (rt tP s.p9) t2.2.o3.toNat).n.z,i (gL tP (rt tP s.p9) t2.2.o3.toNat).b]],true,false,0⟩]⟩),(none,λp s=>let t2:=(lp (j7 (⟨rt tP s.p9,(↑(List.length s.p9):Int),rt tP s.ga2,rt tP s.p9,rt (tLs tP) s.A8,p.gc4,s.qa6⟩:w9)) (⟨0,rt tP (gL (tLs tP) s.A8 s.qa6.toNat),0,0,[]⟩:f8));⟨.unk::eL tP (rt tP s.ga2)::.unk::.unk::.ptr 0 0 0 0::.ptr 1 0 0 0::eL tP (rt tP s.p9)::.ptr 2 0 0 0::ra 9 (eL (tLs tP) (rt (tLs tP) s.A8)::i p.gc4::i s.qa6::ra 25 []),[⟨0,1,[[.v (.slice none 0 0)]],true,false,0⟩,⟨0,1,[[i 9]],true,false,0⟩,⟨0,0,[[.sl 3 0 t2.2.B1 0]],true,false,0⟩,⟨24,1,t2.2.eh3,true,false,0⟩,⟨0,4,[[i (gL tP (rt tP s.p9) t2.2.o3.toNat).n.x,i (gL tP (rt tP s.p9) t2.2.o3.toNat).n.y,i (gL tP (rt tP s.p9) t2.2.o3.toNat).n.z,i (gL tP (rt tP s.p9) t2.2.o3.toNat).b]],true,false,0⟩]⟩),(some 0,λp s=>upq (nb2 p s) [(20,b (decide (s.qa6<p.gc4)))]),(none,λp s=>let t2:=(lp (j7 (⟨rt tP s.p9,(↑(List.length s.p9):Int),rt tP s.ga2,rt tP s.p9,rt (tLs tP) s.A8,p.gc4,s.qa6⟩:w9)) (⟨1,rt tP (gL (tLs tP) s.A8 s.qa6.toNat),0,s.B1,s.eh3⟩:f8));⟨.unk::eL tP (rt tP s.ga2)::.unk::.unk::.ptr 0 0 0 0::.ptr 1 0 0 0::eL tP (rt tP s.p9)::.ptr 2 0 0 0::ra 9 (eL (tLs tP) (rt (tLs tP) s.A8)::i p.gc4::i s.qa6::ra 25 []),[⟨0,1,[[.v (.slice none 0 0)]],true,false,0⟩,⟨0,1,[[i 9]],true,false,0⟩,⟨0,0,[[.v (.slice none 0 0)]],true,false,0⟩,⟨0,4,[[i (gL tP (rt tP s.p9) t2.2.o3.toNat).n.x,i (gL tP (rt tP s.p9) t2.2.o3.toNat).n.y,i (gL tP (rt tP s.p9) t2.2.o3.toNat).n.z,i (gL tP (rt tP s.p9) t2.2.o3.toNat).b]],true,false,0⟩]⟩),(none,λp s=>let t2:=(lp (j7 (⟨rt tP s.p9,(↑(List.length s.p9):Int),rt tP s.ga2,rt tP s.p9,rt (tLs tP) s.A8,p.gc4,s.qa6⟩:w9)) (⟨1,rt tP (gL (tLs tP) s.A8 s.qa6.toNat),0,s.B1,s.eh3⟩:f8));⟨.unk::eL tP (rt tP s.ga2)::.unk::.unk::.ptr 0 0 0 0::.ptr 1 0 0 0::eL tP (rt tP s.p9)::.ptr 2 0 0 0::ra 9 (eL (tLs tP) (rt (tLs tP) s.A8)::i p.gc4::i s.qa6::ra 25 []),[⟨0,1,[[.v (.slice none 0 0)]],true,false,0⟩,⟨0,1,[[i 9]],true,false,0⟩,⟨0,0,[[.sl 3 0 t2.2.B1 0]],true,false,0⟩,⟨24,1,t2.2.eh3,true,false,0⟩,⟨0,4,[[i (gL tP (rt tP s.p9) t2.2.o3.toNat).n.x,i (gL tP (rt tP s.p9) t2.2.o3.toNat).n.y,i (gL tP (rt tP s.p9) t2.2.o3.toNat).n.z,i (gL tP (rt tP s.p9) t2.2.o3.toNat).b]],true,false,0⟩]⟩),(some 0,λp s=>upq (nb3 p s) [(20,b (decide (s.qa6<p.gc4)))])],oc1⟩
theorem oc2:Ya2.OkM:=Lo.okM [Ya1.prM] (by kernel_rfl) (.cons oc0 .nil) rfl (.cons (λa H=>by kernel_rfl) (.cons (λa H=>by kernel_rfl) .nil)) λp s=>(.sel (Nat.beq s.ph 1) (.of @r7 (λF _ _ _ _ _=>by unfold r7;(repeat' apply l5 (f:=F))<;>rfl) (by kernel_rfl)) (.of @m9 (λF _ _ _ _ _=>by unfold m9;(repeat' apply l5 (f:=F))<;>rfl) (by kernel_rfl)))
noncomputable def Ba1(x:List (List Pln))(y:List Pln):Option (a7×List a8):=let t1:=(ja2 (rt tP y));let t2:=(O6 (rt tP y));let t3:=(lp (u9 (⟨(↑(List.length x):Int)⟩:P7)) (⟨0,rt tP y,rt tP t2,rt (tLs tP) x,0,0,[]⟩:n7));(sl (okE tP y) (sl (ja3 (rt tP y)) (sl (!t1) (some (.tup [eL (tLs tP) x,i 0],[])) (sl (okE tP y) (sl (r4 (rt tP y)) (sl ((cnE tP y)&&((cnE tP t2)&&((cnE (tLs tP) x)&&true))) (sl (Nat.beq t3.1 1) (some (.tup [.v (.slice none 0 0),i 9],[])) (sl (Nat.beq t3.1 2) (some (.tup [.v (.slice none 0 0),i 9],[])) (sl (Nat.beq t3.1 3) (some (.tup [.v (.slice none 0 0),i 0],[])) (sl (Nat.beq t3.1 4) (some (.tup [.v (.slice none 0 0),i 9],[])) (sl (Nat.beq t3.1 5) (some (.tup [.v (.slice none 0 0),i 9],[])) (sl (Nat.beq t3.1 6) (sl (decide ((↑t3.2.B1:Int)>200)) (some (.tup [.v (.slice none 0 0),i 9],[])) (some ((.tup [(.tree 1 t3.2.B1 (λk=>i6 t3.2.eh3 (0+k))),i 0]),[]))) none)))))) none) none) none)) none) none)
noncomputable def Y0(x:List (List Pln))(y:List Pln):List (List Pln)×Int:=Q5 (two (r1L (tLs tP)) r1I) (Ba1 x y)
noncomputable def Qa8(x:List (List Pln))(y:List Pln):Bool:=okO (two (r1L (tLs tP)) r1I) (Ba1 x y)
noncomputable def Rb0:Sum:=ta3 (ba7 (tLs tP)) (ba7 tP) (λx y=>.guard (Qa8 x y) (.ret ((two (r1L (tLs tP)) r1I).enc (Y0 x y),[])))
theorem Dc6:e7 prog G 99 Rb0:=Gb0 (bd b99 wc4) (two (r1L (tLs tP)) r1I) (o:=Ba1) λx y=>ze0 (.s .p (.s .p (.s .p (.s .p (.s (.s .p (.b (.u Ya2.lsM))) .p))))) [Ya2.prM] (by kernel_rfl) (.cons oc2 .nil) (by kernel_rfl)
noncomputable def ac7:List (Nat×Sum):=[(97,ob3),(49,eb9),(55,va8),(98,Pb1),(99,Rb0)]
theorem Lc2:g9 prog G ac7:=⟨Db8,wb7,wa7,jc3,Dc6,trivial⟩
structure Y1 where
 Ka1:List (List Pln)
 ae6:Int
 b8:List Pln
structure y7 where
 ph:Nat
 xb7:Int
 Za1:List (List Pln)
noncomputable def Bb5(p:Y1)(s:y7):St:=⟨ra 8 (.sl 0 0 1 0::ra 19 (eL (tLs tP) p.Ka1::i p.ae6::i s.xb7::ra 14 [])),[⟨24,1,[[eL tP p.b8]],true,false,0⟩]⟩
noncomputable def Bb6(p:Y1)(s:y7):St:=⟨ra 8 (eL (tLs tP) s.Za1::ra 19 (eL (tLs tP) p.Ka1::i p.ae6::i s.xb7::ra 14 [])),[]⟩
noncomputable def Dc7(p:Y1)(s:y7):St:=(sel (Nat.beq s.ph 1) (Bb6 p s) (Bb5 p s))
noncomputable def M5{α:Type}(k:y7->α)(e:Nat->α)(z:α)(p:Y1)(s:y7):α:=let t1:=(Y0 [rt tP p.b8] (rt tP (gL (tLs tP) p.Ka1 s.xb7.toNat)));(sl (decide (s.xb7<p.ae6)) (sl (inB s.xb7 (List.length p.Ka1)) (sl ((okE tP p.b8)&&true) (sl (okE tP (gL (tLs tP) p.Ka1 s.xb7.toNat)) (sl (Qa8 [rt tP p.b8] (rt tP (gL (tLs tP) p.Ka1 s.xb7.toNat))) (sl (t1.2 != 0) (e 1) (k ⟨1,W (s.xb7+1),t1.1⟩)) z) z) z) z) (e 2))
noncomputable def M6{α:Type}(k:y7->α)(e:Nat->α)(z:α)(p:Y1)(s:y7):α:=let t1:=(Y0 (rt (tLs tP) s.Za1) (rt tP (gL (tLs tP) p.Ka1 s.xb7.toNat)));(sl (decide (s.xb7<p.ae6)) (sl (inB s.xb7 (List.length p.Ka1)) (sl (okE (tLs tP) s.Za1) (sl (okE tP (gL (tLs tP) p.Ka1 s.xb7.toNat)) (sl (Qa8 (rt (tLs tP) s.Za1) (rt tP (gL (tLs tP) p.Ka1 s.xb7.toNat))) (sl (t1.2 != 0) (e 3) (k ⟨1,W (s.xb7+1),t1.1⟩)) z) z) z) z) (e 4))
noncomputable def K9(p:Y1)(s:y7):Stp y7:=(sel (Nat.beq s.ph 1) (M6 .next .exit .fail p s) (M5 .next .exit .fail p s))
noncomputable def mb7:Lo Y1 y7:=⟨En ac7,0,lf1,[1,1,1,1,1,0,1,4,4],[8,28,29,30],.p,[⟨ru2 8 (.s (.o (.sl 0 0 (some 0) (some 1)))::ru2 19 (.s (.c 1 (nL (tLs tP)))::sIq::sIq::ru2 14 [])),[⟨24,1,true,some [[.c 4 (nL tP)]]⟩],λa H=>(⟨rL (tLs tP) (slT a 28),aIq a 29,hLq tP H 0 0 0⟩,⟨0,aIq a 30,[]⟩)⟩,⟨ru2 8 (.s (.c 1 (nL (tLs tP)))::ru2 19 (.s (.c 1 (nL (tLs tP)))::sIq::sIq::ru2 14 [])),[],λa H=>(⟨rL (tLs tP) (slT a 28),aIq a 29,[]⟩,⟨1,aIq a 30,rL (tLs tP) (slT a 8)⟩)⟩],K9,[(none,λp s=>let t1:=(Y0 [rt tP p.b8] (rt tP (gL (tLs tP) p.Ka1 s.xb7.toNat)));⟨[.tup [.v (.slice none 0 0),i t1.2]],[]⟩),(some 0,λp s=>upq (Bb5 p s) [(31,b (decide (s.xb7<p.ae6)))]),(none,λp s=>let t1:=(Y0 (rt (tLs tP) s.Za1) (rt tP (gL (tLs tP) p.Ka1 s.xb7.toNat)));⟨[.tup [.v (.slice none 0 0),i t1.2]],[]⟩),(some 0,λp s=>upq (Bb6 p s) [(31,b (decide (s.xb7<p.ae6)))])],Dc7⟩
theorem Dc8:mb7.Ok:=Lo.ok [] (by kernel_rfl) .nil rfl (.cons (λa H=>by kernel_rfl) (.cons (λa H=>by kernel_rfl) .nil)) λp s=>(.sel (Nat.beq s.ph 1) (.of @M6 (λF _ _ _ _ _=>by unfold M6;(repeat' apply l5 (f:=F))<;>rfl) (by kernel_rfl)) (.of @M5 (λF _ _ _ _ _=>by unfold M5;(repeat' apply l5 (f:=F))<;>rfl) (by kernel_rfl)))
noncomputable def Pa7(x:List Pln)(y:List (List Pln)):Option (a7×List a8):=let t1:=(pa0 (rt tP x));let t2:=(U4 (rt (tLs tP) y));let t3:=(ja2 (rt tP x));let t4:=(O6 (rt tP x));let t5:=(lp (K9 (⟨rt (tLs tP) y,(↑(List.length y):Int),rt tP t4⟩:Y1)) (⟨0,0,[]⟩:y7));let t6:=(Y0 [rt tP (rt tP t4)] (rt tP (gL (tLs tP) (rt (tLs tP) y) t5.2.xb7.toNat)));let t7:=(Y0 (rt (tLs tP) t5.2.Za1) (rt tP (gL (tLs tP) (rt (tLs tP) y) t5.2.xb7.toNat)));(sl (okE tP x) (sl (Ja2 (rt tP x)) (sl (t1 != 0) (some (.tup [.v (.slice none 0 0),i t1],[])) (sl (okE (tLs tP) y) (sl (U5 (rt (tLs tP) y)) (sl (t2 != 0) (some (.tup [.v (.slice none 0 0),i t2],[])) (sl (okE tP x) (sl (ja3 (rt tP x)) (sl (!t3) (some (.tup [.v (.slice none 0 0),i 0],[])) (sl (okE tP x) (sl (r4 (rt tP x)) (sl ((cnE (tLs tP) y)&&((cnE tP t4)&&true)) (sl (Nat.beq t5.1 1) (some (.tup [.v (.slice none 0 0),i t6.2],[])) (sl (Nat.beq t5.1 2) (some (.tup [.sl 0 0 1 0,i 0],[⟨24,1,[[eL tP (rt tP t4)]],true,false,0⟩])) (sl (Nat.beq t5.1 3) (some (.tup [.v (.slice none 0 0),i t7.2],[])) (sl (Nat.beq t5.1 4) (some (.tup [eL (tLs tP) t5.2.Za1,i 0],[])) none)))) none) none) none)) none) none)) none) none)) none) none)
noncomputable def Ba8(x:List Pln)(y:List (List Pln)):List (List Pln)×Int:=Q5 (two (r1L (tLs tP)) r1I) (Pa7 x y)
noncomputable def sa0(x:List Pln)(y:List (List Pln)):Bool:=okO (two (r1L (tLs tP)) r1I) (Pa7 x y)
noncomputable def fb0:Sum:=ta3 (ba7 tP) (ba7 (tLs tP)) (λx y=>.guard (sa0 x y) (.ret ((two (r1L (tLs tP)) r1I).enc (Ba8 x y),[])))
theorem wb8:e7 prog G 40 fb0:=Gb0 (bd b40 Lc2) (two (r1L (tLs tP)) r1I) (o:=Pa7) λx y=>Da7 (.s .p (.s .p (.s .p (.s .p (.s .p (.s (.s .p (.b (.u mb7.ls))) .p)))))) [mb7.pr] (by kernel_rfl) (.cons Dc8 .nil) (by kernel_rfl)
noncomputable def Lc3:List (Nat×Sum):=[(40,fb0)]
theorem Dc9:g9 prog G Lc3:=⟨wb8,trivial⟩
noncomputable def Ha5(x:List (List Pln))(y:List Pln):Option (a7×List a8):=let t1:=(Ba8 (rt tP y) (rt (tLs tP) x));(sl (okE tP y) (sl (okE (tLs tP) x) (sl (sa0 (rt tP y) (rt (tLs tP) x)) (sl (t1.2==0) (some (.tup [b ((↑(List.length t1.1):Int)==0),i t1.2],[])) (some (.tup [b false,i t1.2],[]))) none) none) none)
noncomputable def da7(x:List (List Pln))(y:List Pln):Bool×Int:=Q5 (two r1B r1I) (Ha5 x y)
noncomputable def Ha6(x:List (List Pln))(y:List Pln):Bool:=okO (two r1B r1I) (Ha5 x y)
noncomputable def wb9:Sum:=ta3 (ba7 (tLs tP)) (ba7 tP) (λx y=>.guard (Ha6 x y) (.ret ((two r1B r1I).enc (da7 x y),[])))
theorem Rb1:e7 prog G 42 wb9:=Gb0 (bd b42 Dc9) (two r1B r1I) (o:=Ha5) λx y=>A7 (by kernel_rfl)
theorem pe2(ls:List (List Pln))(hn:ls.length<=1000000000)(hl:ls.flatten.length<=1000000000):s9 ls=if ls.flatten=[] then ⟨1,0,[]⟩ else ⟨2,ls.flatten.length,bL tP ls.flatten⟩:=by
 unfold s9 L0;simp only[i8,n9];obtain⟨m,hm⟩:=Ld3 ls hn hl;rw[hm];by_cases h0:ls.flatten=[]
 ·obtain⟨s,hs⟩:=ee0 ls hn h0;rw[if_pos h0,hs];rw[show (⟨(ls.flatten.length:Int),m⟩:s7)=⟨0,m⟩ by rw[h0];rfl]
  rfl
 ·obtain⟨m',hm'⟩:=Ld4 ls hn;rw[if_neg h0];simp only[Int.toNat_natCast];rw[hm'];have h1:0<ls.flatten.length:=List.length_pos_iff.2 h0;have e1:((ls.flatten.length:Int)==0)=false:=by rw[beq_eq_false_iff_ne];omega
  have e2:Bool.and (decide ((0:Int)<(ls.flatten.length:Int))) (Nat.ble (ls.flatten.length*32) room)=true:=by
   rw[Ua6 (by omega),decide_eq_true (by omega)]
   rfl
  rw[e1,e2];rfl
theorem ge7(r:List Pln)(p:Pln)(hr:r.length<=1000000):s9 [r,[p]]=⟨2,(r++[p]).length,bL tP (r++[p])⟩:=by
 have e:[r,[p]].flatten=r++[p]:=by simp
 rw[pe2 [r,[p]] (by simp) (by rw[e,Qke];simp only[List.length_singleton];omega),e,if_neg (by simp)]
theorem Re3(r:List Pln)(p:Pln):slR tP (bL tP (r++[p])) 0 (r++[p]).length=r++[p]:=zc6 tP _
theorem Re4(r:List Pln)(p:Pln):okS tP (bL tP (r++[p])) 0 (r++[p]).length=true:=zc7 tP _
theorem Oc3{p:Pln}(h:Bd p):Ya0 p=U1 p:=by
 unfold Ya0 ac4 U1
 simp only
 have:=h.x1;have:=h.x2;have:=h.y1;have:=h.y2;have:=h.z1;have:=h.z2;have:=h.b1;have:=h.b2
 rw[qa9 (by omega) (by omega),qa9 (by omega) (by omega),qa9 (by omega) (by omega),qa9 (by omega) (by omega)]
 simp only[Int.zero_sub]
def phL(O:List (List Pln)):Nat:=match O with
 |[]=>0
 |_::_=>1
theorem zd9(O:List (List Pln))(c:List Pln):phL (O++[c])=1:=by cases O<;>rfl
theorem Ee4(O:List (List Pln))(c:List Pln):app (bL (tLs tP) O) [[eL tP c]]=bL (tLs tP) (O++[c]):=bb0 (tLs tP) O [c]
theorem Zd3(O:List (List Pln))(h:O.length<=1000000):(Nat.beq O.length (len (bL (tLs tP) O))&&Nat.ble ((O.length+1)*24) room)=true:=by
 rw[qa8,Nat.beq_refl,Qkab];exact Nat.ble_eq_true_of_le (by unfold room;omega)
theorem pd5(x fs:List Pln)(j:Nat):Ca6 x fs (j+1)=Ca6 x fs j++(if 0<(sa5 x fs j).length then [sa5 x fs j] else []):=by
 unfold Ca6;rw[List.range_succ,List.map_append,List.filter_append];congr 1;by_cases h:0<(sa5 x fs j).length
 ·rw[if_pos h];simp[h]
 ·rw[if_neg h];simp[h]
theorem Pd3(x fs:List Pln)(j:Nat):(Ca6 x fs j).length<=j:=by
 unfold Ca6
 have:=List.length_filter_le (λc:List Pln=>decide (0<c.length)) ((List.range j).map (sa5 x fs))
 simpa using this
theorem pe3:Nat.beq 2 1=false:=rfl
theorem pe4:Nat.beq 2 2=true:=rfl
theorem Re5 (x fs q : List Pln) (xs : List (List Pln)) (a c : Int) (O : List (List Pln)) (hf : ∀ p ∈ fs, okp p = true) (hfl : fs.length ≤ 1000) (hO : O.length ≤ 900000) :
  ∃t s,lp (j7 ⟨fs,(fs.length:Int),q,fs,xs,a,c⟩) ⟨phL O,x,0,O.length,bL (tLs tP) O⟩=(t,s) /\
   ((ra9 x fs=true->t=phL (O++Ca6 x fs fs.length)*2+2/\s.B1=(O++Ca6 x fs fs.length).length/\s.eh3=bL (tLs tP) (O++Ca6 x fs fs.length))/\(ra9 x fs=false->t=1\/t=3)):=by
 refine pa5 (step:=j7 ⟨fs,(fs.length:Int),q,fs,xs,a,c⟩) (mk:=λj (O':List (List Pln))=>(⟨phL O',v7 x fs j,(j:Int),O'.length,bL (tLs tP) O'⟩:f8)) fs.length
  (λj O'=>j<=fs.length/\O'=O++Ca6 x fs j/\∀i,i<j->(v7 x fs i).length<48)
  (λt s=>(ra9 x fs=true->t=phL (O++Ca6 x fs fs.length)*2+2/\s.B1=(O++Ca6 x fs fs.length).length/\s.eh3=bL (tLs tP) (O++Ca6 x fs fs.length))/\(ra9 x fs=false->t=1\/t=3)) (by omega)
  (λj O' hj hi=>?_) (λj O' hj hi=>?_) 0 O ⟨Qkn _,by simp[Ca6],λi hi=>absurd hi (Nat.not_lt_zero i)⟩
 ·obtain⟨_,hO',hr⟩:=hi;have hn:W ((j:Int)+1)=((j+1:Nat):Int):=r8 hj (by omega)
  have hp:=hf _ (ga4 tP hj);have hb:=Cc1 hp;have hOl:O'.length<=1000000:=by
   rw[hO',Qke]
   have:=Pd3 x fs j
   omega
  have hroom:=Zd3 O' hOl;by_cases h48:(v7 x fs j).length<48
  ·have e1:decide (((v7 x fs j).length:Int)>=48)=false:=decide_eq_false (by omega)
   have c1:=ge7 (v7 x fs j) (U1 (gL tP fs j)) (by omega)
   have c2:=ge7 (v7 x fs j) (gL tP fs j) (by omega)
   have l1:r4 (v7 x fs j++[U1 (gL tP fs j)])=true:=decide_eq_true (by rw[Qke];simp only[List.length_singleton];omega)
   have l2:r4 (v7 x fs j++[gL tP fs j])=true:=decide_eq_true (by rw[Qke];simp only[List.length_singleton];omega)
   have m1:O6 (v7 x fs j++[U1 (gL tP fs j)])=sa5 x fs j:=rfl;have m2:O6 (v7 x fs j++[gL tP fs j])=v7 x fs (j+1):=rfl;have hnew:O++Ca6 x fs (j+1)=O'++(if 0<(sa5 x fs j).length then [sa5 x fs j] else []):=by rw[pd5,<- List.append_assoc,<- hO']
   have hnx : ∀ {s : f8}, s = ⟨phL (O ++ Ca6 x fs (j + 1)), v7 x fs (j + 1), ((j + 1 : Nat) : Int), (O ++ Ca6 x fs (j + 1)).length, bL (tLs tP) (O ++ Ca6 x fs (j + 1))⟩ →
     Nx (.next s) (λt=>(ra9 x fs=true->t=phL (O++Ca6 x fs fs.length)*2+2/\(⟨phL O',v7 x fs j,(j:Int),O'.length,bL (tLs tP) O'⟩:f8).B1=(O++Ca6 x fs fs.length).length/\(⟨phL O',v7 x fs j,(j:Int),O'.length,bL (tLs tP) O'⟩:f8).eh3=bL (tLs tP) (O++Ca6 x fs fs.length))/\(ra9 x fs=false->t=1\/t=3))
      (λs=>∃O'',s=(⟨phL O'',v7 x fs (j+1),((j+1:Nat):Int),O''.length,bL (tLs tP) O''⟩:f8)/\(j+1<=fs.length/\O''=O++Ca6 x fs (j+1)/\∀i,i<j+1->(v7 x fs i).length<48)) :=
    λ{s} hs=>.nx ⟨_,hs,hj,rfl,λi hi=>by
     by_cases e:i=j
     ·subst e;exact h48
     ·exact hr i (by omega)⟩
   by_cases hc:0<(sa5 x fs j).length
   ·have e2:decide (((sa5 x fs j).length:Int)>0)=true:=decide_eq_true (by omega)
    have e3:Nat.beq (sa5 x fs j).length 0=false:=by
     cases h:(sa5 x fs j).length with
     |zero=>omega
     |succ n=>rfl
    rw[if_pos hc] at hnew;cases O' with
    |nil =>
     have e:j7 ⟨fs,(fs.length:Int),q,fs,xs,a,c⟩ ⟨phL [],v7 x fs j,(j:Int),([]:List (List Pln)).length,bL (tLs tP) []⟩=.next ⟨1,v7 x fs (j+1),((j+1:Nat):Int),1,[[eL tP (sa5 x fs j)]]⟩:=by
      show A0 Stp.next Stp.exit Stp.fail _ _=_;simp only[A0,Int.toNat_natCast,i8,p7,Oc3 hb,c1,c2,hn,Re3,Re4,l1,l2,m1,m2,pe3,pe4,e1,e2,e3,j5,L2,Qkb,Qky];rw[btD (l0 hj),bt (d9 hj)]
     rw[e];exact hnx (by rw[hnew];rfl)
    |cons o os =>
     have e:j7 ⟨fs,(fs.length:Int),q,fs,xs,a,c⟩ ⟨phL (o::os),v7 x fs j,(j:Int),(o::os).length,bL (tLs tP) (o::os)⟩=.next ⟨1,v7 x fs (j+1),((j+1:Nat):Int),(o::os).length+1,bL (tLs tP) (o::os++[sa5 x fs j])⟩:=by
      show A1 Stp.next Stp.exit Stp.fail _ _=_;simp only[A1,Int.toNat_natCast,i8,p7,Oc3 hb,c1,c2,hn,Re3,Re4,l1,l2,m1,m2,pe3,pe4,e1,e2,e3,hroom,Ee4,j5,L2,Qkb,Qky];rw[btD (l0 hj),bt (d9 hj)]
     rw[e];exact hnx (by rw[hnew,zd9,Qke];rfl)
   ·have e2:decide (((sa5 x fs j).length:Int)>0)=false:=decide_eq_false (by omega)
    rw[if_neg hc,Qkak] at hnew;cases O' with
    |nil =>
     have e:j7 ⟨fs,(fs.length:Int),q,fs,xs,a,c⟩ ⟨phL [],v7 x fs j,(j:Int),([]:List (List Pln)).length,bL (tLs tP) []⟩=.next ⟨0,v7 x fs (j+1),((j+1:Nat):Int),0,[]⟩:=by
      show A0 Stp.next Stp.exit Stp.fail _ _=_;simp only[A0,Int.toNat_natCast,i8,p7,Oc3 hb,c1,c2,hn,Re3,Re4,l1,l2,m1,m2,pe3,pe4,e1,e2,j5,L2,Qkb,Qky];rw[btD (l0 hj),bt (d9 hj)]
     rw[e];exact hnx (by rw[hnew];rfl)
    |cons o os =>
     have e:j7 ⟨fs,(fs.length:Int),q,fs,xs,a,c⟩ ⟨phL (o::os),v7 x fs j,(j:Int),(o::os).length,bL (tLs tP) (o::os)⟩=.next ⟨1,v7 x fs (j+1),((j+1:Nat):Int),(o::os).length,bL (tLs tP) (o::os)⟩:=by
      show A1 Stp.next Stp.exit Stp.fail _ _=_;simp only[A1,Int.toNat_natCast,i8,p7,Oc3 hb,c1,c2,hn,Re3,Re4,l1,l2,m1,m2,pe3,pe4,e1,e2,j5,L2,Qkb,Qky];rw[btD (l0 hj),bt (d9 hj)]
     rw[e];exact hnx (by rw[hnew];rfl)
  ·have e1:decide (((v7 x fs j).length:Int)>=48)=true:=decide_eq_true (by omega)
   have hno:ra9 x fs=false:=by
    cases h:ra9 x fs with
    |false=>rfl
    |true =>
     have:=Qkk.1 h j (Qkj.2 hj)
     exact absurd (by simpa using this) h48
   have hex:∀{t:Nat},(t=1\/t=3)->(ra9 x fs=true->t=phL (O++Ca6 x fs fs.length)*2+2/\(⟨phL O',v7 x fs j,(j:Int),O'.length,bL (tLs tP) O'⟩:f8).B1=(O++Ca6 x fs fs.length).length/\(⟨phL O',v7 x fs j,(j:Int),O'.length,bL (tLs tP) O'⟩:f8).eh3=bL (tLs tP) (O++Ca6 x fs fs.length))/\(ra9 x fs=false->t=1\/t=3):=λh=>⟨λh'=>(by rw[hno] at h';cases h'),λ_=>h⟩
   cases O' with
   |nil =>
    have e:j7 ⟨fs,(fs.length:Int),q,fs,xs,a,c⟩ ⟨phL [],v7 x fs j,(j:Int),([]:List (List Pln)).length,bL (tLs tP) []⟩=.exit 1:=by
     show A0 Stp.next Stp.exit Stp.fail _ _=_;simp only[A0,e1,j5];rw[btD (l0 hj),bt (d9 hj)]
    rw[e];exact .ex (hex (.inl rfl))
   |cons o os =>
    have e:j7 ⟨fs,(fs.length:Int),q,fs,xs,a,c⟩ ⟨phL (o::os),v7 x fs j,(j:Int),(o::os).length,bL (tLs tP) (o::os)⟩=.exit 3:=by
     show A1 Stp.next Stp.exit Stp.fail _ _=_;simp only[A1,e1,j5];rw[btD (l0 hj),bt (d9 hj)]
    rw[e];exact .ex (hex (.inr rfl))
 ·obtain⟨h1,hO',hr⟩:=hi;have hje:j=fs.length:=by omega
  subst hje;have hyes:ra9 x fs=true:=Qkk.2 λi hi=>by simpa using hr i (Qkj.1 hi)
  refine⟨phL O'*2+2,?_,λ_=>?_,λh=>(by rw[hyes] at h;cases h)⟩
  ·cases O' with
   |nil =>
    show A0 Stp.next Stp.exit Stp.fail _ _=_;simp only[A0];rw[bfD (D7 (Qkh _))];rfl
   |cons o os =>
    show A1 Stp.next Stp.exit Stp.fail _ _=_;simp only[A1];rw[bfD (D7 (Qkh _))];rfl
  ·rw[<- hO'];exact⟨rfl,rfl,rfl⟩
theorem pe5{α β:Type}(t:Ty α)(l:List α)(f:α->List β){j:Nat}(hj:j<l.length):(l.take (j+1)).flatMap f=(l.take j).flatMap f++f (gL t l j):=by
 rw[Qkad,Qka hj,List.flatMap_append];simp[gL,Qkc,Qka hj]
theorem pe6{α:Type}(t:Ty α)(l:List α)(f:α->Bool){j:Nat}(hj:j<l.length):(l.take (j+1)).all f=((l.take j).all f&&f (gL t l j)):=by
 rw[Qkad,Qka hj,List.all_append];simp[gL,Qkc,Qka hj]
theorem Ee5{q x:List Pln}(h:(lean q).length<=48):(qa2 q x).length<=48:=by
 unfold qa2;split
 ·simp
 ·exact Qki (Pd3 _ _ _) h
theorem Pd4{q:List Pln}(h:(lean q).length<=48):∀l:List (List Pln),(l.flatMap (qa2 q)).length<=48*l.length
 |[]=>by simp
 |x::l=>by
  have:=Pd4 h l
  have:=Ee5 (x:=x) h
  simp only[List.flatMap_cons,Qke,List.length_cons];omega
structure W0(q:List Pln)(xs:List (List Pln))(t:Nat)(s:n7):Prop where
 y:xs.all (Ha4 q)=true->t=phL (xs.flatMap (qa2 q))*3+3/\s.B1=(xs.flatMap (qa2 q)).length/\s.eh3=bL (tLs tP) (xs.flatMap (qa2 q))
 n:xs.all (Ha4 q)=false->t=1\/t=2\/t=4\/t=5
theorem nbA:Nat.beq 1 2=false/\Nat.beq 1 3=false/\Nat.beq 1 4=false/\Nat.beq 1 1=true/\Nat.beq 3 1=false/\Nat.beq 3 2=false/\Nat.beq 3 3=true/\Nat.beq 4 1=false/\Nat.beq 4 2=false/\Nat.beq 4 3=false/\Nat.beq 4 4=true/\Nat.beq 2 3=false/\Nat.beq 2 4=false:=⟨rfl,rfl,rfl,rfl,rfl,rfl,rfl,rfl,rfl,rfl,rfl,rfl,rfl⟩
theorem Re6 (q : List Pln) (xs : List (List Pln)) (hq : q.length ≤ 1000000) (hxs : xs.length ≤ 10000) (hx : ∀ x ∈ xs, x.length ≤ 1000000) (hf : ∀ p ∈ lean q, okp p = true) (hfl : (lean q).length ≤ 48) :
  ∃t s,lp (u9 ⟨(xs.length:Int)⟩) ⟨0,q,lean q,xs,0,0,[]⟩=(t,s)/\W0 q xs t s:=by
 refine pa5 (step:=u9 ⟨(xs.length:Int)⟩) (mk:=λj (O':List (List Pln))=>(⟨phL O',q,lean q,xs,(j:Int),O'.length,bL (tLs tP) O'⟩:n7)) xs.length
  (λj O'=>j<=xs.length/\O'=(xs.take j).flatMap (qa2 q)/\(xs.take j).all (Ha4 q)=true) (W0 q xs) (by omega)
  (λj O' hj hi=>?_) (λj O' hj hi=>?_) 0 [] ⟨Qkn _,by simp,by simp⟩
 ·obtain⟨_,hO',hr⟩:=hi;have hn:W ((j:Int)+1)=((j+1:Nat):Int):=r8 hj (by omega)
  have hxl:=hx _ (ga4 (tLs tP) hj);have hOl:O'.length<=800000:=by
   rw[hO']
   have:=Pd4 hfl (xs.take j)
   have:=List.length_take_le j xs
   omega
  have hroom:=Zd3 O' (by omega)
  have hA:=yd0 (a:=gL (tLs tP) xs j) (c:=q) (by omega) (by omega)
  have gA:=yd1 (a:=gL (tLs tP) xs j) (c:=q) (by omega) (by omega)
  have hnew:=pe5 (tLs tP) xs (qa2 q) hj;have hall:=pe6 (tLs tP) xs (Ha4 q) hj;rw[<- hO'] at hnew;rw[hr,Qkab] at hall;have hfull:∀{v:Bool},Ha4 q (gL (tLs tP) xs j)=v->v=false->xs.all (Ha4 q)=false:=λ{v} h hv=>by
   rw[List.all_eq_false];exact⟨_,ga4 (tLs tP) hj,by rw[h,hv];decide⟩
  have hnx : Ha4 q (gL (tLs tP) xs j) = true → ∀ {s : n7}, s = ⟨phL ((xs.take (j + 1)).flatMap (qa2 q)), q, lean q, xs, ((j + 1 : Nat) : Int), ((xs.take (j + 1)).flatMap (qa2 q)).length, bL (tLs tP) ((xs.take (j + 1)).flatMap (qa2 q))⟩ →
    Nx (.next s) (λt=>W0 q xs t (⟨phL O',q,lean q,xs,(j:Int),O'.length,bL (tLs tP) O'⟩:n7))
     (λs=>∃O'',s=(⟨phL O'',q,lean q,xs,((j+1:Nat):Int),O''.length,bL (tLs tP) O''⟩:n7)/\(j+1<=xs.length/\O''=(xs.take (j+1)).flatMap (qa2 q)/\(xs.take (j+1)).all (Ha4 q)=true)) :=
   λh {s} hs=>.nx ⟨_,hs,hj,rfl,by rw[hall,h]⟩
  have hex:Ha4 q (gL (tLs tP) xs j)=false->∀{t:Nat},(t=1\/t=2\/t=4\/t=5)->W0 q xs t (⟨phL O',q,lean q,xs,(j:Int),O'.length,bL (tLs tP) O'⟩:n7):=λh {t} ht =>
   ⟨λh'=>(by rw[hfull h rfl] at h';cases h'),λ_=>ht⟩
  have hgx:inB (j:Int) xs.length=true:=d9 hj;have hlt:((j:Int)<(xs.length:Int)):=l0 hj;generalize hX:gL (tLs tP) xs j=x at *
  obtain⟨z1,z2,z3,z4,z5,z6,z7,z8,z9,zA,zB,zC,zD⟩:=nbA;cases hap:apart x q with
  |true =>
   have hp:qa2 q x=[x]:=by unfold qa2;rw[hap,if_pos rfl]
   have hro:Ha4 q x=true:=by unfold Ha4;rw[hap];rfl
   rw[hap] at hA;rw[hp] at hnew;cases O' with
   |nil =>
    have e:u9 ⟨(xs.length:Int)⟩ ⟨phL [],q,lean q,xs,(j:Int),([]:List (List Pln)).length,bL (tLs tP) []⟩=.next ⟨1,q,lean q,xs,((j+1:Nat):Int),1,[[eL tP x]]⟩:=by
     show m9 Stp.next Stp.exit Stp.fail _ _=_;simp only[m9,Int.toNat_natCast,i8,p7,hX,hA,gA,hn,hgx,j5];rw[btD hlt]
    rw[e];exact hnx hro (by rw[hnew];rfl)
   |cons o os =>
    have e:u9 ⟨(xs.length:Int)⟩ ⟨phL (o::os),q,lean q,xs,(j:Int),(o::os).length,bL (tLs tP) (o::os)⟩=.next ⟨1,q,lean q,xs,((j+1:Nat):Int),(o::os).length+1,bL (tLs tP) (o::os++[x])⟩:=by
     show r7 Stp.next Stp.exit Stp.fail _ _=_;simp only[r7,Int.toNat_natCast,i8,p7,hX,hA,gA,hn,hgx,hroom,Ee4,j5];rw[btD hlt]
    rw[e];exact hnx hro (by rw[hnew,zd9,Qke];rfl)
  |false =>
   have hp:qa2 q x=Ca6 x (lean q) (lean q).length:=by unfold qa2;rw[hap,if_neg (by decide)]
   have hro:Ha4 q x=ra9 x (lean q):=by unfold Ha4;rw[hap];rfl
   rw[hap] at hA;rw[hp] at hnew;obtain⟨t,s,hlp,hy,hno⟩:=Re5 x (lean q) q xs (xs.length:Int) (j:Int) O' hf (by omega) (by omega)
   cases hr48:ra9 x (lean q) with
   |true =>
    obtain⟨h1,h2,h3⟩:=hy hr48;rw[<- hnew] at h1 h2 h3;cases O' with
    |nil =>
     have hlp:lp (j7 ⟨lean q,((lean q).length:Int),q,lean q,xs,(xs.length:Int),(j:Int)⟩) ⟨0,x,0,0,[]⟩=(t,s):=hlp;by_cases hO:(xs.take (j+1)).flatMap (qa2 q)=[]
     ·rw[hO] at h1;have h1:t=2:=h1;subst h1;have e:u9 ⟨(xs.length:Int)⟩ ⟨phL [],q,lean q,xs,(j:Int),([]:List (List Pln)).length,bL (tLs tP) []⟩=.next ⟨0,q,lean q,xs,((j+1:Nat):Int),0,[]⟩:=by
       show m9 Stp.next Stp.exit Stp.fail _ _=_;simp only[m9,Int.toNat_natCast,i8,p7,n9,hX,hA,gA,hn,hgx,hlp,pe3,pe4,j5,L2,Qkb];rw[btD hlt]
      rw[e];exact hnx (hro.trans hr48) (by rw[hO];rfl)
     ·obtain⟨o,os,hO⟩:=Qkac hO;rw[hO] at h1 h2 h3;have h1:t=4:=h1;subst h1;have e:u9 ⟨(xs.length:Int)⟩ ⟨phL [],q,lean q,xs,(j:Int),([]:List (List Pln)).length,bL (tLs tP) []⟩=.next ⟨1,q,lean q,xs,((j+1:Nat):Int),s.B1,s.eh3⟩:=by
       show m9 Stp.next Stp.exit Stp.fail _ _=_;simp only[m9,Int.toNat_natCast,i8,p7,n9,hX,hA,gA,hn,hgx,hlp,z8,z9,zA,zB,j5,L2,Qkb];rw[btD hlt]
      rw[e];exact hnx (hro.trans hr48) (by rw[h2,h3,hO];rfl)
    |cons o os =>
     have hlp:lp (j7 ⟨lean q,((lean q).length:Int),q,lean q,xs,(xs.length:Int),(j:Int)⟩) ⟨1,x,0,(o::os).length,bL (tLs tP) (o::os)⟩=(t,s):=hlp;have h1:t=4:=by rw[h1,hnew];rfl
     subst h1;have e:u9 ⟨(xs.length:Int)⟩ ⟨phL (o::os),q,lean q,xs,(j:Int),(o::os).length,bL (tLs tP) (o::os)⟩=.next ⟨1,q,lean q,xs,((j+1:Nat):Int),s.B1,s.eh3⟩:=by
      show r7 Stp.next Stp.exit Stp.fail _ _=_;simp only[r7,Int.toNat_natCast,i8,p7,n9,hX,hA,gA,hn,hgx,hlp,z8,z9,zA,zB,j5,L2,Qkb];rw[btD hlt]
     rw[e];exact hnx (hro.trans hr48) (by rw[h2,h3,hnew];rfl)
   |false =>
    have ht:=hno hr48;cases O' with
    |nil =>
     have hlp:lp (j7 ⟨lean q,((lean q).length:Int),q,lean q,xs,(xs.length:Int),(j:Int)⟩) ⟨0,x,0,0,[]⟩=(t,s):=hlp
     rcases ht with rfl|rfl
     ·have e : u9 ⟨(xs.length : Int)⟩ ⟨phL [], q, lean q, xs, (j : Int), ([] : List (List Pln)).length, bL (tLs tP) []⟩ = .exit 1 := by
       show m9 Stp.next Stp.exit Stp.fail _ _=_;simp only[m9,Int.toNat_natCast,i8,p7,n9,hX,hA,gA,hn,hgx,hlp,z4,j5,L2,Qkb];rw[btD hlt]
      rw[e];exact .ex (hex (hro.trans hr48) (by simp))
     ·have e : u9 ⟨(xs.length : Int)⟩ ⟨phL [], q, lean q, xs, (j : Int), ([] : List (List Pln)).length, bL (tLs tP) []⟩ = .exit 2 := by
       show m9 Stp.next Stp.exit Stp.fail _ _=_;simp only[m9,Int.toNat_natCast,i8,p7,n9,hX,hA,gA,hn,hgx,hlp,z5,z6,z7,j5,L2,Qkb];rw[btD hlt]
      rw[e];exact .ex (hex (hro.trans hr48) (by simp))
    |cons o os =>
     have hlp:lp (j7 ⟨lean q,((lean q).length:Int),q,lean q,xs,(xs.length:Int),(j:Int)⟩) ⟨1,x,0,(o::os).length,bL (tLs tP) (o::os)⟩=(t,s):=hlp
     rcases ht with rfl|rfl
     ·have e : u9 ⟨(xs.length : Int)⟩ ⟨phL (o :: os), q, lean q, xs, (j : Int), (o :: os).length, bL (tLs tP) (o :: os)⟩ = .exit 4 := by
       show r7 Stp.next Stp.exit Stp.fail _ _=_;simp only[r7,Int.toNat_natCast,i8,p7,n9,hX,hA,gA,hn,hgx,hlp,z4,j5,L2,Qkb];rw[btD hlt]
      rw[e];exact .ex (hex (hro.trans hr48) (by simp))
     ·have e : u9 ⟨(xs.length : Int)⟩ ⟨phL (o :: os), q, lean q, xs, (j : Int), (o :: os).length, bL (tLs tP) (o :: os)⟩ = .exit 5 := by
       show r7 Stp.next Stp.exit Stp.fail _ _=_;simp only[r7,Int.toNat_natCast,i8,p7,n9,hX,hA,gA,hn,hgx,hlp,z5,z6,z7,j5,L2,Qkb];rw[btD hlt]
      rw[e];exact .ex (hex (hro.trans hr48) (by simp))
 ·obtain⟨h1,hO',hr⟩:=hi;have hje:j=xs.length:=by omega
  subst hje;rw[List.take_length] at hO' hr;refine⟨phL O'*3+3,?_,λ_=>?_,λh=>(by rw[hr] at h;cases h)⟩
  ·cases O' with
   |nil =>
    show m9 Stp.next Stp.exit Stp.fail _ _=_;simp only[m9];rw[bfD (D7 (Qkh _))];rfl
   |cons o os =>
    show r7 Stp.next Stp.exit Stp.fail _ _=_;simp only[r7];rw[bfD (D7 (Qkh _))];rfl
  ·rw[<- hO'];exact⟨rfl,rfl,rfl⟩
noncomputable def va2(x:List (List Pln))(y:List Pln):List (List Pln)×Int:=match E8 x y with
 |some r=>(r,0)
 |none=>([],9)
theorem Ze1{α:Type}(t:Ty α)(l:List α)(n:Int):(two (r1L t) r1I).rd (.tup [eL t l,i n],[])=some (l,n):=by
 have h:(r1L t).rd [] (eL t l)=some l:=by
  show Bool.rec (motive:=λ_=>Option (List α)) none (some (rt t l)) (Bool.and (Nat.beq t.es t.es) (okE t l))=_
  rw[i8,p7,Nat.beq_refl];rfl
 simp only[two,h];rfl
theorem sf1{α:Type}(t:Ty α)(l:List α)(n:Int):(two (r1L t) r1I).rd (.tup [.tree t.es l.length (λk=>i6 (bL t l) (0+k)),i n],[])=some (l,n):=by
 have h:(r1L t).rd [] (.tree t.es l.length (λk=>i6 (bL t l) (0+k)))=some l:=by
  show Bool.rec (motive:=λ_=>Option (List α)) none (some (lsL t l.length λk=>i6 (bL t l) (0+k))) (Bool.and (Nat.beq t.es t.es) (okL t l.length λk=>i6 (bL t l) (0+k)))=_
  rw[lc5 t (l:=l) rfl λk hk=>by rw[Qkv,ba2 t hk],Kb6 t (f:=λk=>gL t l k) λk hk=>by rw[Qkv,ba2 t hk],Nat.beq_refl]
  rfl
 simp only[two,h];rfl
theorem sf2{α:Type}(t:Ty α)(k:Nat)(l:List α)(n:Int):(two (r1L t) r1I).rd (.tup [.sl 0 0 l.length 0,i n],[⟨k,t.es,bL t l,true,false,0⟩])=some (l,n):=by
 have h:(r1L t).rd [⟨k,t.es,bL t l,true,false,0⟩] (.sl 0 0 l.length 0)=some l:=Yd4 t k l;simp only[two,h];rfl
theorem ad4(x:List (List Pln))(y:List Pln)(hy:y.length<=1000000)(hx:x.length<=10000)(hxl:∀c∈x,c.length<=1000000):Rd (two (r1L (tLs tP)) r1I) (Ba1 x y) (λr=>r=va2 x y):=by
 have hF:=nc2 (c:=y) (by omega);have gF:=nc3 (c:=y) (by omega)
 have hL:O6 y=lean y:=rfl;have gL':r4 y=true:=decide_eq_true hy;unfold Ba1 va2 E8;simp only[i8,p7,n9,hF,gF,hL,gL',j5,Qkb];cases hf:ful y with
 |false=>exact⟨_,(x,0),rfl,Ze1 (tLs tP) x 0,rfl⟩
 |true =>
  have hc:=(D9.1 hf).1;have hfl:(lean y).length<=48:=by
   have:=ac0 y
   rw[beq_iff_eq,za7] at hc;omega
  obtain⟨t,s,hlp,hw⟩:=Re6 y x hy hx hxl (λp hp=>kb1 hc p (Qkg _ (ga1 hp))) hfl
  simp only[hlp,Qkan,L2,if_true];cases hr:x.all (Ha4 y) with
  |false =>
   rcases hw.n hr with rfl|rfl|rfl|rfl<;>exact⟨_,([],9),rfl,rfl,rfl⟩
  |true =>
   obtain⟨h1,h2,h3⟩:=hw.y hr;by_cases hO:x.flatMap (qa2 y)=[]
   ·rw[hO] at h1 ⊢;have h1:t=3:=h1;subst h1;exact⟨_,([],0),rfl,rfl,rfl⟩
   ·have h1 : t = 6 := by
     obtain⟨o,os,hO⟩:=Qkac hO;rw[h1,hO];rfl
    subst h1;rw[h2,h3];by_cases h200:(x.flatMap (qa2 y)).length<=200
    ·rw[decide_eq_true h200];refine⟨_,(x.flatMap (qa2 y),0),?_,sf1 (tLs tP) _ 0,rfl⟩
     have:decide (((x.flatMap (qa2 y)).length:Int)>200)=false:=decide_eq_false (by omega)
     rw[this];rfl
    ·rw[decide_eq_false h200]
     have:decide (((x.flatMap (qa2 y)).length:Int)>200)=true:=decide_eq_true (by omega)
     rw[this];exact⟨_,([],9),rfl,rfl,rfl⟩
theorem ec7{x:List (List Pln)}{y:List Pln}(hy:y.length<=1000000)(hx:x.length<=10000)(hxl:∀c∈x,c.length<=1000000):Y0 x y=va2 x y:=(ad4 x y hy hx hxl).p
theorem pe7{x:List (List Pln)}{y:List Pln}(hy:y.length<=1000000)(hx:x.length<=10000)(hxl:∀c∈x,c.length<=1000000):Qa8 x y=true:=(ad4 x y hy hx hxl).g
noncomputable def schk(s:List (List Pln)):Int:=if (s.length:Int)>16 then 2 else match s.find? λc=>chk c != 0 with
 |some c=>chk c
 |none=>0
theorem Ad0{α:Type}(t:Ty α)(l:List α)(f:α->Bool)(h:l.any f=true):l.find? f=some (gL t l (l.findIdx f)):=by
 have hlt:l.findIdx f<l.length:=Qks.2 (Qkag.1 h);rw[List.find?_eq_some_iff_getElem];refine⟨?_,l.findIdx f,hlt,?_,λj hj=>?_⟩
 ·simp only[gL,Qkc,Qka hlt,Option.getD_some];exact List.findIdx_getElem (w:=hlt)
 ·simp[gL,Qkc,Qka hlt]
 ·have:=List.not_of_lt_findIdx hj
  simpa using this
theorem pd6(s:List (List Pln))(hs:s.length<=1000000)(hl:∀c∈s,c.length<=1000000):Pa6 s=some (i (schk s),[]):=by
 have h:=Ua7 (step:=va1 ⟨s,(s.length:Int)⟩) (mk:=λj=>(⟨(j:Int)⟩:S4)) (c:=λc=>chk c != 0) (u:=1) (fin:=2) (tLs tP) s (by omega)
  (λj hj=>by
   have hc:=hl _ (ga4 (tLs tP) hj);simp only[va1,qa3,Int.toNat_natCast,i8,p7,Nc8 _ (show (gL (tLs tP) s j).length<=1000000000 by omega),xd2 _ (show (gL (tLs tP) s j).length<=1000000000 by omega),r8 hj (show s.length<=4611686018427387904 by omega),j5]
   rw[btD (l0 hj),bt (d9 hj)])
  (by simp only[va1,qa3];rw[bfD (D7 (Qkh _))]) 0 (Qkn _)
 rw[Qkz,Qkv] at h;unfold Pa6 schk;simp only[i8,p7,n9];rw[show (⟨0⟩:S4)=⟨((0:Nat):Int)⟩ from rfl,h]
 by_cases h16:(s.length:Int)>16
 ·rw[btD h16,if_pos h16]
 ·rw[bfD h16,if_neg h16];cases ha:s.any λc=>chk c != 0 with
  |true =>
   have hlt:s.findIdx (λc=>chk c != 0)<s.length:=Qks.2 (Qkag.1 ha)
   have hc:=hl _ (ga4 (tLs tP) hlt);rw[Ad0 (tLs tP) s _ ha];simp only[Int.toNat_natCast,if_true,Nc8 _ (show (gL (tLs tP) s (s.findIdx λc=>chk c != 0)).length<=1000000000 by omega)]
   rfl
  |false =>
   rw[Qkr.2 λc hc=>by have:=Qkae.1 ha c hc;simpa using this]
   rfl
theorem ac8{s:List (List Pln)}(hs:s.length<=1000000)(hl:∀c∈s,c.length<=1000000):U4 s=schk s:=by unfold U4;rw[pd6 s hs hl];rfl
theorem ac9{s:List (List Pln)}(hs:s.length<=1000000)(hl:∀c∈s,c.length<=1000000):U5 s=true:=by unfold U5;rw[pd6 s hs hl];rfl
theorem ad5{c:List Pln}(h:chk c=0):c.length<=48:=(za7.1 h).1
theorem pd7{s:List (List Pln)}(h:schk s=0):s.length<=16/\∀c∈s,chk c=0:=by
 unfold schk at h
 split at h
 ·cases h
 ·refine⟨by omega,λc hc=>?_⟩
  cases hf:s.find? λc=>chk c != 0 with
  |none=>simpa using Qkr.1 hf c hc
  |some d =>
   rw[hf] at h
   have:=List.find?_some hf
   simp only at h
   rw[h] at this;cases this
theorem wc5{ps r:List (List Pln)}{q:List Pln}(h:E8 ps q=some r)(hp:ps.length<=200):r.length<=200:=by
 unfold E8 at h
 split at h
 ·split at h
  ·rename_i h';injection h with h;subst h;rw[Qkah] at h';exact of_decide_eq_true h'.2
  ·cases h
 ·injection h with h;subst h;exact hp
theorem Ee6(x fs:List Pln)(j:Nat)(h:(v7 x fs j).length<48):(sa5 x fs j).length<=48:=by
 unfold sa5
 have:=ac0 (v7 x fs j++[U1 (gL tP fs j)])
 rw[Qke] at this;simp only[List.length_singleton] at this;omega
theorem Hc9{ps r:List (List Pln)}{q:List Pln}(h:E8 ps q=some r)(hp:∀c∈ps,c.length<=48):∀c∈r,c.length<=48:=by
 unfold E8 at h
 split at h
 ·split at h
  ·rename_i h';injection h with h;subst h;rw[Qkah,Qkk] at h';intro c hc;obtain⟨x,hx,hc⟩:=List.mem_flatMap.1 hc;have hr:=h'.1 x hx;unfold qa2 at hc;unfold Ha4 at hr;cases ha:apart x q with
   |true=>rw[ha,if_pos rfl] at hc;rw[Qkf.1 hc];exact hp x hx
   |false =>
    rw[ha,if_neg (by decide)] at hc
    rw[ha,Bool.false_or] at hr;obtain⟨j,hj,rfl,_⟩:=wb6.1 hc
    have:=Qkk.1 hr j (Qkj.2 hj)
    exact Ee6 x _ j (by simpa using this)
  ·cases h
 ·injection h with h;subst h;exact hp
noncomputable def ab0(s:List (List Pln))(o:Option (List (List Pln))):Option (List (List Pln)):=s.foldl (λst q=>st.bind λps=>E8 ps q) o
noncomputable def Ma6(x:List Pln)(y:List (List Pln)):List (List Pln)×Int :=
 if chk x != 0 then ([],chk x) else if schk y != 0 then ([],schk y) else match la4 x y with
  |some r=>(r,0)
  |none=>([],9)
structure M0(c:List Pln)(ys:List (List Pln))(t:Nat)(s:y7):Prop where
 y:∀r,ab0 ys (some [c])=some r->(ys=[]/\t=2)\/(ys≠[]/\t=4/\s.Za1=r)
 n:ab0 ys (some [c])=none->(t=1/\∃j,s.xb7=((j:Nat):Int)/\va2 [c] (gL (tLs tP) ys j)=([],9))\/(t=3/\∃j,s.xb7=((j:Nat):Int)/\va2 s.Za1 (gL (tLs tP) ys j)=([],9)/\j<ys.length/\s.Za1.length<=200/\∀c∈s.Za1,c.length<=48)
theorem ad6(s:List (List Pln)):ab0 s none=none:=Qb9 s
theorem Zd4{ys:List (List Pln)}{j:Nat}(hj:j<ys.length)(o:Option (List (List Pln))):ab0 (ys.take (j+1)) o=(ab0 (ys.take j) o).bind λps=>E8 ps (gL (tLs tP) ys j):=by
 unfold ab0;rw[Qkad,Qka hj,Qkaf];simp[gL,Qkc,Qka hj]
theorem Pd5(ys:List (List Pln))(j:Nat)(o:Option (List (List Pln))):ab0 ys o=ab0 (ys.drop j) (ab0 (ys.take j) o):=by
 unfold ab0;rw[<- Qkaf,List.take_append_drop]
theorem Re7 (c : List Pln) (ys : List (List Pln)) (hc : c.length ≤ 48) (hn : ys.length ≤ 1000) (hy : ∀ q ∈ ys, q.length ≤ 1000000) :
  ∃t s,lp (K9 ⟨ys,(ys.length:Int),c⟩) ⟨0,0,[]⟩=(t,s)/\M0 c ys t s:=by
 refine pa5 (step:=K9 ⟨ys,(ys.length:Int),c⟩) (mk:=λj (ps:List (List Pln))=>(⟨if j=0 then 0 else 1,(j:Int),if j=0 then [] else ps⟩:y7)) ys.length
  (λj ps=>j<=ys.length/\ab0 (ys.take j) (some [c])=some ps/\ps.length<=200/\∀x∈ps,x.length<=48) (M0 c ys) (by omega)
  (λj ps hj hi=>?_) (λj ps hj hi=>?_) 0 [c] ⟨Qkn _,rfl,by simp,by simpa using hc⟩
 ·obtain⟨_,hm,hl,hle⟩:=hi;have hw1:W ((j:Int)+1)=((j+1:Nat):Int):=r8 hj (by omega)
  have hq:=hy _ (ga4 (tLs tP) hj);have hgx:inB (j:Int) ys.length=true:=d9 hj;have hmj:=Zd4 hj (some [c]);have hsp:=Pd5 ys (j+1) (some [c]);rw[hm] at hmj;have pw:=ec7 (x:=ps) hq (by omega) λx hx=>Qki (hle x hx) (by omega)
  have gw:=pe7 (x:=ps) hq (by omega) λx hx=>Qki (hle x hx) (by omega)
  have hmj:ab0 (ys.take (j+1)) (some [c])=E8 ps (gL (tLs tP) ys j):=hmj;by_cases h0:j=0
  ·subst h0;have hps:ps=[c]:=by
    have:some [c]=some ps:=hm
    injection this with this;exact this.symm
   subst hps;cases hw:E8 [c] (gL (tLs tP) ys 0) with
   |some r =>
    have hR:va2 [c] (gL (tLs tP) ys 0)=(r,0):=by unfold va2;rw[hw]
    rw[hR] at pw;have e:K9 ⟨ys,(ys.length:Int),c⟩ ⟨0,((0:Nat):Int),[]⟩=.next ⟨1,((0+1:Nat):Int),r⟩:=by
     show M5 Stp.next Stp.exit Stp.fail _ _=_;simp only[M5,Int.toNat_natCast,i8,p7,pw,gw,hw1,hgx,j5,Qkb];rw[btD (l0 hj)];rfl
    show Nx (K9 ⟨ys,(ys.length:Int),c⟩ ⟨0,((0:Nat):Int),[]⟩) _ _;rw[e];exact .nx ⟨r,rfl,hj,hmj.trans hw,wc5 hw (by simp),Hc9 hw (by simpa using hc)⟩
   |none =>
    have hR:va2 [c] (gL (tLs tP) ys 0)=([],9):=by unfold va2;rw[hw]
    rw[hR] at pw;have e:K9 ⟨ys,(ys.length:Int),c⟩ ⟨0,((0:Nat):Int),[]⟩=.exit 1:=by
     show M5 Stp.next Stp.exit Stp.fail _ _=_;simp only[M5,Int.toNat_natCast,i8,p7,pw,gw,hw1,hgx,j5,Qkb];rw[btD (l0 hj)];rfl
    show Nx (K9 ⟨ys,(ys.length:Int),c⟩ ⟨0,((0:Nat):Int),[]⟩) _ _;rw[e];rw[hmj,hw,ad6] at hsp;exact .ex ⟨λr hr=>(by rw[hsp] at hr;cases hr),λ_=>.inl ⟨rfl,0,rfl,hR⟩⟩
  ·have em:(⟨if j=0 then 0 else 1,(j:Int),if j=0 then [] else ps⟩:y7)=⟨1,(j:Int),ps⟩:=by rw[if_neg h0,if_neg h0]
   rw[em];cases hw:E8 ps (gL (tLs tP) ys j) with
   |some r =>
    have hR:va2 ps (gL (tLs tP) ys j)=(r,0):=by unfold va2;rw[hw]
    rw[hR] at pw;have e:K9 ⟨ys,(ys.length:Int),c⟩ ⟨1,(j:Int),ps⟩=.next ⟨1,((j+1:Nat):Int),r⟩:=by
     show M6 Stp.next Stp.exit Stp.fail _ _=_;simp only[M6,Int.toNat_natCast,i8,p7,pw,gw,hw1,hgx,j5,Qkb];rw[btD (l0 hj)];rfl
    rw[e];exact .nx ⟨r,by rw[if_neg (by omega),if_neg (by omega)],hj,hmj.trans hw,wc5 hw hl,Hc9 hw hle⟩
   |none =>
    have hR:va2 ps (gL (tLs tP) ys j)=([],9):=by unfold va2;rw[hw]
    rw[hR] at pw;have e:K9 ⟨ys,(ys.length:Int),c⟩ ⟨1,(j:Int),ps⟩=.exit 3:=by
     show M6 Stp.next Stp.exit Stp.fail _ _=_;simp only[M6,Int.toNat_natCast,i8,p7,pw,gw,hw1,hgx,j5,Qkb];rw[btD (l0 hj)];rfl
    rw[e];rw[hmj,hw,ad6] at hsp;exact .ex ⟨λr hr=>(by rw[hsp] at hr;cases hr),λ_=>.inr ⟨rfl,j,rfl,hR,hj,hl,hle⟩⟩
 ·obtain⟨h1,hm,hl,hle⟩:=hi;have hje:j=ys.length:=by omega
  subst hje;rw[List.take_length] at hm;by_cases h0:ys.length=0
  ·have hnil:ys=[]:=Qkaj.1 h0;subst hnil;refine⟨2,?_,λr hr=>.inl ⟨rfl,rfl⟩,λh=>(by rw[hm] at h;cases h)⟩
   show M5 Stp.next Stp.exit Stp.fail ⟨[],((([]:List (List Pln)).length:Nat):Int),c⟩ ⟨0,((([]:List (List Pln)).length:Nat):Int),[]⟩=_;simp only[M5];rfl
  ·have em:(⟨if ys.length=0 then 0 else 1,(ys.length:Int),if ys.length=0 then [] else ps⟩:y7)=⟨1,(ys.length:Int),ps⟩:=by rw[if_neg h0,if_neg h0]
   rw[em];refine⟨4,?_,λr hr=>.inr ⟨λe=>h0 (by rw[e];rfl),rfl,?_⟩,λh=>(by rw[hm] at h;cases h)⟩
   ·show M6 Stp.next Stp.exit Stp.fail _ _=_;simp only[M6];rw[bfD (D7 (Qkh _))]
   ·rw[hm] at hr;injection hr
theorem pd8{c:List Pln}(h:ful c=false):∀s:List (List Pln),la4 c s=some []:=by
 intro s;unfold la4;rw[h,if_neg (by decide)]
 induction s with
 |nil=>rfl
 |cons q s ih =>
  have:E8 [] q=some []:=by unfold E8;split<;>rfl
  show s.foldl _ (E8 [] q)=_;rw[this];exact ih
theorem Pd6(x:List Pln)(y:List (List Pln))(hx:x.length<=1000000)(hn:y.length<=1000000)(hy:∀q∈y,q.length<=1000000):Rd (two (r1L (tLs tP)) r1I) (Pa7 x y) (λr=>r=Ma6 x y):=by
 have hC:=Nc8 x (show x.length<=1000000000 by omega);have gC:=xd2 x (show x.length<=1000000000 by omega)
 have hS:=ac8 hn hy;have gS:=ac9 hn hy;have hF:=nc2 (c:=x) (by omega);have gF:=nc3 (c:=x) (by omega)
 have hL:O6 x=lean x:=rfl;have gL':r4 x=true:=decide_eq_true hx;unfold Pa7 Ma6;simp only[i8,p7,n9,hC,gC,hS,gS,hF,gF,hL,gL',j5,Qkb];cases hc:chk x != 0 with
 |true=>exact⟨_,([],chk x),rfl,rfl,rfl⟩
 |false =>
  cases hs:schk y != 0 with
  |true=>exact⟨_,([],schk y),rfl,rfl,rfl⟩
  |false =>
   have hc0:chk x=0:=by simpa using hc
   have hs0:=pd7 (show schk y=0 by simpa using hs)
   simp only[L2,Qkm,if_false];cases hf:ful x with
   |false =>
    rw[pd8 hf];exact⟨_,([],0),rfl,rfl,rfl⟩
   |true =>
    simp only[Qkan,L2];have hm:la4 x y=ab0 y (some [lean x]):=by unfold la4 ab0;rw[hf];rfl
    have hll:(lean x).length<=48:=Qki (ac0 x) (ad5 hc0);obtain⟨t,s,hlp,hM⟩:=Re7 (lean x) y hll (by omega) hy
    rw[hlp,hm];cases hr:ab0 y (some [lean x]) with
    |some r =>
     rcases hM.y r hr with⟨rfl,rfl⟩|⟨_,rfl,rfl⟩
     ·have : r = [lean x] := by
       have:some [lean x]=some r:=hr
       injection this with this;exact this.symm
      subst this;exact⟨_,([lean x],0),rfl,sf2 (tLs tP) 24 [lean x] 0,rfl⟩
     ·exact⟨_,(s.Za1,0),rfl,Ze1 (tLs tP) _ 0,rfl⟩
    |none =>
     rcases hM.n hr with⟨rfl,j,h1,h2⟩|⟨rfl,j,h1,h2,hj,h4,h5⟩
     ·by_cases hj:j<y.length
      ·have pw:=ec7 (x:=[lean x]) (hy _ (ga4 (tLs tP) hj)) (by simp) (by simpa using Qki hll (by omega))
       rw[h2] at pw;simp only[h1,Int.toNat_natCast,pw];exact⟨_,([],9),rfl,rfl,rfl⟩
      ·have hd:gL (tLs tP) y j=[]:=by simp[gL,Qkc,List.getElem?_eq_none (show y.length<=j by omega)];rfl
       have pw:=ec7 (x:=[lean x]) (y:=gL (tLs tP) y j) (by rw[hd];simp) (by simp) (by simpa using Qki hll (by omega))
       rw[h2] at pw;simp only[h1,Int.toNat_natCast,pw];exact⟨_,([],9),rfl,rfl,rfl⟩
     ·have pw:=ec7 (x:=s.Za1) (hy _ (ga4 (tLs tP) hj)) (by omega) λc hc=>Qki (h5 c hc) (by omega)
      rw[h2] at pw;simp only[h1,Int.toNat_natCast,pw];exact⟨_,([],9),rfl,rfl,rfl⟩
theorem Ad1{x:List Pln}{y:List (List Pln)}(hx:x.length<=1000000)(hn:y.length<=1000000)(hy:∀q∈y,q.length<=1000000):Ba8 x y=Ma6 x y:=(Pd6 x y hx hn hy).p
theorem Ad2{x:List Pln}{y:List (List Pln)}(hx:x.length<=1000000)(hn:y.length<=1000000)(hy:∀q∈y,q.length<=1000000):sa0 x y=true:=(Pd6 x y hx hn hy).g
noncomputable def y8(x:List (List Pln))(y:List Pln):Bool×Int:=((Ma6 y x).2==0&&((Ma6 y x).1.length:Int)==0,(Ma6 y x).2)
theorem pd9(x:List (List Pln))(y:List Pln)(hy:y.length<=1000000)(hn:x.length<=1000000)(hx:∀q∈x,q.length<=1000000):Ha5 x y=some (.tup [b (y8 x y).1,i (y8 x y).2],[]):=by
 unfold Ha5 y8;simp only[i8,p7,Ad1 hy hn hx,Ad2 hy hn hx,j5];cases (Ma6 y x).2==0<;>rfl
theorem wc6{x:List (List Pln)}{y:List Pln}(hy:y.length<=1000000)(hn:x.length<=1000000)(hx:∀q∈x,q.length<=1000000):da7 x y=y8 x y:=by unfold da7;rw[pd9 x y hy hn hx];rfl
theorem Pd7{x:List (List Pln)}{y:List Pln}(hy:y.length<=1000000)(hn:x.length<=1000000)(hx:∀q∈x,q.length<=1000000):Ha6 x y=true:=by unfold Ha6;rw[pd9 x y hy hn hx];rfl
structure Qa9 where
 (b9 b8:List Pln)
noncomputable def Ec0:List (Nat×Sum):=[(56,pb0)]
theorem wc7:g9 prog G Ec0:=⟨Eb9,trivial⟩
structure Ra0 where
 alt:Nat
 bs0:Bool
noncomputable def oa0{α:Type}(kk:Ra0->α)(x:Qa9):α:=let t1:=(wa9 (rt tP x.b8) (rt tP x.b9));(sl (okE tP x.b8) (sl (okE tP x.b9) (sl (xa0 (rt tP x.b8) (rt tP x.b9)) (kk ⟨1,!t1⟩) (kk ⟨0,false⟩)) (kk ⟨0,false⟩)) (kk ⟨0,false⟩))
noncomputable def Ra1(x:Qa9):Ra0:=oa0 (λr=>r) x
noncomputable def cb8(x:Qa9)(r:Ra0):DT (a7×List a8):=(.ite (Nat.beq r.alt 1) (.ret (b r.bs0,[⟨0,1,[[eL tP x.b8]],true,false,0⟩])) .fail)
theorem Lc4{α β:Type}(F:α->β)(kk:Ra0->α)(x:Qa9):F (oa0 kk x)=oa0 (λr=>F (kk r)) x:=by unfold oa0;(repeat' apply l5 (f:=F))<;>rfl
noncomputable def Rb2:Sum:=Ta1 ⟨[sLq tP,sPq 0],[⟨0,1,true,some [[.c 4 (nL tP)]]⟩],λa H=>(⟨aLq tP a 0,hLq tP H 0 0 0⟩,())⟩ (λx=>cb8 x (Ra1 x))
theorem Ec1:e7 prog G 104 Rb2:=L3 (enc:=λx=>⟨[eL tP x.b9,.ptr 0 0 0 0],[⟨0,1,[[eL tP x.b8]],true,false,0⟩]⟩) (λa H=>by kernel_rfl) (bd vf9 wc7) λx=>A7 (Eq.trans (b:=oa0 (λr=>(cb8 x r).run) x) (by kernel_rfl) (Lc4 (λr=>(cb8 x r).run) (λr=>r) x).symm)
structure X0 where
 U2:List (List Pln)
 b8:List Pln
noncomputable def Da2:List (Nat×Sum):=[(104,Rb2)]
theorem mb8:g9 prog G Da2:=⟨Ec1,trivial⟩
structure K2 where
 U2:List (List Pln)
 is7:Int
structure o0 where
 is8:Int
 b8:List Pln
noncomputable def va9(p:K2)(s:o0):St:=⟨eL (tLs tP) p.U2::.fn 104 [.ptr 0 0 0 0]::ra 5 (i p.is7::i s.is8::ra 10 []),[⟨0,1,[[eL tP s.b8]],true,false,0⟩]⟩
noncomputable def G2{α:Type}(k:o0->α)(e:Nat->α)(z:α)(p:K2)(s:o0):α:=let t1:=(Ra1 ⟨rt tP (gL (tLs tP) p.U2 s.is8.toNat),rt tP s.b8⟩);(sl (decide (s.is8<p.is7)) (sl (inB s.is8 (List.length p.U2)) (sl ((cnE tP (gL (tLs tP) p.U2 s.is8.toNat))&&((cnE tP s.b8)&&true)) (sl (Nat.beq t1.alt 1) (sl t1.bs0 (e 1) (k ⟨W (s.is8+1),rt tP s.b8⟩)) z) z) z) (e 2))
noncomputable def H8(p:K2)(s:o0):Stp o0:=G2 .next .exit .fail p s
noncomputable def fa5:Lo K2 o0:=⟨En Da2,1,ye5,[1,0,1,4,4],[0,1,7,8],.p,[⟨.s (.c 1 (nL (tLs tP)))::.fn 104 [.o (.ptr 0 0 0 0)]::ru2 5 (sIq::sIq::ru2 10 []),[⟨0,1,true,some [[.c 4 (nL tP)]]⟩],λa H=>(⟨rL (tLs tP) (slT a 0),aIq a 7⟩,⟨aIq a 8,hLq tP H 0 0 0⟩)⟩],H8,[(none,λp s=>⟨[i s.is8],[⟨0,1,[[eL tP (rt tP s.b8)]],true,false,0⟩]⟩),(some 0,λp s=>upq (va9 p s) [(9,b (decide (s.is8<p.is7)))])],va9⟩
theorem jb0:fa5.Ok:=Lo.ok [] (by kernel_rfl) .nil rfl (.cons (λa H=>by kernel_rfl) .nil) λp s=>(.of @G2 (λF _ _ _ _ _=>by unfold G2;(repeat' apply l5 (f:=F))<;>rfl) (by kernel_rfl))
structure X1 where
 alt:Nat
 is0:Int
 b8:List Pln
noncomputable def G3{α:Type}(kk:X1->α)(x:X0):α:=let t1:=(lp (H8 (⟨rt (tLs tP) x.U2,(↑(List.length x.U2):Int)⟩:K2)) (⟨0,rt tP x.b8⟩:o0));(sl ((cnE (tLs tP) x.U2)&&((cnE tP x.b8)&&true)) (sl (Nat.beq t1.1 1) (kk ⟨1,t1.2.is8,rt tP t1.2.b8⟩) (sl (Nat.beq t1.1 2) (kk ⟨1,-1,t1.2.b8⟩) (kk ⟨0,0,[]⟩))) (kk ⟨0,0,[]⟩))
noncomputable def X2(x:X0):X1:=G3 (λr=>r) x
noncomputable def ia4(x:X0)(r:X1):DT (a7×List a8):=(.ite (Nat.beq r.alt 1) (.ret (i r.is0,[⟨0,1,[[eL tP r.b8]],true,false,0⟩])) .fail)
theorem xb0{α β:Type}(F:α->β)(kk:X1->α)(x:X0):F (G3 kk x)=G3 (λr=>F (kk r)) x:=by unfold G3;(repeat' apply l5 (f:=F))<;>rfl
noncomputable def Ha7:Sum:=Ta1 ⟨[.s (.c 1 (nL (tLs tP))),.fn 104 [.o (.ptr 0 0 0 0)]],[⟨0,1,true,some [[.c 4 (nL tP)]]⟩],λa H=>(⟨rL (tLs tP) (slT a 0),hLq tP H 0 0 0⟩,())⟩ (λx=>ia4 x (X2 x))
theorem pb7:e7 prog G 161 Ha7:=L3 (enc:=λx=>⟨[eL (tLs tP) x.U2,.fn 104 [.ptr 0 0 0 0]],[⟨0,1,[[eL tP x.b8]],true,false,0⟩]⟩) (λa H=>by kernel_rfl) (bd pf9 mb8) λx=>Da7 (.s .p (.s (.s .p (.b (.u fa5.ls))) .p)) [fa5.pr] (by kernel_rfl) (.cons jb0 .nil) (Eq.trans (b:=G3 (λr=>(ia4 x r).run) x) (by kernel_rfl) (xb0 (λr=>(ia4 x r).run) (λr=>r) x).symm)
structure P8 where
 U2:List (List Pln)
 b8:List Pln
noncomputable def cb9:List (Nat×Sum):=[(161,Ha7)]
theorem Za5:g9 prog G cb9:=⟨pb7,trivial⟩
structure P9 where
 alt:Nat
 bs0:Bool
 b8:List Pln
noncomputable def B4{α:Type}(kk:P9->α)(x:P8):α:=let t1:=(X2 ⟨rt (tLs tP) x.U2,rt tP x.b8⟩);(sl ((cnE (tLs tP) x.U2)&&((cnE tP x.b8)&&true)) (sl (Nat.beq t1.alt 1) (kk ⟨1,decide (t1.is0>=0),t1.b8⟩) (kk ⟨0,false,[]⟩)) (kk ⟨0,false,[]⟩))
noncomputable def da8(x:P8):P9:=B4 (λr=>r) x
noncomputable def ba4(x:P8)(r:P9):DT (a7×List a8):=(.ite (Nat.beq r.alt 1) (.ret (b r.bs0,[⟨0,1,[[eL tP r.b8]],true,false,0⟩])) .fail)
theorem jb1{α β:Type}(F:α->β)(kk:P9->α)(x:P8):F (B4 kk x)=B4 (λr=>F (kk r)) x:=by unfold B4;(repeat' apply l5 (f:=F))<;>rfl
noncomputable def wa0:Sum:=Ta1 ⟨[.s (.c 1 (nL (tLs tP))),.fn 104 [.o (.ptr 0 0 0 0)]],[⟨0,1,true,some [[.c 4 (nL tP)]]⟩],λa H=>(⟨rL (tLs tP) (slT a 0),hLq tP H 0 0 0⟩,())⟩ (λx=>ba4 x (da8 x))
theorem db0:e7 prog G 103 wa0:=L3 (enc:=λx=>⟨[eL (tLs tP) x.U2,.fn 104 [.ptr 0 0 0 0]],[⟨0,1,[[eL tP x.b8]],true,false,0⟩]⟩) (λa H=>by kernel_rfl) (bd pf1 Za5) λx=>A7 (Eq.trans (b:=B4 (λr=>(ba4 x r).run) x) (by kernel_rfl) (jb1 (λr=>(ba4 x r).run) (λr=>r) x).symm)
noncomputable def ad7:List (Nat×Sum):=[(103,wa0)]
theorem Lc5:g9 prog G ad7:=⟨db0,trivial⟩
noncomputable def Pa8(x:List Pln)(y:List (List Pln)):Option (a7×List a8):=let t1:=(da8 ⟨rt (tLs tP) y,rt tP x⟩);(sl ((cnE (tLs tP) y)&&((cnE tP x)&&true)) (sl (Nat.beq t1.alt 1) (some (b (!t1.bs0),[])) none) none)
noncomputable def sa1(x:List Pln)(y:List (List Pln)):Bool:=Q5 (one r1B) (Pa8 x y)
noncomputable def sa2(x:List Pln)(y:List (List Pln)):Bool:=okO (one r1B) (Pa8 x y)
noncomputable def Fb3:Sum:=ta3 (ba7 tP) (ba7 (tLs tP)) (λx y=>.guard (sa2 x y) (.ret ((one r1B).enc (sa1 x y),[])))
theorem bc0:e7 prog G 45 Fb3:=Gb0 (bd b45 Lc5) (one r1B) (o:=Pa8) λx y=>A7 (by kernel_rfl)
noncomputable def jc5:List (Nat×Sum):=[(49,eb9),(42,wb9)]
theorem ad8:g9 prog G jc5:=⟨wb7,Rb1,trivial⟩
structure va3 where
 (qd6 qd7 qd8 qd9:List (List Pln))
 tf0:Int
 Za2:List (List Pln)
 He2:Int
 (cd5 Ra9:List (List Pln))
structure X3 where
 bs9:Bool
 (qa5 bc7:Int)
noncomputable def Rb3(p:va3)(s:X3):St:=⟨ra 9 (b s.bs9::i s.qa5::.unk::.ptr 0 0 0 0::ra 20 (.agg [eL (tLs tP) p.qd6,eL (tLs tP) p.qd7,eL (tLs tP) p.qd8,eL (tLs tP) p.qd9]::i p.tf0::ra 3 (eL (tLs tP) p.Za2::i p.He2::i s.bc7::ra 16 []))),[⟨0,2,[[eL (tLs tP) p.cd5,eL (tLs tP) p.Ra9]],true,false,0⟩]⟩
noncomputable def va4{α:Type}(k:X3->α)(e:Nat->α)(z:α)(p:va3)(s:X3):α:=let t1:=(da7 (rt (tLs tP) p.Ra9) (rt tP (gL (tLs tP) p.Za2 s.bc7.toNat)));(sl (decide (s.bc7<p.He2)) (sl (inB s.bc7 (List.length p.Za2)) (sl (okE (tLs tP) p.Ra9) (sl (okE tP (gL (tLs tP) p.Za2 s.bc7.toNat)) (sl (Ha6 (rt (tLs tP) p.Ra9) (rt tP (gL (tLs tP) p.Za2 s.bc7.toNat))) (sl (!t1.1) (e 1) (k ⟨t1.1,t1.2,W (s.bc7+1)⟩)) z) z) z) z) (e 2))
noncomputable def fa6(p:va3)(s:X3):Stp X3:=va4 .next .exit .fail p s
noncomputable def xb1:Lo va3 X3:=⟨En jc5,0,lf2,[1,1,1,1,0,1,4,4,1,1,0,4,1,1,4,4],[9,10,12,33,34,38,39,40],.p,[⟨ru2 9 (sBq::sIq::sUq::sPq 0::ru2 20 (.agg [.c 1 (nL (tLs tP)),.c 1 (nL (tLs tP)),.c 1 (nL (tLs tP)),.c 1 (nL (tLs tP))]::sIq::ru2 3 (.s (.c 1 (nL (tLs tP)))::sIq::sIq::ru2 16 []))),[⟨0,2,true,some [[.c 1 (nL (tLs tP)),.c 1 (nL (tLs tP))]]⟩],λa H=>(⟨rL (tLs tP) (slT (cellsOf (slT a 33)) 0),rL (tLs tP) (slT (cellsOf (slT a 33)) 1),rL (tLs tP) (slT (cellsOf (slT a 33)) 2),rL (tLs tP) (slT (cellsOf (slT a 33)) 3),aIq a 34,rL (tLs tP) (slT a 38),aIq a 39,rL (tLs tP) (slT (rwT (elT H 0) 0) 0),rL (tLs tP) (slT (rwT (elT H 0) 0) 1)⟩,⟨aBq a 9,aIq a 10,aIq a 40⟩)⟩],fa6,[(some 2,λp s=>let t1:=(da7 (rt (tLs tP) p.Ra9) (rt tP (gL (tLs tP) p.Za2 s.bc7.toNat)));⟨ra 9 (b t1.1::i t1.2::.unk::.ptr 0 0 0 0::.unk::eL tP (gL (tLs tP) p.Za2 s.bc7.toNat)::ra 18 (.agg [eL (tLs tP) p.qd6,eL (tLs tP) p.qd7,eL (tLs tP) p.qd8,eL (tLs tP) p.qd9]::i p.tf0::ra 3 (eL (tLs tP) p.Za2::i p.He2::i s.bc7::b (decide (s.bc7<p.He2))::.tptr [eL tP (gL (tLs tP) p.Za2 s.bc7.toNat)]::eL tP (gL (tLs tP) p.Za2 s.bc7.toNat)::.tup [b t1.1,i t1.2]::.ptr 0 0 1 0::eL (tLs tP) p.Ra9::eL tP (gL (tLs tP) p.Za2 s.bc7.toNat)::.tup [b t1.1,i t1.2]::b t1.1::i t1.2::b t1.1::b (!t1.1)::ra 4 []))),[⟨0,2,[[eL (tLs tP) p.cd5,eL (tLs tP) p.Ra9]],true,false,0⟩]⟩),(some 4,λp s=>upq (Rb3 p s) [(41,b (decide (s.bc7<p.He2)))])],Rb3⟩
theorem Lc6:xb1.Ok:=Lo.ok [] (by kernel_rfl) .nil rfl (.cons (λa H=>by kernel_rfl) .nil) λp s=>(.of @va4 (λF _ _ _ _ _=>by unfold va4;(repeat' apply l5 (f:=F))<;>rfl) (by kernel_rfl))
noncomputable def Ya3(x:List (List Pln))(y:List (List Pln)):Option (a7×List a8):=let t1:=(U4 (rt (tLs tP) x));let t2:=(U4 (rt (tLs tP) y));let t3:=(lp (fa6 (⟨rt (tLs tP) x,rt (tLs tP) y,rt (tLs tP) y,rt (tLs tP) x,0,rt (tLs tP) x,(↑(List.length x):Int),rt (tLs tP) x,rt (tLs tP) y⟩:va3)) (⟨true,0,0⟩:X3));let t4:=(da7 (rt (tLs tP) (rt (tLs tP) y)) (rt tP (gL (tLs tP) (rt (tLs tP) x) t3.2.bc7.toNat)));let t5:=(lp (fa6 (⟨rt (tLs tP) (rt (tLs tP) x),rt (tLs tP) (rt (tLs tP) y),rt (tLs tP) (rt (tLs tP) y),rt (tLs tP) (rt (tLs tP) x),1,rt (tLs tP) (rt (tLs tP) y),(↑(List.length (rt (tLs tP) y)):Int),rt (tLs tP) (rt (tLs tP) y),rt (tLs tP) (rt (tLs tP) x)⟩:va3)) (⟨t3.2.bs9,t3.2.qa5,0⟩:X3));let t6:=(da7 (rt (tLs tP) (rt (tLs tP) (rt (tLs tP) x))) (rt tP (gL (tLs tP) (rt (tLs tP) (rt (tLs tP) y)) t5.2.bc7.toNat)));(sl (okE (tLs tP) x) (sl (U5 (rt (tLs tP) x)) (sl (t1 != 0) (some (.tup [b false,i t1],[])) (sl (okE (tLs tP) y) (sl (U5 (rt (tLs tP) y)) (sl (t2 != 0) (some (.tup [b false,i t2],[])) (sl ((cnE (tLs tP) x)&&((cnE (tLs tP) y)&&((cnE (tLs tP) y)&&((cnE (tLs tP) x)&&((cnE (tLs tP) x)&&((cnE (tLs tP) x)&&((cnE (tLs tP) y)&&true))))))) (sl (Nat.beq t3.1 1) (some (.tup [b t4.1,i t4.2],[])) (sl (Nat.beq t3.1 2) (sl ((cnE (tLs tP) (rt (tLs tP) x))&&((cnE (tLs tP) (rt (tLs tP) y))&&((cnE (tLs tP) (rt (tLs tP) y))&&((cnE (tLs tP) (rt (tLs tP) x))&&((cnE (tLs tP) (rt (tLs tP) y))&&((cnE (tLs tP) (rt (tLs tP) y))&&((cnE (tLs tP) (rt (tLs tP) x))&&true))))))) (sl (Nat.beq t5.1 1) (some (.tup [b t6.1,i t6.2],[])) (sl (Nat.beq t5.1 2) (some (.tup [b t5.2.bs9,i t5.2.qa5],[])) none)) none) none)) none)) none) none)) none) none)
noncomputable def pb8(x:List (List Pln))(y:List (List Pln)):Bool×Int:=Q5 (two r1B r1I) (Ya3 x y)
noncomputable def pb9(x:List (List Pln))(y:List (List Pln)):Bool:=okO (two r1B r1I) (Ya3 x y)
noncomputable def wc8:Sum:=ta3 (ba7 (tLs tP)) (ba7 (tLs tP)) (λx y=>.guard (pb9 x y) (.ret ((two r1B r1I).enc (pb8 x y),[])))
theorem id7:e7 prog G 47 wc8:=Gb0 (bd b47 ad8) (two r1B r1I) (o:=Ya3) λx y=>Da7 (.s .p (.s .p (.s .p (.s .p (.s (.s .p (.b (.l (.s .p (.s .p (.s (.b (.s .p (.s .p (.b (.u xb1.ls))))) .p)))))) .p))))) [xb1.pr] (by kernel_rfl) (.cons Lc6 .nil) (by kernel_rfl)
noncomputable def Ya4(c:List Pln)(s:List (List Pln)):Bool:=!s.any λq=>!apart c q
theorem pe8{c q:List Pln}(hc:c.length<=1000000)(hq:q.length<=1000000):Ra1 ⟨q,c⟩=⟨1,!apart c q⟩:=by
 unfold Ra1 oa0;simp only[i8,p7,yd0 (a:=c) (c:=q) (by omega) (by omega),yd1 (a:=c) (c:=q) (by omega) (by omega),j5]
theorem qd0(c:List Pln)(s:List (List Pln))(hc:c.length<=1000000)(hs:s.length<=1000000)(hl:∀q∈s,q.length<=1000000):Pa8 c s=some (b (Ya4 c s),[]):=by
 have h:=Ua7 (step:=H8 ⟨s,(s.length:Int)⟩) (mk:=λj=>(⟨(j:Int),c⟩:o0)) (c:=λq=>!apart c q) (u:=1) (fin:=2) (tLs tP) s (by omega)
  (λj hj=>by
   have hq:=hl _ (ga4 (tLs tP) hj);simp only[H8,G2,Int.toNat_natCast,i8,n9,pe8 hc hq,r8 hj (show s.length<=4611686018427387904 by omega),j5,Qkb]
   rw[btD (l0 hj),bt (d9 hj)]
   rfl)
  (by simp only[H8,G2];rw[bfD (D7 (Qkh _))]) 0 (Qkn _)
 rw[Qkz,Qkv] at h;have hI:X2 ⟨s,c⟩=⟨1,if s.any (λq=>!apart c q) then ((s.findIdx (λq=>!apart c q):Nat):Int) else -1,c⟩:=by
  unfold X2 G3;simp only[i8,n9];rw[show (⟨0,c⟩:o0)=⟨((0:Nat):Int),c⟩ from rfl,h]
  cases s.any (λq=>!apart c q)<;>rfl
 unfold Pa8 Ya4 da8 B4;simp only[i8,n9,hI];cases hA:s.any (λq=>!apart c q) with
 |true =>
  simp only[if_true]
  have:decide (((s.findIdx (λq=>!apart c q):Nat):Int)>=0)=true:=decide_eq_true (by omega)
  rw[this];rfl
 |false=>rfl
theorem Pd8{c:List Pln}{s:List (List Pln)}(hc:c.length<=1000000)(hs:s.length<=1000000)(hl:∀q∈s,q.length<=1000000):sa1 c s=Ya4 c s:=by unfold sa1;rw[qd0 c s hc hs hl];rfl
theorem Pd9{c:List Pln}{s:List (List Pln)}(hc:c.length<=1000000)(hs:s.length<=1000000)(hl:∀q∈s,q.length<=1000000):sa2 c s=true:=by unfold sa2;rw[qd0 c s hc hs hl];rfl
noncomputable def inR(s t:List (List Pln)):Bool×Int:=match s.find? λc=>!(y8 t c).1 with
 |some c=>y8 t c
 |none=>(true,0)
noncomputable def nb4(x y:List (List Pln)):Bool×Int:=if schk x != 0 then (false,schk x) else if schk y != 0 then (false,schk y) else if (inR x y).1 then inR y x else inR x y
theorem Ad3{x:List (List Pln)}{y:List Pln}(h:(y8 x y).1=true):(y8 x y).2=0:=by
 unfold y8 at *
 rw[Qkah] at h;exact beq_iff_eq.1 h.1
theorem qd1 (a0 a1 a2 a3 : List (List Pln)) (n34 : Int) (s t u : List (List Pln)) (hs : s.length ≤ 1000000) (hl : ∀ q ∈ s, q.length ≤ 1000000) (ht : t.length ≤ 1000000) (htl : ∀ q ∈ t, q.length ≤ 1000000) :
  lp (fa6 ⟨a0,a1,a2,a3,n34,s,(s.length:Int),u,t⟩) ⟨true,0,0⟩=if s.any (λc=>!(y8 t c).1) then (1,⟨true,0,((s.findIdx (λc=>!(y8 t c).1):Nat):Int)⟩) else (2,⟨true,0,(s.length:Int)⟩):=by
 have h:=Ua7 (step:=fa6 ⟨a0,a1,a2,a3,n34,s,(s.length:Int),u,t⟩) (mk:=λj=>(⟨true,0,(j:Int)⟩:X3)) (c:=λc=>!(y8 t c).1) (u:=1) (fin:=2) (tLs tP) s (by omega)
  (λj hj=>by
   have hq:=hl _ (ga4 (tLs tP) hj);simp only[fa6,va4,Int.toNat_natCast,i8,p7,wc6 hq ht htl,Pd7 hq ht htl,r8 hj (show s.length<=4611686018427387904 by omega),j5]
   rw[btD (l0 hj),bt (d9 hj)];cases hc:(y8 t (gL (tLs tP) s j)).1 with
   |false=>rfl
   |true=>rw[Ad3 hc])
  (by simp only[fa6,va4];rw[bfD (D7 (Qkh _))]) 0 (Qkn _)
 rw[Qkz,Qkv] at h;exact h
theorem ge8{s t:List (List Pln)}(h:s.any (λc=>!(y8 t c).1)=true):inR s t=y8 t (gL (tLs tP) s (s.findIdx λc=>!(y8 t c).1))/\(inR s t).1=false/\gL (tLs tP) s (s.findIdx λc=>!(y8 t c).1)∈s:=by
 have hlt:s.findIdx (λc=>!(y8 t c).1)<s.length:=Qks.2 (Qkag.1 h)
 have e:inR s t=y8 t (gL (tLs tP) s (s.findIdx λc=>!(y8 t c).1)):=by unfold inR;rw[Ad0 (tLs tP) s _ h]
 have:=List.find?_some (Ad0 (tLs tP) s _ h)
 exact⟨e,by rw[e];simpa using this,ga4 (tLs tP) hlt⟩
theorem wc9{s t:List (List Pln)}(h:s.any (λc=>!(y8 t c).1)=false):inR s t=(true,0):=by
 unfold inR;rw[Qkr.2 λc hc=>by have:=Qkae.1 h c hc;simpa using this]
theorem Qd0(x y:List (List Pln))(hx:x.length<=1000000)(hxl:∀q∈x,q.length<=1000000)(hy:y.length<=1000000)(hyl:∀q∈y,q.length<=1000000):Ya3 x y=some (.tup [b (nb4 x y).1,i (nb4 x y).2],[]):=by
 unfold Ya3 nb4;simp only[i8,p7,n9,ac8 hx hxl,ac9 hx hxl,ac8 hy hyl,ac9 hy hyl,j5,Qkb];rw[qd1 x y y x 0 x y x hx hxl hy hyl];cases h1:schk x != 0 with
 |true=>rfl
 |false =>
  cases h2:schk y != 0 with
  |true=>rfl
  |false =>
   simp only[L2,Qkm,if_false];cases ha:x.any λc=>!(y8 y c).1 with
   |true =>
    obtain⟨e1,e2,e3⟩:=ge8 ha;simp only[if_true,Int.toNat_natCast,wc6 (hxl _ e3) hy hyl,e2,Qkm,if_false];rw[e1] at e2 ⊢;rw[e2];rfl
   |false =>
    have e:=wc9 ha;simp only[Qkm,if_false,e,if_true];rw[qd1 x y y x 1 y x y hy hyl hx hxl];cases hc:y.any λc=>!(y8 x c).1 with
    |true =>
     obtain⟨e1,e2,e3⟩:=ge8 hc;simp only[if_true,Int.toNat_natCast,wc6 (hyl _ e3) hx hxl];rw[e1];rfl
    |false =>
     rw[wc9 hc];rfl
theorem Re8{x y:List (List Pln)}(hx:x.length<=1000000)(hxl:∀q∈x,q.length<=1000000)(hy:y.length<=1000000)(hyl:∀q∈y,q.length<=1000000):pb8 x y=nb4 x y:=by unfold pb8;rw[Qd0 x y hx hxl hy hyl];rfl
theorem Re9{x y:List (List Pln)}(hx:x.length<=1000000)(hxl:∀q∈x,q.length<=1000000)(hy:y.length<=1000000)(hyl:∀q∈y,q.length<=1000000):pb9 x y=true:=by unfold pb9;rw[Qd0 x y hx hxl hy hyl];rfl
end Go.Ev.Ce
namespace Go.Ev.Ce
def oc3(a b:V3):V3:=⟨a.x-b.x,a.y-b.y,a.z-b.z⟩
def N3(u w x:V3):V3:=k9 (oc3 w u) (oc3 x u)
def Sol(l:List V3):Prop:=∃a c k v,a∈l/\c∈l/\k∈l/\v∈l/\dot (N3 a c k) (oc3 v a)≠0
theorem Sol.off{l:List V3}(h:Sol l){n:V3}(hn:n≠⟨0,0,0⟩)(b:Int):∃v∈l,dot n v≠b:=by
 obtain⟨a,c,k,v,ha,hc,hk,hv,hd⟩:=h;by_cases h1:dot n a=b
 ·by_cases h2:dot n c=b
  ·by_cases h3:dot n k=b
   ·by_cases h4:dot n v=b
    ·exfalso;unfold N3 at hd;generalize hD:dot (k9 (oc3 c a) (oc3 k a)) (oc3 v a)=D at *
     have q1:dot n (oc3 c a)=0:=by unfold dot oc3 at *;grind
     have q2:dot n (oc3 k a)=0:=by unfold dot oc3 at *;grind
     have q3:dot n (oc3 v a)=0:=by unfold dot oc3 at *;grind
     generalize oc3 c a=p at *
     generalize oc3 k a=q at *
     generalize oc3 v a=r at *
     have i1:D*n.x=(k9 q r).x*dot n p+(k9 r p).x*dot n q+(k9 p q).x*dot n r:=by rw[<- hD];simp only[dot,k9];grind
     have i2:D*n.y=(k9 q r).y*dot n p+(k9 r p).y*dot n q+(k9 p q).y*dot n r:=by rw[<- hD];simp only[dot,k9];grind
     have i3:D*n.z=(k9 q r).z*dot n p+(k9 r p).z*dot n q+(k9 p q).z*dot n r:=by rw[<- hD];simp only[dot,k9];grind
     rw[q1,q2,q3] at i1 i2 i3;have z:∀{x:Int},D*x=0->x=0:=λh=>(Int.mul_eq_zero.1 h).resolve_left hd
     exact hn (V3.ext' (z (by omega)) (z (by omega)) (z (by omega)))
    ·exact⟨v,hv,h4⟩
   ·exact⟨k,hk,h3⟩
  ·exact⟨c,hc,h2⟩
 ·exact⟨a,ha,h1⟩
theorem Sol.ne{l:List V3}(h:Sol l):∃v,v∈l:=by obtain⟨a,_,_,_,ha,_⟩:=h;exact⟨a,ha⟩
structure Fac(l:List V3)(n:V3)(b:Int):Prop where
 hd:∀v∈l,dot n v<=b
 on:∃u w x,u∈l/\w∈l/\x∈l/\N3 u w x≠⟨0,0,0⟩/\dot n u=b/\dot n w=b/\dot n x=b
end Go.Ev.Ce
namespace Go.Ev.Ce
open Go Go.Ev Go.Ev.L Go.Proofs
structure Df1(l:List V3)(p:Pln):Prop extends Fac l p.n p.b where
 ok:okp p=true
def Fv:V3:=⟨10000,100,1⟩
structure Crs(l:List V3)(p:Pln)(v:V3):Prop where
 h:∃u w,u∈l/\w∈l/\dot p.n u=p.b/\dot p.n w=p.b/\dot Fv w<dot Fv v/\dot Fv v<dot Fv u/\N3 v u w≠⟨0,0,0⟩
 on:dot p.n v=p.b
section
variable{l:List V3}(hl:l.all inV=true)
include hl
end
set_option maxRecDepth 100000
structure Ie3 where
 (jb3 jb4 jb5 j9 i5 k8 i9:Int)
structure Ie4 where
 alt:Nat
 bs0:Bool
structure qd2 where
 X5:List V3
 (j9 i5 k8 i9:Int)
structure cd7 where
 X5:List V3
 (is7 j9 i5 k8 i9:Int)
structure cd8 where
 is8:Int
structure qd3 where
 alt:Nat
 is0:Int
structure ad9 where
 X5:List V3
 (j9 i5 k8 i9:Int)
structure bd0 where
 alt:Nat
 bs0:Bool
structure Ie5 where
 (is3 is4 is9 qa5 Cf6 Cf7 Df3:Int)
 (rd0 rd1:List V3)
structure Ie6 where
 Df4:Int
structure Ie7 where
 (is3 is9 qa5 Cf6:Int)
structure Ie8 where
 Cf7:Int
 (rd0 rd1:List V3)
structure Ie9 where
 is9:Int
structure Je0 where
 qa5:Int
 (rd0 rd1:List V3)
end Go.Ev.Ce
namespace Go.Ev
open Go Go.ChangeShapes Go.RowKit
structure bd1(w w':World):Prop where
 os:w'.os=w.os
 output:w'.output=w.output
 size:w.heap.size<=w'.heap.size
 block:∀k,k<w.heap.size->w'.heap[k]?=w.heap[k]?
theorem bd1.kept{w w':World}(h:bd1 w w')(may:MemPlace->Prop):w.keptBut w' may:=by
 refine⟨h.os,h.output,λi hi=>?_⟩
 rw[h.block i hi];cases w.heap[i]? with
 |none=>rfl
 |some o=>cases o<;>first | exact⟨rfl,rfl,rfl,λ_ _=>rfl⟩ | exact .inr ⟨rfl,rfl⟩ | rfl
theorem bd1.frozen{w w':World}(h:bd1 w w')(b off:Nat)(hb:b<w.heap.size):w'.frozen? ⟨b,off,none⟩=w.frozen? ⟨b,off,none⟩:=by
 simp only[World.frozen?,h.block b hb]
theorem bd1.cell{w w':World}(h:bd1 w w')(b off:Nat)(hb:b<w.heap.size):w'.cell? ⟨b,off,none⟩=w.cell? ⟨b,off,none⟩:=by
 simp only[World.cell?,h.block b hb]
theorem bd1.same{w w':World}(h:bd1 w w')(p:MemPlace)(hp:p.block<w.heap.size):w.sameAt w' p:=by
 cases p with
 |cell b off=>exact h.cell b off hp
 |map b=>exact h.block b hp
theorem bc1{α β:Type}{f:α->Option β}:∀{l:List α} {r:List β},l.mapM f=some r->r.length=l.length/\∀(j:Nat) y,r[j]?=some y->∃x,l[j]?=some x/\f x=some y
 |[],r,h=>by
  have:r=[]:=by simpa using h.symm
  subst this;simp
 |x::l,r,h=>by
  rw[List.mapM_cons] at h;obtain⟨y,h1,h2⟩:=Qkl.1 h;obtain⟨r',h3,h4⟩:=Qkl.1 h2
  have:r=y::r':=by simpa using h4.symm
  subst this;obtain⟨g1,g2⟩:=bc1 h3;refine⟨by simp[g1],λj z hz=>?_⟩
  cases j with
  |zero=>simp at hz;subst hz;exact⟨x,rfl,h1⟩
  |succ j=>simpa using g2 j z (by simpa using hz)
section
variable{D:Type}{enc:TypeId×Value->D}{P:Program}
theorem jc6 {T : TypeId → Prop} (K : Kids P T) (hsz : ∀ {t e : TypeId}, T t → P.underlying t = some (.slice e) → 0 < P.cellsOf e) {w w' : World} {sp : Nat → Bool} (hs : bd1 w w') :
  ∀{ts:List TypeId} {vs:List Value} {ds:List (DataW D)} {ps:List MemPlace},(∀t∈ts,T t)->DataW.TrodAll enc P w 0 (λ_=>true) true ts vs ds ps->(∀p∈ps,p.block<w.heap.size)->(∀p∈ps,sp p.block=true)->DataW.TrodAll enc P w' 0 sp true ts vs ds ps
 |[],[],[],_,_,h,_,_=>h
 |t::ts,v::vs,d::ds,ps,ht,h,hlt,hsp=>by
  obtain⟨p,q,⟨fuel,h1⟩,h2,rfl⟩:=h;refine⟨p,q,⟨fuel,?_⟩,jc6 K hsz hs (λt h=>ht t (by simp[h])) h2 (λx hx=>hlt x (by simp[hx])) (λx hx=>hsp x (by simp[hx])),rfl⟩
  exact DataW.trod_stays K hsz (λh=>by cases h) (ht t (by simp)) h1 (λx hx=>hs.same x (hlt x (by simp at hx ⊢;exact .inl hx))) (λx hx=>hsp x (by simp at hx ⊢;exact .inl hx))
 |[],_::_,_,_,_,h,_,_=>h.elim
 |[],[],_::_,_,_,h,_,_=>h.elim
 |_::_,[],_,_,_,h,_,_=>h.elim
 |_::_,_::_,[],_,_,h,_,_=>h.elim
theorem Ee7 {T : TypeId → Prop} (K : Kids P T) (hsz : ∀ {t e : TypeId}, T t → P.underlying t = some (.slice e) → 0 < P.cellsOf e) {f : Func} {s : ChangeSpec} {apart fresh handsOn again : Bool} {W W' : World} {args : Array Value} {ds gs : List (DataW D)} {before : List MemPlace} {tb : TypeId}
  (hT:∀t∈f.params.toList,T t) (hW:DataW.Whole enc P f.params.toList s.vars apart W args.toList ds gs before) (hv:s.vars=[]) (hr:f.resultTypes=#[tb]) (hb:P.underlying tb=some .bool)
  (h1:(s.fn D ds).results=[.lit (.bool true)]) (h2:(s.fn D ds).args=ds) (h3:(s.fn D ds).vars=[]) (hs:bd1 W W') :
  s.post enc P f apart fresh handsOn again W args (.bool true) W':=by
 have hlt:=hW.lt;obtain⟨pa,pv,hA,hV,hps,hz,hn⟩:=id hW;rw[hv] at hV;have hpv:gs=[]/\pv=[]:=by
  cases gs with
  |nil=>exact⟨rfl,hV⟩
  |cons=>exact hV.elim
 obtain⟨rfl,rfl⟩:=hpv;rw[<- Qkak ds] at h1 h3;have h2:(s.fn D (ds++[])).args=ds:=by rw[Qkak];exact h2
 have hpa:before=pa:=by rw[hps];simp
 subst hpa;have hagain:∀sp:Nat->Bool,(∀p∈before,sp p.block=true)->DataW.TrodAll enc P W' 0 sp true f.params.toList args.toList ds before:=λsp h=>jc6 K hsz hs hT hA hlt h
 have hres:∀(b:Nat) (sp:Nat->Bool) (hd:Bool),DataW.TrodAll enc P W' b sp hd f.resultTypes.toList ((Value.bool true).resultList f.resultTypes.size) [.lit (.bool true)] []:=λb sp hd=>by
  rw[hr];exact⟨[],[],⟨1,by simp[DataW.trod,hb,Value.cells,Value.resultList]⟩,rfl,rfl⟩
 have hvars:∀sp:Nat->Bool,DataW.TrodVars enc P W' sp s.vars ([]:List (DataW D)) []:=λsp=>by rw[hv];exact rfl
 have hok:∀(j:Nat) (t:TypeId) (r:Value),f.resultTypes[j]?=some t->((Value.bool true).resultList f.resultTypes.size)[j]?=some r->Value.okWide P W' .any 0 t r:=by
  rw[hr];intro j t r h4 h5;cases j with
  |zero =>
   simp at h4
   subst h4
   have:r=.bool true:=by simpa [Value.resultList] using h5.symm
   subst this;exact okWide_bool_mk hb _
  |succ j=>simp at h4
 have hag:DataW.TrodAll enc P W' 0 (λ_=>true) true (f.resultTypes.toList++f.params.toList) ((Value.bool true).resultList f.resultTypes.size++args.toList) (.lit (.bool true)::ds) before:=by
  have:=hagain (λ_=>true) (λ_ _=>rfl)
  rw[hr];exact⟨[],before,⟨1,by simp[DataW.trod,hb,Value.cells,Value.resultList]⟩,this,rfl⟩
 refine⟨ds,[],before,[],before,[],hW,?_,?_,?_,hs.kept _,λ_=>?_⟩
 ·rw[h1];exact hres _ _ _
 ·rw[h2];exact hagain _ λp hp=>by simpa using hlt p hp
 ·rw[h3];exact hvars _
 ·refine⟨hok,.lit (.bool true)::ds,[],before,⟨before,[],hag,hvars _,by simp,?_,?_⟩,?_⟩
  ·intro b off hp;rw[hs.frozen b off (hlt _ hp)];exact hz b off (by simpa using hp)
  ·intro ha;simpa using hn ha
  ·intro p hp _;exact hp
variable{w:World}{base:Nat}{spare:Nat->Bool}{held:Bool}
def Qd1(w:World):Fz:=λb o=>(w.cell? ⟨b,o,none⟩).isSome
theorem hf3 {fuel : Nat} {t : TypeId} {k : IntKind} {cs : List Value} {x : DataW D × List MemPlace} (ht : P.underlying t = some (.int k)) (h : DataW.trod enc P w base spare held fuel t cs = some x) :
  ∃n,cs=[.int k n]/\(Lit.int k n).wf=true/\x.1=.lit (.int k n):=by
 cases fuel with
 |zero=>cases h
 |succ fuel =>
  match cs,h with
  |[],h=>simp[DataW.trod,ht] at h
  |[v],h =>
   cases v with
   |int k' n =>
    simp only[DataW.trod,ht] at h
    split at h
    ·rename_i hk;obtain⟨rfl,hw⟩:=hk;injection h with h;subst h
     exact⟨n,rfl,hw,rfl⟩
    ·cases h
   |_=>simp[DataW.trod,ht] at h
  |a::b::r,h=>simp[DataW.trod,ht] at h
theorem Se0 {fuel : Nat} {t : TypeId} {cs : List Value} {x : DataW D × List MemPlace} (ht : P.underlying t = some .bool) (h : DataW.trod enc P w base spare held fuel t cs = some x) :
  ∃n,cs=[.bool n]/\x.1=.lit (.bool n):=by
 cases fuel with
 |zero=>cases h
 |succ fuel =>
  match cs,h with
  |[],h=>simp[DataW.trod,ht] at h
  |[v],h =>
   cases v with
   |bool n =>
    simp only[DataW.trod,ht] at h;injection h with h;subst h
    exact⟨n,rfl,rfl⟩
   |_=>simp[DataW.trod,ht] at h
  |a::b::r,h=>simp[DataW.trod,ht] at h
theorem Ee8 {fuel : Nat} {t e : TypeId} {n : Nat} {cs : List Value} {x : DataW D × List MemPlace} (ht : P.underlying t = some (.array n e)) (h : DataW.trod enc P w base spare held fuel t cs = some x) :
  cs.length=P.cellsOf t/\∃(fuel':Nat) (xs:List (DataW D×List MemPlace)),xs.length=n/\x.1=.agg (xs.map (·.1))/\∀(j:Nat) y,xs[j]?=some y->DataW.trod enc P w base spare held fuel' e ((cs.drop (j*P.cellsOf e)).take (P.cellsOf e))=some y:=by
 cases fuel with
 |zero=>cases h
 |succ fuel =>
  unfold DataW.trod at h;rw[ht] at h
  simp only at h
  split at h
  ·rename_i hl;obtain⟨xs,h1,h2⟩:=Qkam.1 h;have hx:=bc1 h1;exact⟨hl,fuel,xs,by simpa using hx.1,by rw[<- h2],λj y hy=>by
    obtain⟨a,ha,hb⟩:=hx.2 j y hy
    have:j<n:=by
     have:=(List.getElem?_eq_some_iff.1 hy).1
     rw[hx.1] at this;simpa using this
    rw[Qkx this] at ha;injection ha with ha;subst ha;exact hb⟩
  ·cases h
theorem pe9 {fuel : Nat} {t : TypeId} {fs : Array Field} {cs : List Value} {x : DataW D × List MemPlace} (ht : P.underlying t = some (.struct fs)) (h : DataW.trod enc P w base spare held fuel t cs = some x) :
  cs.length=P.cellsOf t/\∃(fuel':Nat) (xs:List (DataW D×List MemPlace)),xs.length=fs.size/\x.1=.agg (xs.map (·.1))/\∀(j:Nat) f,fs[j]?=some f->∃y,xs[j]?=some y/\DataW.trod enc P w base spare held fuel' f.type ((cs.drop f.offset).take (P.cellsOf f.type))=some y:=by
 cases fuel with
 |zero=>cases h
 |succ fuel =>
  unfold DataW.trod at h;rw[ht] at h
  simp only at h
  split at h
  ·rename_i hl;obtain⟨xs,h1,h2⟩:=Qkam.1 h;have hx:=bc1 h1;refine⟨hl,fuel,xs,by simpa using hx.1,by rw[<- h2],λj f hf=>?_⟩
   have hj:j<xs.length:=by
    rw[hx.1];simpa using (Array.getElem?_eq_some_iff.1 hf).1
   obtain⟨a,ha,hb⟩:=hx.2 j _ (Qka hj)
   have:a=f:=by
    have:fs.toList[j]?=some f:=by simpa using hf
    exact Option.some.inj (ha.symm.trans this)
   subst this;exact⟨_,Qka hj,hb⟩
  ·cases h
theorem Ee9 {fuel : Nat} {t e : TypeId} {cs : List Value} {x : DataW D × List MemPlace} (ht : P.underlying t = some (.slice e)) (h : DataW.trod enc P w base spare held fuel t cs = some x) :
  cs=[.slice none 0 0]\/∃(a:Addr) (n cap fuel':Nat),cs=[.slice (some a) n cap]/\n<=cap/\cap<=maxLen/\∀j,j<n->∃row y,w.cells? base (a.add (j*P.cellsOf e)) (P.cellsOf e)=some row/\DataW.trod enc P w base spare held fuel' e row=some y:=by
 cases fuel with
 |zero=>cases h
 |succ fuel =>
  match cs,h with
  |[],h=>simp[DataW.trod,ht] at h
  |[v],h =>
   cases v with
   |slice a len cap =>
    cases a with
    |none =>
     simp only[DataW.trod,ht] at h
     split at h<;>first | (rename_i e1;cases e1;done) | skip
     all_goals first | exact .inl rfl | (simp_all;done) | skip
    |some a =>
     refine .inr ?_;simp only[DataW.trod,ht] at h
     split at h
     ·rename_i hc;obtain⟨elems,h1,h2⟩:=Qkl.1 h;have hx:=bc1 h1;refine⟨a,len,cap,fuel,rfl,hc.2.1,hc.2.2,λj hj=>?_⟩
      have hj':j<elems.length:=by rw[hx.1];simpa using hj
      obtain⟨i,hi,hb⟩:=hx.2 j _ (Qka hj');rw[Qkx hj] at hi;injection hi with hi;subst hi;obtain⟨row,r1,r2⟩:=Qkl.1 hb;exact⟨row,_,r1,r2⟩
     ·cases h
   |_=>simp[DataW.trod,ht] at h
  |a::b::r,h=>simp[DataW.trod,ht] at h
theorem ge9:∀(d:Nat) (t:TypeId) (l:List (Nat×CK)),ca5 P d t=some l->∀(fuel:Nat) (cs:List Value) (x:DataW D×List MemPlace),DataW.trod enc P w base spare held fuel t cs=some x->∀p∈l,Ia6 cs.toArray p
 |0,_,_,h,_,_,_,_=>by cases h
 |d+1,t,l,h,fuel,cs,x,hx=>by
  have hpart:∀{off n:Nat} {e:TypeId} {l':List (Nat×CK)} {fuel':Nat} {y:DataW D×List MemPlace},Ub0 off n (ca5 P d e)=some l'->DataW.trod enc P w base spare held fuel' e ((cs.drop off).take n)=some y->∀p∈l',Ia6 cs.toArray p:=λ{off n e l' fuel' y} h1 h2 p hp=>by
   obtain⟨l2,g1,g2,rfl⟩:=Sa0 h1;obtain⟨q,hq,rfl⟩:=Qkai.1 hp
   have:=ge9 d e l2 g1 fuel' _ y h2 q hq
   have hlt:=g2 q hq;unfold Ia6 at this ⊢;simp only[List.getElem?_toArray,List.getElem?_take,hlt,if_true,List.getElem?_drop] at this ⊢;exact this
  have hcat:∀{α:Type} (f:α->Option (List (Nat×CK))) (xs:List α) (l:List (Nat×CK)),qa7 (xs.map f)=some l->∀p∈l,∃a∈xs,∃l',f a=some l'/\p∈l':=λ{α} f xs=>by
   induction xs with
   |nil=>intro l h;simp only[List.map_nil,qa7] at h;injection h with h;subst h;simp
   |cons a xs ih =>
    intro l h p hp;simp only[List.map_cons,qa7] at h;cases h1:f a with
    |none=>simp[h1] at h
    |some l1 =>
    cases h2:qa7 (xs.map f) with
    |none=>simp[h1,h2] at h
    |some l2 =>
    simp only[h1,h2] at h;injection h with h;subst h
    rcases Qkd.1 hp with hp|hp
    ·exact⟨a,by simp,l1,h1,hp⟩
    ·obtain⟨b,hb,r⟩:=ih l2 h2 p hp;exact⟨b,by simp[hb],r⟩
  unfold ca5 at h;cases hu:P.underlying t with
  |none=>simp[hu] at h
  |some u =>
  cases u with
  |int k =>
   simp only[hu] at h;injection h with h;subst h
   obtain⟨n,rfl,_,_⟩:=hf3 hu hx;intro p hp;simp at hp;subst hp;exact⟨n,rfl⟩
  |bool =>
   simp only[hu] at h;injection h with h;subst h
   obtain⟨n,rfl,_⟩:=Se0 hu hx;intro p hp;simp at hp;subst hp;exact⟨n,rfl⟩
  |struct fs =>
   simp only[hu] at h
   split at h
   ·cases h
   obtain⟨_,fuel',xs,_,_,hxs⟩:=pe9 hu hx;intro p hp;obtain⟨f,hf,l',h1,h2⟩:=hcat _ _ _ h p hp
   split at h1
   ·cases h1
   obtain⟨j,hj⟩:=List.getElem?_of_mem hf;obtain⟨y,_,hy⟩:=hxs j f (by simpa using hj)
   have hc:P.cellsOf f.type=szT P f.type:=by
    unfold Program.cellsOf szT;cases P.info? f.type<;>rfl
   rw[hc] at hy;exact hpart h1 hy p h2
  |array n e =>
   simp only[hu] at h
   split at h
   case isFalse=>cases h
   obtain⟨_,fuel',xs,hn,_,hxs⟩:=Ee8 hu hx;intro p hp;obtain⟨j,hj,l',h1,h2⟩:=hcat _ _ _ h p hp;have hj':j<xs.length:=by rw[hn];simpa using hj
   have hy:=hxs j _ (Qka hj');have hc:P.cellsOf e=szT P e:=by
    unfold Program.cellsOf szT;cases P.info? e<;>rfl
   rw[hc] at hy;exact hpart h1 hy p h2
  |_=>simp[hu] at h
def Ra8(k:IntKind)(es:Nat)(g:Nat->Int):List a7:=(List.range es).map λc=>.v (.int k (g c))
def Ea4(k:IntKind)(es:Nat):List (Nat×CK):=(List.range es).map λc=>(c,.int k)
theorem he3 {d : Nat} {t : TypeId} {k : IntKind} {es : Nat} (hf : ca5 P d t = some (Ea4 k es)) {fuel : Nat} {cs : List Value} {x : DataW D × List MemPlace} (hx : DataW.trod enc P w base spare held fuel t cs = some x) (hl : cs.length = es) :
  ∃g:Nat->Int,∀c,c<es->cs[c]?=some (.int k (g c)):=by
 have h:=ge9 d t _ hf fuel cs x hx;have h':∀c,∃n:Int,c<es->cs[c]?=some (.int k n):=λc=>by
  by_cases hc:c<es
  ·have:=h (c,.int k) (Qkai.2 ⟨c,by simpa using hc,rfl⟩)
   obtain⟨n,hn⟩:=this;exact⟨n,λ_=>by simpa using hn⟩
  ·exact⟨0,λh=>absurd h hc⟩
 exact⟨λc=>Classical.choose (h' c),λc hc=>Classical.choose_spec (h' c) hc⟩
theorem Fe0{F:Fz}{w:World}(k:IntKind)(n:Int):ea6 F w (.v (.int k n)) (.int k n):=.v _ rfl
theorem bd2{k:IntKind}{es:Nat}{g:Nat->Int}{c:Nat}{x:a7}(h:(Ra8 k es g)[c]?=some x):c<es/\x=.v (.int k (g c)):=by
 unfold Ra8 at h;obtain⟨h1,h2⟩:=Ua2 h;exact⟨h1,h2.symm⟩
theorem id8 {t e : TypeId} {k : IntKind} {es d : Nat} (ht : P.underlying t = some (.slice e)) (hf : ca5 P d e = some (Ea4 k es)) (hes : P.cellsOf e = es) (h0 : 0 < es) {fuel : Nat} {cs : List Value} {x : DataW D × List MemPlace} (hx : DataW.trod enc P w 0 spare held fuel t cs = some x) :
  ∃(v:Value) (n:Nat) (g:Nat->Nat->Int),cs=[v]/\n<=maxLen/\ea6 (Qd1 w) w (.tree es n λj=>Ra8 k es (g j)) v:=by
 rcases Ee9 ht hx with rfl|⟨a,n,cap,fuel',rfl,hn,hc,hel⟩
 ·exact⟨_,0,λ_ _=>0,rfl,Qkn _,.nil _ _⟩
 ·rw[hes] at hel;have hcell:∀j,j<n->∃g:Nat->Int,∀c,c<es->w.cell? ((a.add (j*es)).add c)=some (.int k (g c)):=λj hj=>by
   obtain⟨row,y,h1,h2⟩:=hel j hj;unfold World.cells? at h1
   split at h1
   ·obtain⟨l1,l2⟩:=bc1 h1;have hl:row.length=es:=by simpa using l1
    obtain⟨g,hg⟩:=he3 hf h2 hl;refine⟨g,λc hc=>?_⟩
    obtain⟨i,hi,hi2⟩:=l2 c _ (hg c hc);rw[Qkx hc] at hi;injection hi with hi;subst hi;exact hi2
   ·cases h1
  have hg:∀j,∃g:Nat->Int,j<n->∀c,c<es->w.cell? ((a.add (j*es)).add c)=some (.int k (g c)):=λj=>by
   by_cases hj:j<n
   ·obtain⟨g,hg⟩:=hcell j hj;exact⟨g,λ_=>hg⟩
   ·exact⟨λ_=>0,λh=>absurd h hj⟩
  obtain⟨g,hg⟩:=Classical.axiomOfChoice hg;have hspot:0<n->a.spot=none:=λhn=>by
   have:=hg 0 hn 0 h0
   simpa [Addr.add] using World.cell?_spot this
  have hw:∀j c,j<n->c<es->w.cell? ⟨a.block,a.off+(j*es+c),none⟩=some (.int k (g j c)):=λj c hj hc=>by
   have:=hg j hj c hc
   rw[ca6 (hspot (by omega)),ca6 rfl] at this
   simpa [Nat.add_assoc] using this
  refine⟨_,n,g,rfl,Qki hn hc,.tree es n _ a cap (λj c=>.int k (g j c)) hspot hn (λi hi=>by simp[Ra8]) (λi c hi hc=>?_) hw λi c hi hc=>?_⟩
  ·unfold Qd1;rw[hw i c hi hc];rfl
  ·have:=(bd2 (Qka hc)).2
   rw[this];exact Fe0 _ _
theorem qe0(w:World):B8 (λk=>w.heap.size<=k) (λ_=>⟨0,0,0⟩) [] (Qd1 w) w :=
 ⟨λid b h=>by simp at h,λid id' b b' h=>by simp at h,λ_ _ h=>h,λ_ h=>h⟩
theorem qe1 {G : Nat → List Value} {f : FuncId} {S : Sum} (hS : e7 P G f S) {aargs : List a7} {args : List Value} (hrun : ∃ out, (S aargs []).run = some (b true, out)) (hl : aargs.length = args.length)
  (ha:∀(i:Nat) x x',aargs[i]?=some x->args[i]?=some x'->fa7 (λ_=>⟨0,0,0⟩) [] (Qd1 w) w x x') (hG:∀g (c:Nat) x,(G g)[c]?=some x->x.oneCell'=true/\w.cell? ⟨g,c,none⟩=some x) :
  Calls P f args.toArray w λe w'=>e=.returned (.bool true)/\bd1 w w':=by
 obtain⟨out,hrun⟩:=hrun;obtain⟨_,hc⟩:=hS aargs [] (b true) out hrun (λk=>w.heap.size<=k) (λ_=>⟨0,0,0⟩) (Qd1 w) w args (qe0 w) hl (λi x x' h1 h2=>.val (ha i x x' h1 h2)) (λg c x hx=>by
  obtain⟨h1,h2⟩:=hG g c x hx;exact⟨h1,by unfold Qd1;rw[h2];rfl,h2⟩)
 refine hc.mono λe w' ⟨r',he,ρ',F',hA,hH,hW⟩=>?_
 have:=ea0 hW
 subst this;exact⟨he,hA.ext.os,hA.ext.output,hA.ext.size,λk hk=>hA.ext.block k hk (by omega)⟩
theorem Se1 {ρ : Rho} {H : List a8} {F : Fz} {t : TypeId} {k : IntKind} {es d : Nat} {v : Value} {dd : DataW D} {pp : List MemPlace} {bs : Nat} {r : Reach} (hag : agT P t = true) (hf : ca5 P d t = some (Ea4 k es)) (hes : P.cellsOf t = es)
  (hok:Value.okWide P w r bs t v) (h:DataW.Trod enc P w base spare held t v dd pp):∃g:Nat->Int,fa7 ρ H F w (.agg (Ra8 k es g)) v:=by
 have hv:∃cs:Array Value,v=.agg cs/\cs.size=P.cellsOf t:=by
  unfold agT at hag;unfold Value.okWide at hok
  split at hag
  ·rename_i fs hu;rw[hu] at hok;obtain⟨cs,h1,h2,_⟩:=hok;exact⟨cs,h1,h2⟩
  ·rename_i n e hu;rw[hu] at hok;obtain⟨cs,h1,h2,_⟩:=hok;exact⟨cs,h1,h2⟩
  ·cases hag
 obtain⟨cs,rfl,hsz⟩:=hv;obtain⟨fuel,hx⟩:=h;have hx:DataW.trod enc P w base spare held fuel t cs.toList=some (dd,pp):=hx;obtain⟨g,hg⟩:=he3 hf hx (by simpa [hes] using hsz)
 refine⟨g,.agg _ _ (by simp[Ra8,hsz,hes]) λc x x' h1 h2=>?_⟩
 obtain⟨hc,rfl⟩:=bd2 h1
 have:=hg c hc
 have h3:some x'=some (.int k (g c)):=by rw[<- h2];simpa using this
 injection h3 with h3;subst h3;exact .v _
theorem qe2 {ρ : Rho} {H : List a8} {t e : TypeId} {k : IntKind} {es d : Nat} {v : Value} {dd : DataW D} {pp : List MemPlace} {bs : Nat} {r : Reach} (ht : P.underlying t = some (.slice e)) (hf : ca5 P d e = some (Ea4 k es)) (hes : P.cellsOf e = es) (h0 : 0 < es)
  (hok:Value.okWide P w r bs t v) (h:DataW.Trod enc P w 0 spare held t v dd pp):∃(n:Nat) (g:Nat->Nat->Int),n<=maxLen/\fa7 ρ H (Qd1 w) w (.tree es n λj=>Ra8 k es (g j)) v:=by
 obtain⟨fuel,hx⟩:=h;obtain⟨v',n,g,h1,h2,h3⟩:=id8 ht hf hes h0 hx;have hv:v.cells=#[v]:=by
  unfold Value.okWide at hok;rw[ht] at hok;cases v with
  |agg cs=>exfalso;simp[Cell.okWide,Cell.ok,ht] at hok
  |_=>rfl
 rw[hv] at h1
 have:v=v':=by simpa using h1
 subst this;exact⟨n,g,h2,.cell (.mem h3)⟩
end
end Go.Ev
namespace Go.Ev.L
open Go Go.Ev
def Rdg{α:Type}(c:Cod α)(x:a7)(a:α):Prop:=c.dec x=some a/\c.grd x=true
section
variable{α β γ δ ε:Type}{c:Cod α}{d:Cod β}{e:Cod γ}{f:Cod δ}{c5:Cod ε}{x y z w v:a7}{a:α}{b':β}{g:γ}{j:δ}{m:ε}{r:a7×List a8}
theorem Cf2{k:α->β->DT (a7×List a8)}(h1:Rdg c x a)(h2:Rdg d y b')(h:(k a b').run=some r):(ta3 c d k [x,y] []).run=some r:=by
 unfold ta3;simp only[h1.1,h1.2,h2.1,h2.2];exact h
end
theorem hf4{g p:Bool}(hg:g=true)(hp:p=true):(DT.guard g (.ret ((one r1B).enc p,([]:List a8)))).run=some (b true,([]:List a8)):=by subst hg;subst hp;rfl
end Go.Ev.L
namespace Go.Ev.Ce
open Go Go.Ev Go.Ev.L Go.Proofs
structure B3 where
 b0:Int
 b1:Int
 b2:Int
structure B2 where
 d0:Int
 d1:Int
structure LL where
 u:List Int
 v:List Int
end Go.Ev.Ce
namespace Go.Ev.L
open Go Go.Ev
section
variable{α β γ δ ε ζ:Type}{P:Program}{G:Nat->List Value}{f:FuncId}{R0:Sum}{c:Cod α}{d:Cod β}{e:Cod γ}{c4:Cod δ}{c5:Cod ε}{c6:Cod ζ}{ρ:Type}
theorem Cf3(hb:e7 P G f R0)(R:RR ρ){o:α->β->γ->δ->ε->ζ->Option (a7×List a8)}(h:∀a b g j m n r,o a b g j m n=some r->(R0 [c.enc a,d.enc b,e.enc g,c4.enc j,c5.enc m,c6.enc n] []).run=some r):e7 P G f (ke9 c d e c4 c5 c6 λa b g j m n=>rdO R (o a b g j m n)) :=
 (Le1 hb (k:=λa b g j m n=>DT.ofOption (o a b g j m n)) λa b g j m n r hr=>h a b g j m n r (by rw[db9] at hr;exact hr)).conv λargs blks y out hr=>by
  unfold ke9 at hr
  split at hr
  ·obtain⟨a,h1,hr⟩:=G6 hr;obtain⟨b,h2,hr⟩:=G6 hr;obtain⟨g,h3,hr⟩:=G6 hr;obtain⟨j,h4,hr⟩:=G6 hr;obtain⟨m,h5,hr⟩:=G6 hr;obtain⟨n,h6,hr⟩:=G6 hr;obtain⟨g1,hr⟩:=DT.run_guard_some hr;obtain⟨g2,hr⟩:=DT.run_guard_some hr;obtain⟨g3,hr⟩:=DT.run_guard_some hr;obtain⟨g4,hr⟩:=DT.run_guard_some hr;obtain⟨g5,hr⟩:=DT.run_guard_some hr;obtain⟨g6,hr⟩:=DT.run_guard_some hr;obtain⟨e1,x,o',e2,e3⟩:=Sc8 hr;refine⟨rfl,e1,x,o',?_,e3⟩;simp only[ke9,h1,h2,h3,h4,h5,h6,onO,g1,g2,g3,g4,g5,g6];show (DT.ofOption (o a b g j m n)).run=_;rw[db9,e2]
  ·cases hr
end
end Go.Ev.L
namespace Go.Ev.Ce
open Go Go.Ev Go.Ev.L Go.Proofs
structure B6 where
 c0:Int
 c1:Int
 c2:Int
 c3:Int
 c4:Int
 c5:Int
def sf3:List a7->Bool
 |[.v (.int .u8 _),.v (.int .u8 _),.v (.int .u8 _),.v (.int .u8 _),.v (.int .u8 _),.v (.int .u8 _)]=>true
 |_=>false
def Cf4:List a7->B6
 |[.v (.int .u8 x),.v (.int .u8 y),.v (.int .u8 z),.v (.int .u8 u),.v (.int .u8 v),.v (.int .u8 w)]=>⟨x,y,z,u,v,w⟩
 |_=>⟨0,0,0,0,0,0⟩
noncomputable def tS:Ty B6 where
 es:=6
 row x:=[.v (.int .u8 x.c0),.v (.int .u8 x.c1),.v (.int .u8 x.c2),.v (.int .u8 x.c3),.v (.int .u8 x.c4),.v (.int .u8 x.c5)]
 rd:=Cf4
 ok:=sf3
 cks:=List.replicate 6 (.int .u8)
 d:=⟨0,0,0,0,0,0⟩
 h0 _:=rfl
 h1 _:=rfl
 h2 _:=rfl
 h3 r h:=by
  unfold sf3 at h
  split at h
  ·exact .refl _
  ·cases h
 h4 _:=rfl
 h5 _:=rfl
set_option maxRecDepth 100000
structure Se2 where
 if6:List (List Int)
 is1:Int
structure Ad4 where
 ph:Nat
 is6:Int
 ns5:Nat
 eh0:List (List a7)
noncomputable def Ad5:List (Nat×Sum):=[(63,nc4)]
theorem id9:g9 prog G Ad5:=⟨Hc3,trivial⟩
noncomputable def jb2(x:Int)(y:Int)(z:Int)(w:Int)(v:Int)(q:Int):Option (a7×List a8):=let t1:=(xa1 (⟨x,y,z⟩:V3) (⟨w,v,q⟩:V3));(some (.sl 0 0 6 0,[⟨73,4,[[i 1,i 0,i 0,i t1.i9],[i (-1),i 0,i 0,i t1.xc8],[i 0,i 1,i 0,i t1.xc9],[i 0,i (-1),i 0,i t1.yc0],[i 0,i 0,i 1,i t1.yc1],[i 0,i 0,i (-1),i t1.yc2]],true,false,0⟩]))
noncomputable def E9(x:Int)(y:Int)(z:Int)(w:Int)(v:Int)(q:Int):List Pln:=Q5 (one (r1L tP)) (jb2 x y z w v q)
noncomputable def E0(x:Int)(y:Int)(z:Int)(w:Int)(v:Int)(q:Int):Bool:=okO (one (r1L tP)) (jb2 x y z w v q)
noncomputable def bc2:Sum:=ke9 cI cI cI cI cI cI (λx y z w v q=>.guard (E0 x y z w v q) (.ret ((one (r1L tP)).enc (E9 x y z w v q),[])))
theorem xc0:e7 prog G 93 bc2:=Cf3 (bd b93 id9) (one (r1L tP)) (o:=jb2) λx y z w v q=>A7 (by kernel_rfl)
structure re5 where
 if6:List (List Int)
 is1:Int
structure Lc7 where
 ph:Nat
 is6:Int
 ns5:Nat
 eh0:List (List a7)
noncomputable def Rb4:List (Nat×Sum):=[(40,fb0),(101,Zc0),(23,Xc7)]
theorem Ec2:g9 prog G Rb4:=⟨wb8,Nd3,Ld9,trivial⟩
structure va5 where
 (cd6 Fc1:List (List Pln))
 jd5:Int
structure O7 where
 Ma8:Int
noncomputable def Bb7(p:va5)(s:O7):St:=⟨.unk::.unk::eL (tLs tP) p.cd6::ra 4 (eL (tLs tP) p.Fc1::ra 18 (i p.jd5::i s.Ma8::ra 14 [])),[]⟩
noncomputable def la5{α:Type}(k:O7->α)(e:Nat->α)(z:α)(p:va5)(s:O7):α:=let t1:=(nc7 (rt tP (gL (tLs tP) p.cd6 s.Ma8.toNat)));let t2:=(Nb7 (rt tP (gL (tLs tP) p.Fc1 s.Ma8.toNat)) (rt tP t1));(sl (decide (s.Ma8<p.jd5)) (sl (inB s.Ma8 (List.length p.Fc1)) (sl (inB s.Ma8 (List.length p.cd6)) (sl (okE tP (gL (tLs tP) p.cd6 s.Ma8.toNat)) (sl (nc8 (rt tP (gL (tLs tP) p.cd6 s.Ma8.toNat))) (sl (okE tP (gL (tLs tP) p.Fc1 s.Ma8.toNat)) (sl (okE tP t1) (sl (Nb8 (rt tP (gL (tLs tP) p.Fc1 s.Ma8.toNat)) (rt tP t1)) (sl (!t2) (e 1) (k ⟨W (s.Ma8+1)⟩)) z) z) z) z) z) z) z) (e 2))
noncomputable def qa4(p:va5)(s:O7):Stp O7:=la5 .next .exit .fail p s
noncomputable def db1:Lo va5 O7:=⟨En Rb4,0,lf5,[1,1,1,0,1,4,4],[2,7,26,27],.p,[⟨sUq::sUq::.s (.c 1 (nL (tLs tP)))::ru2 4 (.s (.c 1 (nL (tLs tP)))::ru2 18 (sIq::sIq::ru2 14 [])),[],λa H=>(⟨rL (tLs tP) (slT a 2),rL (tLs tP) (slT a 7),aIq a 26⟩,⟨aIq a 27⟩)⟩],qa4,[(none,λp s=>⟨[b false],[]⟩),(some 0,λp s=>upq (Bb7 p s) [(28,b (decide (s.Ma8<p.jd5)))])],Bb7⟩
theorem xc1:db1.Ok:=Lo.ok [] (by kernel_rfl) .nil rfl (.cons (λa H=>by kernel_rfl) .nil) λp s=>(.of @la5 (λF _ _ _ _ _=>by unfold la5;(repeat' apply l5 (f:=F))<;>rfl) (by kernel_rfl))
noncomputable def Ha8(x:List Pln)(y:List (List Pln))(z:List (List Pln)):Option (a7×List a8):=let t1:=(Ba8 (rt tP x) (rt (tLs tP) y));let t2:=(lp (qa4 (⟨rt (tLs tP) z,rt (tLs tP) t1.1,(↑(List.length z):Int)⟩:va5)) (⟨0⟩:O7));(sl (okE tP x) (sl (okE (tLs tP) y) (sl (sa0 (rt tP x) (rt (tLs tP) y)) (sl (t1.2 != 0) (some (b false,[])) (sl ((↑(List.length t1.1):Int) != (↑(List.length z):Int)) (some (b false,[])) (sl ((cnE (tLs tP) z)&&((cnE (tLs tP) t1.1)&&true)) (sl (Nat.beq t2.1 1) (some (b false,[])) (sl (Nat.beq t2.1 2) (some (b true,[])) none)) none))) none) none) none)
noncomputable def la6(x:List Pln)(y:List (List Pln))(z:List (List Pln)):Bool:=Q5 (one r1B) (Ha8 x y z)
noncomputable def la7(x:List Pln)(y:List (List Pln))(z:List (List Pln)):Bool:=okO (one r1B) (Ha8 x y z)
noncomputable def bc3:Sum:=Sc3 (ba7 tP) (ba7 (tLs tP)) (ba7 (tLs tP)) (λx y z=>.guard (la7 x y z) (.ret ((one r1B).enc (la6 x y z),[])))
theorem Lc8:e7 prog G 94 bc3:=Le3 (bd b94 Ec2) (one r1B) (o:=Ha8) λx y z=>Da7 (.s .p (.s .p (.s .p (.s (.s .p (.b (.u db1.ls))) .p)))) [db1.pr] (by kernel_rfl) (.cons xc1 .nil) (by kernel_rfl)
noncomputable def Lc9:List (Nat×Sum):=[(42,wb9)]
theorem Ec3:g9 prog G Lc9:=⟨Rb1,trivial⟩
noncomputable def Ha9(x:List (List Pln))(y:List Pln)(z:Bool):Option (a7×List a8):=let t1:=(da7 (rt (tLs tP) x) (rt tP y));(sl (okE (tLs tP) x) (sl (okE tP y) (sl (Ha6 (rt (tLs tP) x) (rt tP y)) (sl (t1.2==0) (some (b (t1.1==z),[])) (some (b false,[]))) none) none) none)
noncomputable def Ia0(x:List (List Pln))(y:List Pln)(z:Bool):Bool:=Q5 (one r1B) (Ha9 x y z)
noncomputable def la8(x:List (List Pln))(y:List Pln)(z:Bool):Bool:=okO (one r1B) (Ha9 x y z)
noncomputable def bc4:Sum:=Sc3 (ba7 (tLs tP)) (ba7 tP) cB (λx y z=>.guard (la8 x y z) (.ret ((one r1B).enc (Ia0 x y z),[])))
theorem Mc0:e7 prog G 54 bc4:=Le3 (bd b54 Ec3) (one r1B) (o:=Ha9) λx y z=>A7 (by kernel_rfl)
noncomputable def jd0:List (Nat×Sum):=[(47,wc8)]
theorem bd3:g9 prog G jd0:=⟨id7,trivial⟩
noncomputable def Ya5(x:List (List Pln))(y:List (List Pln))(z:Bool):Option (a7×List a8):=let t1:=(pb8 (rt (tLs tP) x) (rt (tLs tP) y));(sl (okE (tLs tP) x) (sl (okE (tLs tP) y) (sl (pb9 (rt (tLs tP) x) (rt (tLs tP) y)) (sl (t1.2==0) (some (b (t1.1==z),[])) (some (b false,[]))) none) none) none)
noncomputable def Ya6(x:List (List Pln))(y:List (List Pln))(z:Bool):Bool:=Q5 (one r1B) (Ya5 x y z)
noncomputable def O8(x:List (List Pln))(y:List (List Pln))(z:Bool):Bool:=okO (one r1B) (Ya5 x y z)
noncomputable def xc2:Sum:=Sc3 (ba7 (tLs tP)) (ba7 (tLs tP)) cB (λx y z=>.guard (O8 x y z) (.ret ((one r1B).enc (Ya6 x y z),[])))
theorem jd1:e7 prog G 53 xc2:=Le3 (bd b53 bd3) (one r1B) (o:=Ya5) λx y z=>A7 (by kernel_rfl)
noncomputable def Mc1:List (Nat×Sum):=[(93,bc2),(94,bc3),(54,bc4),(45,Fb3),(53,xc2),(49,eb9)]
theorem Ec4:g9 prog G Mc1:=⟨xc0,Lc8,Mc0,bc0,jd1,wb7,trivial⟩
noncomputable def Ia1  : Option (a7×List a8):=let t1:=(E9 0 0 0 1 1 1);let t2:=(E9 1 0 0 2 1 1);let t3:=(E9 0 0 0 2 1 1);let t4:=(E9 1 0 0 3 1 1);let t5:=(la6 (rt tP t3) [rt tP t4] [rt tP t1]);let t6:=(E9 0 0 0 3 1 1);let t7:=(E9 2 0 0 3 1 1);let t8:=(la6 (rt tP t6) [rt tP t2] [rt tP t1,rt tP t7]);let t9:=(la6 (rt tP t1) [] [rt tP t1]);let t10:=(la6 (rt tP t1) [rt tP t2] [rt tP t1]);let t11:=(Ia0 [rt tP t1,rt tP t2] (rt tP t3) true);let t12:=(Ia0 [rt tP t1] (rt tP t3) false);let t13:=(E9 0 1 0 1 2 1);let t14:=(sa1 (rt tP t1) [rt tP t2,rt tP t13]);let t15:=(Ya6 [rt tP t3] [rt tP t1,rt tP t2] true);let t16:=(Ya6 [rt tP t3] [rt tP t2] false);let t17:=(U4 [[],[],[],[],[],[],[],[],[],[],[],[],[],[],[],[],[]]);let t18:=(U4 [[(⟨(⟨2,0,0⟩:V3),1⟩:Pln)]]);let a0:=((okE tP t1)&&((okE tP t2)&&true));let a1:=((okE tP t2)&&((okE tP t13)&&true));let w0:Option (a7×List a8):=(sl a0 (sl (okE tP t3) (sl (la8 [rt tP t1,rt tP t2] (rt tP t3) true) (sl t11 (sl ((okE tP t1)&&true) (sl (okE tP t3) (sl (la8 [rt tP t1] (rt tP t3) false) (sl t12 (sl (E0 0 1 0 1 2 1) (sl (okE tP t1) (sl a1 (sl (sa2 (rt tP t1) [rt tP t2,rt tP t13]) (sl ((okE tP t3)&&true) (sl a0 (sl (O8 [rt tP t3] [rt tP t1,rt tP t2] true) (sl t15 (sl ((okE tP t3)&&true) (sl ((okE tP t2)&&true) (sl (O8 [rt tP t3] [rt tP t2] false) (some (b false,[])) none) none) none) (some (b false,[]))) none) none) none) none) none) none) none) (sl ((okE tP t3)&&true) (sl a0 (sl (O8 [rt tP t3] [rt tP t1,rt tP t2] true) (sl t15 (sl ((okE tP t3)&&true) (sl ((okE tP t2)&&true) (sl (O8 [rt tP t3] [rt tP t2] false) (some (b false,[])) none) none) none) (some (b false,[]))) none) none) none)) none) none) none) (sl ((okE tP t3)&&true) (sl a0 (sl (O8 [rt tP t3] [rt tP t1,rt tP t2] true) (sl t15 (sl ((okE tP t3)&&true) (sl ((okE tP t2)&&true) (sl (O8 [rt tP t3] [rt tP t2] false) (some (b false,[])) none) none) none) (some (b false,[]))) none) none) none)) none) none) none);let w1:Option (a7×List a8):=(sl ((okE tP t3)&&true) (sl a0 (sl (O8 [rt tP t3] [rt tP t1,rt tP t2] true) (sl t15 (sl ((okE tP t3)&&true) (sl ((okE tP t2)&&true) (sl (O8 [rt tP t3] [rt tP t2] false) (sl t10 (some (b false,[])) (some (b false,[]))) none) none) none) (sl t10 (some (b false,[])) (some (b false,[])))) none) none) none);(sl (E0 0 0 0 1 1 1) (sl (E0 1 0 0 2 1 1) (sl (E0 0 0 0 2 1 1) (sl (E0 1 0 0 3 1 1) (sl (okE tP t3) (sl ((okE tP t4)&&true) (sl ((okE tP t1)&&true) (sl (la7 (rt tP t3) [rt tP t4] [rt tP t1]) (sl t5 (sl (E0 0 0 0 3 1 1) (sl (E0 2 0 0 3 1 1) (sl (okE tP t6) (sl ((okE tP t2)&&true) (sl ((okE tP t1)&&((okE tP t7)&&true)) (sl (la7 (rt tP t6) [rt tP t2] [rt tP t1,rt tP t7]) (sl t8 (sl (okE tP t1) (sl ((okE tP t1)&&true) (sl (la7 (rt tP t1) [] [rt tP t1]) (sl t9 (sl (okE tP t1) (sl ((okE tP t2)&&true) (sl ((okE tP t1)&&true) (sl (la7 (rt tP t1) [rt tP t2] [rt tP t1]) (sl a0 (sl (okE tP t3) (sl (la8 [rt tP t1,rt tP t2] (rt tP t3) true) (sl t11 (sl ((okE tP t1)&&true) (sl (okE tP t3) (sl (la8 [rt tP t1] (rt tP t3) false) (sl t12 (sl (E0 0 1 0 1 2 1) (sl (okE tP t1) (sl a1 (sl (sa2 (rt tP t1) [rt tP t2,rt tP t13]) (sl ((okE tP t3)&&true) (sl a0 (sl (O8 [rt tP t3] [rt tP t1,rt tP t2] true) (sl t15 (sl ((okE tP t3)&&true) (sl ((okE tP t2)&&true) (sl (O8 [rt tP t3] [rt tP t2] false) (sl t10 (sl t14 (sl t16 (sl (U5 [[],[],[],[],[],[],[],[],[],[],[],[],[],[],[],[],[]]) (sl (t17==2) (sl (U5 [[(⟨(⟨2,0,0⟩:V3),1⟩:Pln)]]) (some (b (t18==12),[])) none) (some (b false,[]))) none) (some (b false,[]))) (some (b false,[]))) (some (b false,[]))) none) none) none) (sl t10 (sl t14 (some (b false,[])) (some (b false,[]))) (some (b false,[])))) none) none) none) none) none) none) none) w1) none) none) none) w1) none) none) none) none) none) none) none) w0) none) none) none) w0) none) none) none) none) none) none) w0) none) none) none) none) none) none) none) none)
noncomputable def Ya7  : Bool:=Q5 (one r1B) Ia1
noncomputable def Ya8  : Bool:=okO (one r1B) Ia1
noncomputable def bc5:Sum:=Ud7  (.guard Ya8 (.ret ((one r1B).enc Ya7,[])))
theorem Mc2:e7 prog G 37 bc5:=tf2 (bd b37 Ec4) (one r1B) (o:=Ia1) (A7 (by kernel_rfl))
structure qe3 where
 Cf9:List Pln
 (is8 j9 i5 k8:Int)
structure qe4 where
 is9:Int
noncomputable def jd2:List (Nat×Sum):=[(62,Nb1)]
theorem bd4:g9 prog G jd2:=⟨ic8,trivial⟩
noncomputable def qb0(x:List Pln):Option (a7×List a8):=let t1:=(Xa0 (rt tP x));(sl (okE tP x) (sl (Xa1 (rt tP x)) (some (.tup [i (W ((W ((W (t1.2.1.x-t1.1.x))*(W (t1.2.1.y-t1.1.y))))*(W (t1.2.1.z-t1.1.z)))),b t1.2.2],[])) none) none)
noncomputable def ia5(x:List Pln):Int×Bool:=Q5 (two r1I r1B) (qb0 x)
noncomputable def xa4(x:List Pln):Bool:=okO (two r1I r1B) (qb0 x)
noncomputable def xc3:Sum:=ca7 (ba7 tP) (λx=>.guard (xa4 x) (.ret ((two r1I r1B).enc (ia5 x),[])))
theorem jd3:e7 prog G 61 xc3:=Ta0 (bd b61 bd4) (two r1I r1B) (o:=qb0) λx=>A7 (by kernel_rfl)
noncomputable def Qd2:List (Nat×Sum):=[(93,bc2)]
theorem Ad6:g9 prog G Qd2:=⟨xc0,trivial⟩
noncomputable def xb2(x:B6):Option (a7×List a8):=let t1:=(E9 (W ((W (Int.tmod x.c0 9))-4)) (W ((W (Int.tmod x.c1 9))-4)) (W ((W (Int.tmod x.c2 9))-4)) (W ((W ((W ((W (Int.tmod x.c0 9))-4))+1))+(W (Int.tmod x.c3 5)))) (W ((W ((W ((W (Int.tmod x.c1 9))-4))+1))+(W (Int.tmod x.c4 5)))) (W ((W ((W ((W (Int.tmod x.c2 9))-4))+1))+(W (Int.tmod x.c5 5)))));(sl (E0 (W ((W (Int.tmod x.c0 9))-4)) (W ((W (Int.tmod x.c1 9))-4)) (W ((W (Int.tmod x.c2 9))-4)) (W ((W ((W ((W (Int.tmod x.c0 9))-4))+1))+(W (Int.tmod x.c3 5)))) (W ((W ((W ((W (Int.tmod x.c1 9))-4))+1))+(W (Int.tmod x.c4 5)))) (W ((W ((W ((W (Int.tmod x.c2 9))-4))+1))+(W (Int.tmod x.c5 5))))) (some (eL tP t1,[])) none)
noncomputable def db2(x:B6):List Pln:=Q5 (one (r1L tP)) (xb2 x)
noncomputable def db3(x:B6):Bool:=okO (one (r1L tP)) (xb2 x)
noncomputable def bd5:Sum:=ca7 (oa3 tS) (λx=>.guard (db3 x) (.ret ((one (r1L tP)).enc (db2 x),[])))
theorem Qd3:e7 prog G 60 bd5:=Ta0 (bd b60 Ad6) (one (r1L tP)) (o:=xb2) λx=>A7 (by kernel_rfl)
structure Mc(c:List Pln):Prop where
 g:Zc5 c
 l:c.length<=12
def phA(R:List (List a7)):Nat:=match R with
 |[]=>0
 |_::_=>1
structure RI(y:Nat)(t:Nat)(s:Lc7):Prop where
 t:t=phA s.eh0*2+1\/t=phA s.eh0*2+2
 n:s.ns5=s.eh0.length
 y:s.eh0.length<=y
 r:∀r∈s.eh0,(tLs tI).ok r=true
structure Ms(y:Nat)(s:List (List Pln)):Prop where
 n:s.length<=y
 c:∀c∈s,Mc c
structure RM(y:Nat)(t:Nat)(s:Ad4):Prop where
 h:∃O,(t=phL O*2+1\/t=phL O*2+2)/\s.eh0=bL (tLs tP) O/\s.ns5=O.length/\Ms y O
theorem qd4{x:List (List Pln)}{y:List Pln}{z:Bool}(hy:y.length<=1000000)(hn:x.length<=1000000)(hx:∀q∈x,q.length<=1000000):Ia0 x y z=((y8 x y).2==0&&(y8 x y).1==z)/\la8 x y z=true:=by
 have e:Ha9 x y z=some (b ((y8 x y).2==0&&(y8 x y).1==z),[]):=by
  unfold Ha9;simp only[i8,p7,wc6 hy hn hx,Pd7 hy hn hx,j5];cases (y8 x y).2==0<;>rfl
 unfold Ia0 la8;rw[e];exact⟨rfl,rfl⟩
theorem he4{x y:List (List Pln)}{z:Bool}(hx:x.length<=1000000)(hxl:∀q∈x,q.length<=1000000)(hy:y.length<=1000000)(hyl:∀q∈y,q.length<=1000000):Ya6 x y z=((nb4 x y).2==0&&(nb4 x y).1==z)/\O8 x y z=true:=by
 have e:Ya5 x y z=some (b ((nb4 x y).2==0&&(nb4 x y).1==z),[]):=by
  unfold Ya5;simp only[i8,p7,Re8 hx hxl hy hyl,Re9 hx hxl hy hyl,j5];cases (nb4 x y).2==0<;>rfl
 unfold Ya6 O8;rw[e];exact⟨rfl,rfl⟩
structure Bnd(n m:Nat)(ps:List (List Pln)):Prop where
 n:ps.length<=n
 m:∀x∈ps,x.length<=m
def Cov(s:List (List Pln))(c:List Pln):Prop:=ful c=true->∀z,Inr (c++ws) z->∃q∈s,ful q=true/\Inr (q++ws) z
theorem Cov.mono{s t:List (List Pln)}{c:List Pln}(h:Cov s c)(hs:∀q∈s,q∈t):Cov t c:=λhf z hz=>by
 obtain⟨q,hq,h2⟩:=h hf z hz;exact⟨q,hs q hq,h2⟩
theorem xc4{s:List (List Pln)}(hn:s.length<=16)(hs:∀q∈s,(chk q==0)=true):schk s=0:=by
 unfold schk;rw[if_neg (by omega),Qkr.2 λq hq=>by have:=hs q hq;rw[beq_iff_eq] at this;simp[this]]
open Classical in
theorem Zd5{s:List (List Pln)}{c:List Pln}{r:List (List Pln)}(hc:(chk c==0)=true)(hs:schk s=0)(hm:la4 c s=some r):y8 s c=(decide (Cov s c),0)/\Ma6 c s=(r,0):=by
 have e:Ma6 c s=(r,0):=by
  unfold Ma6;rw[beq_iff_eq] at hc;rw[hc,hs,hm];rfl
 refine⟨?_,e⟩;unfold y8;rw[e];have k:(((r.length:Nat):Int)==0)=decide (Cov s c):=by
  rw[Bool.eq_iff_iff,beq_iff_eq,decide_eq_true_eq];cases hf:ful c with
  |true =>
   have:=pe1 hf hm
   constructor
   ·intro h0 _;exact this.1 (Qkaj.1 (by omega))
   ·intro h;rw[this.2 (h hf)];rfl
  |false =>
   rw[pd8 hf] at hm;injection hm with hm;subst hm;exact⟨λ_ h=>(by rw[hf] at h;cases h),λ_=>rfl⟩
 rw[k];rfl
theorem Mc.chk{c:List Pln}(h:Mc c):(chk c==0)=true:=h.g.chk
theorem Mc.ful{c:List Pln}(h:Mc c):ful c=true:=h.g.ful
theorem Ms.schk{y:Nat}{s:List (List Pln)}(h:Ms y s)(hy:y<=16):schk s=0:=xc4 (Qki h.n hy) λq hq=>(h.c q hq).chk
theorem Zd6{c:List Pln}{s:List (List Pln)}(hc:(chk c==0)=true)(hs:∀q∈s,(chk q==0)=true):Ya4 c s=true↔∀q∈s,∀z,Ins (c++ws) z->Ins (q++ws) z->False:=by
 unfold Ya4;rw[Bool.not_eq_true',Qkae];constructor
 ·intro h q hq
  have:=h q hq
  exact (cb6 hc (hs q hq)).1 (by simpa using this)
 ·intro h q hq;rw[(cb6 hc (hs q hq)).2 (h q hq)]
  decide
theorem Se3{c:List Pln}{p:Pln}(hc:(chk c==0)=true)(hl:c.length<=47)(hp:okp p=true):(chk (c++[p])==0)=true:=by
 rw[beq_iff_eq,za7] at *
 refine⟨by rw[Qke];simp only[List.length_singleton];omega,λq hq=>?_⟩
 rcases Qkd.1 hq with h|h
 ·exact hc.2 q h
 ·rw[Qkf.1 h];exact hp
structure Und(c U:List Pln)(n:Nat)(ps:List (List Pln)):Prop where
 n:ps.length<=n
 d:∀x∈ps,x.Nodup/\(∀p∈x,p∈U)/\ful x=true/\∀z,Inr (x++ws) z->Inr (c++ws) z
theorem Ib9{x fs:List Pln}:∀j,j<=fs.length->∀p∈v7 x fs j,p∈x\/p∈fs
 |0,_,p,hp=>.inl hp
 |j+1,hj,p,hp=>by
  have hp:p∈lean (v7 x fs j++[gL tP fs j]):=hp
  rcases Qkd.1 (ga1 hp) with h|h
  ·exact Ib9 j (by omega) p h
  ·rw[Qkf.1 h];exact .inr (ga4 tP hj)
theorem Zd7{x fs:List Pln}(hx:x.Nodup):∀j,(v7 x fs j).Nodup
 |0=>hx
 |_+1=>Pb2 _
theorem Fe1{x fs U:List Pln}(hx:x.Nodup)(h1:∀p∈x,p∈U)(h2:∀p∈fs,p∈U)(hU:U.length<=47):ra9 x fs=true:=Qkk.2 λj hj=>decide_eq_true (by
 have:=Qkj.1 hj
 have:=ge4 (Zd7 hx j (fs:=fs)) λp hp=>(Ib9 j (by omega) p hp).elim (h1 p) (h2 p)
 omega)
theorem Qd4{x fs:List Pln}(hx:(chk x==0)=true)(hf:∀p∈fs,okp p=true){z0:Pt}(h1:Ins (x++ws) z0)(h2:Ins (fs++ws) z0)(h48:ra9 x fs=true){j:Nat}(hj:j<fs.length)(h:∀z,Inr (x++ws) z->0<=rmZ (gL tP fs j) z):sa5 x fs j=[]:=by
 apply Qkq;intro hne;obtain⟨c1,c2,c3⟩:=(Dc4 hx hf h1 h2 h48 hj).2 hne;obtain⟨_,z,hz⟩:=D9.1 c1;obtain⟨k1,k2⟩:=(c3 z).1 hz
 have:=h z (((pb6 hx hf h1 h2 h48 j (by omega)).2.1 z).1 k1.inr).1
 omega
theorem Fe2{x fs E:List Pln}(hn:fs.Nodup)(h:∀j,j<fs.length->gL tP fs j∉E->sa5 x fs j=[]):(Ca6 x fs fs.length).length<=E.length:=by
 classical
 unfold Ca6;have e1:((List.range fs.length).map (sa5 x fs)).filter (λc=>decide (0<c.length))=((List.range fs.length).filter λj=>decide (0<(sa5 x fs j).length)).map (sa5 x fs):=by
  rw[List.filter_map];rfl
 rw[e1,Qkw,<- Qkw (f:=gL tP fs)];refine ge4 ?_ λp hp=>?_
 ·refine List.pairwise_map.2 ((List.nodup_range.filter (λj=>decide (0<(sa5 x fs j).length))).imp_of_mem λ{a c} ha hc hne e=>hne ?_)
  have ha:=Qkj.1 (Qkal.1 ha).1;have hc:=Qkj.1 (Qkal.1 hc).1;have g:∀{i:Nat} (hi:i<fs.length),gL tP fs i=fs[i]:=λhi=>by simp[gL,Qkc,Qka hi]
  rw[g ha,g hc] at e;exact (List.getElem_inj hn).1 e
 ·obtain⟨j,hj,rfl⟩:=Qkai.1 hp;obtain⟨h1,h2⟩:=Qkal.1 hj;apply Qkq;intro hno;rw[h j (Qkj.1 h1) hno] at h2
  simp at h2
noncomputable def Fe3(c:List Pln):List Pln:=if ful c then c.foldl (Ma1 (pts c)) [] else []
theorem oc4:lean=Fe3:=by
 funext c;unfold lean Fe3;rw[Od5]
section
variable(L:List Pln->List Pln)
noncomputable def Qd5(x fs:List Pln):Nat->List Pln
 |0=>x
 |j+1=>L (Qd5 x fs j++[gL tP fs j])
noncomputable def hf5(x fs:List Pln)(j:Nat):List Pln:=L (Qd5 L x fs j++[U1 (gL tP fs j)])
noncomputable def hf6(x fs:List Pln)(j:Nat):List (List Pln):=((List.range j).map (hf5 L x fs)).filter λc=>decide (0<c.length)
noncomputable def Fe4(x fs:List Pln):Bool:=(List.range fs.length).all λj=>decide ((Qd5 L x fs j).length<48)
noncomputable def Se4(q x:List Pln):List (List Pln):=if apart x q then [x] else hf6 L x (L q) (L q).length
noncomputable def bd6(ps:List (List Pln))(q:List Pln):Option (List (List Pln)) :=
 if ful q then (if ps.all (λx=>apart x q||Fe4 L x (L q))&&decide ((ps.flatMap (Se4 L q)).length<=200) then some (ps.flatMap (Se4 L q)) else none) else some ps
noncomputable def Fe5(c:List Pln)(s:List (List Pln)):Option (List (List Pln)) :=
 s.foldl (λst q=>st.bind λps=>bd6 L ps q) (some (if ful c then [L c] else []))
end
theorem bd7(x fs:List Pln):∀j,Qd5 lean x fs j=v7 x fs j
 |0=>rfl
 |j+1=>by
  show lean (Qd5 lean x fs j++_)=lean (v7 x fs j++_);rw[bd7 x fs j]
theorem Se5:hf5 lean=sa5:=by funext x fs j;unfold hf5 sa5;rw[bd7]
theorem Se6:hf6 lean=Ca6:=by funext x fs j;unfold hf6 Ca6;rw[Se5]
theorem Fe6:Fe4 lean=ra9:=by funext x fs;unfold Fe4 ra9;simp only[bd7]
theorem Se7:Se4 lean=qa2:=by funext q x;unfold Se4 qa2;rw[Se6]
theorem Qd6:bd6 lean=E8:=by
 funext ps q;unfold bd6 E8;rw[Se7,Fe6];rfl
theorem Ja9:la4=Fe5 Fe3:=by
 funext c s;rw[<- oc4];unfold la4 Fe5;rw[Qd6]
noncomputable def bx(x y z u v w:Int):List Pln:=[⟨⟨1,0,0⟩,u⟩,⟨⟨-1,0,0⟩,-x⟩,⟨⟨0,1,0⟩,v⟩,⟨⟨0,-1,0⟩,-y⟩,⟨⟨0,0,1⟩,w⟩,⟨⟨0,0,-1⟩,-z⟩]
theorem ex1:la4 (bx 0 0 0 2 1 1) [bx 1 0 0 3 1 1]=some [lean (bx 0 0 0 1 1 1)]:=by rw[Ja9,oc4];kernel_rfl
theorem ex2:la4 (bx 0 0 0 3 1 1) [bx 1 0 0 2 1 1]=some [lean (bx 0 0 0 1 1 1),lean (bx 2 0 0 3 1 1)]:=by rw[Ja9,oc4];kernel_rfl
theorem ex3:la4 (bx 0 0 0 1 1 1) []=some [lean (bx 0 0 0 1 1 1)]:=by rw[Ja9,oc4];kernel_rfl
theorem ex4:la4 (bx 0 0 0 1 1 1) [bx 1 0 0 2 1 1]=some [lean (bx 0 0 0 1 1 1)]:=by rw[Ja9,oc4];kernel_rfl
theorem ex5:la4 (bx 0 0 0 2 1 1) [bx 0 0 0 1 1 1,bx 1 0 0 2 1 1]=some []:=by rw[Ja9];kernel_rfl
theorem ex6:la4 (bx 0 0 0 2 1 1) [bx 0 0 0 1 1 1]=some [lean (bx 1 0 0 2 1 1)]:=by rw[Ja9,oc4];kernel_rfl
theorem ex7:la4 (bx 0 0 0 1 1 1) [bx 0 0 0 2 1 1]=some []:=by rw[Ja9];kernel_rfl
theorem ex8:la4 (bx 1 0 0 2 1 1) [bx 0 0 0 2 1 1]=some []:=by rw[Ja9];kernel_rfl
theorem ex9:la4 (bx 0 0 0 2 1 1) [bx 1 0 0 2 1 1]=some [lean (bx 0 0 0 1 1 1)]:=by rw[Ja9,oc4];kernel_rfl
theorem exA:Ya4 (bx 0 0 0 1 1 1) [bx 1 0 0 2 1 1,bx 0 1 0 1 2 1]=true:=by kernel_rfl
theorem exC:chk (bx 0 0 0 1 1 1)=0/\chk (bx 1 0 0 2 1 1)=0/\chk (bx 0 0 0 2 1 1)=0/\chk (bx 0 0 0 3 1 1)=0/\chk (bx 1 0 0 3 1 1)=0:=by refine⟨?_,?_,?_,?_,?_⟩<;>kernel_rfl
theorem bx1:(E9 0 0 0 1 1 1=bx 0 0 0 1 1 1/\E0 0 0 0 1 1 1=true)/\(E9 1 0 0 2 1 1=bx 1 0 0 2 1 1/\E0 1 0 0 2 1 1=true)/\(E9 0 0 0 2 1 1=bx 0 0 0 2 1 1/\E0 0 0 0 2 1 1=true):=by refine⟨⟨?_,?_⟩,⟨?_,?_⟩,?_,?_⟩<;>kernel_rfl
theorem bx2:(E9 1 0 0 3 1 1=bx 1 0 0 3 1 1/\E0 1 0 0 3 1 1=true)/\(E9 0 0 0 3 1 1=bx 0 0 0 3 1 1/\E0 0 0 0 3 1 1=true)/\(E9 2 0 0 3 1 1=bx 2 0 0 3 1 1/\E0 2 0 0 3 1 1=true)/\E9 0 1 0 1 2 1=bx 0 1 0 1 2 1/\E0 0 1 0 1 2 1=true:=by refine⟨⟨?_,?_⟩,⟨?_,?_⟩,⟨?_,?_⟩,?_,?_⟩<;>kernel_rfl
theorem Ma7(x y z u v w:Int):(bx x y z u v w).length=6:=rfl
theorem Bb8{x:List Pln}{y z:List (List Pln)}(hx:chk x=0)(hy:schk y=0)(hm:la4 x y=some (z.map lean))(hz:∀c∈z,c.length<=1000)(hzn:z.length<=1000):la6 x y z=true/\la7 x y z=true:=by
 have hy':=pd7 hy;have hyl:∀q∈y,q.length<=1000000:=λq hq=>by have:=ad5 (hy'.2 q hq);omega
 have hxl:=ad5 hx;have e:Ma6 x y=(z.map lean,0):=by unfold Ma6;rw[hx,hy,hm];rfl
 have h:=lc8 (step:=qa4 ⟨z,z.map lean,(z.length:Int)⟩) (mk:=λj=>(⟨(j:Int)⟩:O7)) (c:=λ_=>false) (u:=1) (fin:=2) (tLs tP) z (by omega)
  (λj hj=>by
   have hc:=hz _ (ga4 (tLs tP) hj);have hll:=ac0 (gL (tLs tP) z j);have hg:gL (tLs tP) (z.map lean) j=lean (gL (tLs tP) z j):=by simp[gL,Qkc,Qka hj]
   have hj2:j<(z.map lean).length:=by rw[Qkw];exact hj
   have s1:=ef8 (lean (gL (tLs tP) z j)) (by omega);have s2:=ef9 (lean (gL (tLs tP) z j)) (by omega)
   have r1:=Qe8 (gL (tLs tP) z j) (by omega);have r2:=Qe9 (gL (tLs tP) z j) (by omega)
   simp only[qa4,la5,Int.toNat_natCast,i8,p7,hg,r1,r2,s1,s2,r8 hj (show z.length<=4611686018427387904 by omega),j5,L2,Qkan]
   rw[btD (l0 hj),bt (d9 hj2),bt (d9 hj)])
  (by simp only[qa4,la5];rw[bfD (D7 (Qkh _))]) 0 (Qkn _)
 rw[Qkz,show (z.any λ_=>false)=false by simp] at h
 have eo:Ha8 x y z=some (b true,[]):=by
  unfold Ha8;simp only[i8,p7,n9,Ad1 (x:=x) (y:=y) (by omega) (by omega) hyl,Ad2 (x:=x) (y:=y) (by omega) (by omega) hyl,e,j5,Qkb]
  rw[show (⟨0⟩:O7)=⟨((0:Nat):Int)⟩ from rfl,h]
  rw[show ((((z.map lean).length:Nat):Int) != (z.length:Int))=false by rw[Qkw];simp]
  simp only[Qkm,if_false,L2,pe3,pe4,j5,show ((0:Int) != 0)=false from rfl]
 unfold la6 la7;rw[eo];exact⟨rfl,rfl⟩
theorem Fe7{s:List (List Pln)}{c:List Pln}{r:List (List Pln)}(hc:chk c=0)(hs:schk s=0)(hm:la4 c s=some r):y8 s c=(((r.length:Nat):Int)==0,0):=by
 have e:Ma6 c s=(r,0):=by unfold Ma6;rw[hc,hs,hm];rfl
 unfold y8;rw[e];rfl
theorem Ic0:Ia1=some (b true,[]):=by
 obtain⟨⟨a1,a2⟩,⟨a3,a4⟩,a5,a6⟩:=bx1;obtain⟨⟨c1,c2⟩,⟨c3,c4⟩,⟨c5,c6⟩,c7,c8⟩:=bx2;obtain⟨k1,k2,k3,k4,k5⟩:=exC;have s1:∀{a:List Pln},chk a=0->schk [a]=0:=λh=>xc4 (by simp) (by simpa using h)
 have s2:∀{a c:List Pln},chk a=0->chk c=0->schk [a,c]=0:=λh h'=>xc4 (by simp) (by simpa using ⟨h,h'⟩)
 have l1:=Bb8 (z:=[bx 0 0 0 1 1 1]) k3 (s1 k5) ex1 (by simp[Ma7]) (by simp)
 have l2:=Bb8 (z:=[bx 0 0 0 1 1 1,bx 2 0 0 3 1 1]) k4 (s1 k2) ex2 (by simp[Ma7]) (by simp)
 have l3:=Bb8 (z:=[bx 0 0 0 1 1 1]) k1 (xc4 (s:=[]) (by simp) (by simp)) ex3 (by simp[Ma7]) (by simp)
 have l4:=Bb8 (z:=[bx 0 0 0 1 1 1]) k1 (s1 k2) ex4 (by simp[Ma7]) (by simp)
 have m1:=qd4 (x:=[bx 0 0 0 1 1 1,bx 1 0 0 2 1 1]) (y:=bx 0 0 0 2 1 1) (z:=true) (by simp[Ma7]) (by simp) (by simp[Ma7])
 have m2:=qd4 (x:=[bx 0 0 0 1 1 1]) (y:=bx 0 0 0 2 1 1) (z:=false) (by simp[Ma7]) (by simp) (by simp[Ma7])
 have m3:=he4 (x:=[bx 0 0 0 2 1 1]) (y:=[bx 0 0 0 1 1 1,bx 1 0 0 2 1 1]) (z:=true) (by simp) (by simp[Ma7]) (by simp) (by simp[Ma7])
 have m4:=he4 (x:=[bx 0 0 0 2 1 1]) (y:=[bx 1 0 0 2 1 1]) (z:=false) (by simp) (by simp[Ma7]) (by simp) (by simp[Ma7])
 have q1:=Fe7 k3 (s2 k1 k2) ex5;have q2:=Fe7 k3 (s1 k1) ex6;have q3:=Fe7 k1 (s1 k3) ex7;have q4:=Fe7 k2 (s1 k3) ex8;have q5:=Fe7 k3 (s1 k2) ex9;have i1:inR [bx 0 0 0 2 1 1] [bx 0 0 0 1 1 1,bx 1 0 0 2 1 1]=(true,0):=wc9 (by simp[q1])
 have i2:inR [bx 0 0 0 1 1 1,bx 1 0 0 2 1 1] [bx 0 0 0 2 1 1]=(true,0):=wc9 (by simp[q3,q4])
 have i3:inR [bx 0 0 0 2 1 1] [bx 1 0 0 2 1 1]=(false,0):=by
  have q5':y8 [bx 1 0 0 2 1 1] (bx 0 0 0 2 1 1)=(false,0):=q5;unfold inR;rw[List.find?_cons_of_pos (by rw[q5'];rfl)]
  exact q5'
 have e1:nb4 [bx 0 0 0 2 1 1] [bx 0 0 0 1 1 1,bx 1 0 0 2 1 1]=(true,0):=by unfold nb4;rw[s1 k3,s2 k1 k2,i1,i2];rfl
 have e2:nb4 [bx 0 0 0 2 1 1] [bx 1 0 0 2 1 1]=(false,0):=by unfold nb4;rw[s1 k3,s1 k2,i3];rfl
 rw[q1] at m1;rw[q2] at m2;rw[e1] at m3;rw[e2] at m4;have z1:U4 [[],[],[],[],[],[],[],[],[],[],[],[],[],[],[],[],[]]=2:=(ac8 (by simp) (by simp)).trans (by kernel_rfl)
 have z2:U5 [[],[],[],[],[],[],[],[],[],[],[],[],[],[],[],[],[]]=true:=ac9 (by simp) (by simp)
 have z3:U4 [[(⟨(⟨2,0,0⟩:V3),1⟩:Pln)]]=12:=(ac8 (by simp) (by simp)).trans (by kernel_rfl)
 have z4:U5 [[(⟨(⟨2,0,0⟩:V3),1⟩:Pln)]]=true:=ac9 (by simp) (by simp)
 have t1:=Pd8 (c:=bx 0 0 0 1 1 1) (s:=[bx 1 0 0 2 1 1,bx 0 1 0 1 2 1]) (by simp[Ma7]) (by simp) (by simp[Ma7])
 have t2:=Pd9 (c:=bx 0 0 0 1 1 1) (s:=[bx 1 0 0 2 1 1,bx 0 1 0 1 2 1]) (by simp[Ma7]) (by simp) (by simp[Ma7])
 rw[exA] at t1;unfold Ia1;simp only[a1,a2,a3,a4,a5,a6,c1,c2,c3,c4,c5,c6,c7,c8,i8,p7,Qkb,j5,l1.1,l1.2,l2.1,l2.2,l3.1,l3.2,l4.1,l4.2,m1.1,m1.2,m2.1,m2.2,m3.1,m3.2,m4.1,m4.2,z1,z2,z3,z4,t1,t2];rfl
theorem Zd8:Ya7=true:=by unfold Ya7;rw[Ic0];rfl
theorem Zd9:Ya8=true:=by unfold Ya8;rw[Ic0];rfl
def Ec5(c E:List Pln):List Pln:=c++(E++E.map U1)
theorem ec8{q:List Pln}(hq:ful q=true):∀p∈lean q,okp p=true:=λp hp=>kb1 (D9.1 hq).1 p (Qkg _ (ga1 hp))
theorem qe5 {c E x q : List Pln} (he : 1 ≤ E.length) (hU : (Ec5 c E).length ≤ 47) (hq : ful q = true) (hk : ∀ p ∈ q, p ∈ c ∨ p ∈ E) (hx : x.Nodup ∧ (∀ p ∈ x, p ∈ Ec5 c E) ∧ ful x = true ∧ ∀ z, Inr (x ++ ws) z → Inr (c ++ ws) z) :
  Ha4 q x=true/\(qa2 q x).length<=E.length/\∀y∈qa2 q x,y.Nodup/\(∀p∈y,p∈Ec5 c E)/\ful y=true/\∀z,Inr (y++ws) z->Inr (c++ws) z:=by
 obtain⟨x1,x2,x3,x4⟩:=hx;have hq2:∀p∈lean q,p∈Ec5 c E:=λp hp=>by
  unfold Ec5;rw[Qkd,Qkd];exact (hk p (ga1 hp)).elim .inl λh=>.inr (.inl h)
 have hroom:ra9 x (lean q)=true:=Fe1 x1 x2 hq2 hU;have hr:Ha4 q x=true:=by unfold Ha4;rw[hroom,Bool.or_true]
 have hok:=ge6 hq x3 hr;refine⟨hr,?_,λy hy=>?_⟩
 ·unfold qa2;cases ha:apart x q with
  |true=>rw[if_pos rfl];exact he
  |false =>
   rw[if_neg (by decide)]
   obtain⟨z0,z1,z2⟩:=ec6 x3 hq ha;exact Fe2 (Pb2 q) λj hj hn=>Qd4 (D9.1 x3).1 (ec8 hq) z1 ((Xa9 hq).2 z2) hroom hj λz hz=>(x4 z hz).h _ (Qkg _ ((hk _ (ga1 (ga4 tP hj))).resolve_right hn))
 ·obtain⟨k1,k2,_⟩:=hok.1 y hy;refine⟨?_,?_,k1,λz hz=>x4 z (k2 z hz)⟩
  ·unfold qa2 at hy
   split at hy
   ·rw[Qkf.1 hy];exact x1
   ·obtain⟨j,_,rfl,_⟩:=wb6.1 hy;exact Pb2 _
  ·unfold qa2 at hy;cases ha:apart x q with
   |true=>rw[ha,if_pos rfl] at hy;rw[Qkf.1 hy];exact x2
   |false =>
    rw[ha,if_neg (by decide)] at hy
    obtain⟨j,hj,rfl,hne⟩:=wb6.1 hy;obtain⟨z0,z1,z2⟩:=ec6 x3 hq ha;have hE:gL tP (lean q) j∈E:=by
     apply Qkq;intro hn;exact hne (Qd4 (D9.1 x3).1 (ec8 hq) z1 ((Xa9 hq).2 z2) hroom hj λz hz=>(x4 z hz).h _ (Qkg _ ((hk _ (ga1 (ga4 tP hj))).resolve_right hn)))
    intro p hp
    rcases Qkd.1 (ga1 (show p∈lean (v7 x (lean q) j++[U1 (gL tP (lean q) j)]) from hp)) with h|h
    ·exact (Ib9 j (by omega) p h).elim (x2 p) (hq2 p)
    ·rw[Qkf.1 h];unfold Ec5;rw[Qkd,Qkd];exact .inr (.inr (Qkai.2 ⟨_,hE,rfl⟩))
theorem Ad7{c:List Pln}{p:Pln}{q:Pln}:q∈c++[p]++ws↔q∈c++ws\/q=p:=by
 simp only[Qkd,Qkf];constructor
 ·rintro ((h|h)|h)
  ·exact .inl (.inl h)
  ·exact .inr h
  ·exact .inl (.inr h)
 ·rintro ((h|h)|h)
  ·exact .inl (.inl h)
  ·exact .inr h
  ·exact .inl (.inr h)
theorem he5{c:List Pln}{p:Pln}{z:Pt}:Inr (c++[p]++ws) z↔Inr (c++ws) z/\0<=rmZ p z:=by
 constructor
 ·intro h;exact⟨h.mono λq hq=>Ad7.2 (.inl hq),h.h p (Ad7.2 (.inr rfl))⟩
 ·rintro⟨h1,h2⟩;refine⟨h1.w,λq hq=>?_⟩
  rcases Ad7.1 hq with h|rfl
  ·exact h1.h q h
  ·exact h2
structure Qd7 where
 bs5:Bool
 p9:List Pln
 (Fc1 Za1 Ka1:List (List Pln))
 ae6:Int
structure Qd8 where
 xb7:Int
theorem Qd9(c:List Pln)(s:List (List Pln)):la4 c s=ab0 s (some (if ful c then [lean c] else [])):=rfl
theorem Se8{a c:List Pln}(ha:ful a=true)(hc:(chk c==0)=true)(h:∀z,Inr (a++ws) z->Inr (c++ws) z):lies a c=true:=by
 obtain⟨h1,h2,_⟩:=Zc4 ha;unfold lies;rw[ha,hc,Qkab,Qkab,Qkk];intro x hx;have hok:=ee4 x hx;rw[Re1 (λp hp=>Cc1 (kb1 hc p (Qkg _ hp))) hok]
 have hp:pts a=cor (a++ws):=by unfold pts;rw[if_pos h1]
 rw[hp] at hx;exact λp hp=>(h x (Zd0 h2 x hx).toInr).h p (Qkg _ hp)
structure Df2(own:List Pln)(s r:List (List Pln)):Prop where
 m:Ma6 own s=(r,0)
 n:r.length<=144
 l:∀x∈r,x.length<=37
 full:∀x∈r,ful x=true
 lies:∀x∈r,Ce.lies x own=true
 off:∀x∈r,Ya4 x s=true
 dis:∀j,j<r.length->Ya4 (gL (tLs tP) r j) (r.take j)=true
 all:(s++r).length<=16->y8 (s++r) own=(true,0)
 self:r.length<=16->(y8 r own).2=9\/((y8 r own).2=0/\(y8 r own).1=Ya4 own s)
theorem Rd0{α:Type}(t:Ty α)(l:List α){n:Nat}(h:n=l.length):lsL t n (λk=>i6 (bL t l) k)=l/\okL t n (λk=>i6 (bL t l) k)=true:=by
 subst h;exact⟨lc5 t rfl λk hk=>by rw[ba2 t hk],Kb6 t (f:=λk=>gL t l k) λk hk=>by rw[ba2 t hk]⟩
theorem Se9{α:Type}(l:List α):app [] l=l:=rfl
structure HvF(c:List Pln)(p q:Pln):Prop where
 a:nb4 [c] [c++[p],c++[U1 p]]=(true,0)
 a':nb4 [c++[p],c++[U1 p]] [c]=(true,0)
 h:y8 [c++[p]] c=(!ful (c++[U1 p]),0)
 h':y8 [c++[U1 p]] c=(!ful (c++[p]),0)
 s:nb4 [c++[U1 p],c++[p]++[q],c++[p]++[U1 q]] [c++[p],c++[U1 p]]=(true,0)
 v:y8 [c++[U1 p],c++[p]++[q],c++[p]++[U1 q]] c=(true,0)
 d:apart (c++[p]) (c++[U1 p])=true
instance decV3:DecidableEq V3:=λ⟨a,c,d⟩ ⟨a',c',d'⟩=>decidable_of_iff (a=a'/\c=c'/\d=d') (by simp)
def axs:List V3:=[⟨1,0,0⟩,⟨-1,0,0⟩,⟨0,1,0⟩,⟨0,-1,0⟩,⟨0,0,1⟩,⟨0,0,-1⟩]
def Ax(c:List Pln):Prop:=∀p∈c,p.n∈axs
theorem Ax.app{c d:List Pln}(h:Ax c)(h':Ax d):Ax (c++d):=λp hp=>(Qkd.1 hp).elim (h p) (h' p)
theorem Ax.one{p:Pln}(h:p.n∈axs):Ax [p]:=λq hq=>by rw[Qkf.1 hq];exact h
theorem Ax.sub{c d:List Pln}(h:Ax c)(hs:∀p∈d,p∈c):Ax d:=λp hp=>h p (hs p hp)
theorem Fe8:Ax ws:=by
 intro p hp;simp only[ws,Qkp,Qko,or_false] at hp
 rcases hp with rfl|rfl|rfl|rfl|rfl|rfl<;>simp[axs]
theorem Oc4{p:Pln}(h:p.n∈axs):(U1 p).n∈axs:=by
 obtain⟨n,c⟩:=p;simp only[axs,Qkp,Qko,or_false] at h
 rcases h with rfl|rfl|rfl|rfl|rfl|rfl<;>simp[U1,axs]
def mb(n:V3)(l:List Pln):Int:=l.foldl (λm p=>if p.n=n/\p.b<m then p.b else m) 24
theorem he6(n:V3)(l:List Pln)(p:Pln):mb n (l++[p])=if p.n=n/\p.b<mb n l then p.b else mb n l:=by unfold mb;rw[Qkaf];rfl
theorem ae0{n:V3}(l:List Pln){p:Pln}(h:p.n≠n):mb n (l++[p])=mb n l:=by rw[he6,if_neg λk=>h k.1]
theorem Oc5 (n : V3) : ∀ (l : List Pln) (m : Int), let r := l.foldl (fun m p => if p.n = n ∧ p.b < m then p.b else m) m
  r<=m/\(∀p∈l,p.n=n->r<=p.b)/\(r=m\/∃p∈l,p.n=n/\p.b=r)
 |[],m=>⟨Int.le_refl _,λp hp=>by simp at hp,.inl rfl⟩
 |p::l,m=>by
  obtain⟨h1,h2,h3⟩:=Oc5 n l (if p.n=n/\p.b<m then p.b else m)
  refine⟨?_,λq hq hn=>?_,?_⟩
  ·refine Int.le_trans h1 ?_;split
   ·rename_i h;omega
   ·exact Int.le_refl _
  ·rcases Qkp.1 hq with rfl|hq
   ·refine Int.le_trans h1 ?_;split
    ·exact Int.le_refl _
    ·rename_i h
     have:¬ q.b<m:=λk=>h ⟨hn,k⟩
     omega
   ·exact h2 q hq hn
  ·rcases h3 with h3|⟨q,hq,hn,hb⟩
   ·by_cases h:p.n=n/\p.b<m
    ·rw[if_pos h] at h3;refine .inr ⟨p,by simp,h.1,?_⟩
     show p.b=l.foldl _ (if p.n=n/\p.b<m then p.b else m)
     rw[if_pos h];exact h3.symm
    ·rw[if_neg h] at h3;refine .inl ?_;show l.foldl _ (if p.n=n/\p.b<m then p.b else m)=m
     rw[if_neg h];exact h3
   ·exact .inr ⟨q,List.mem_cons_of_mem _ hq,hn,hb⟩
theorem sf4(n:V3)(l:List Pln):mb n l<=24:=(Oc5 n l 24).1
theorem Ze2{n:V3}{l:List Pln}{p:Pln}(hp:p∈l)(hn:p.n=n):mb n l<=p.b:=(Oc5 n l 24).2.1 p hp hn
theorem hf7{n:V3}(hn:n∈axs):(⟨n,24⟩:Pln)∈ws:=by
 simp only[axs,Qkp,Qko,or_false] at hn;unfold ws
 rcases hn with rfl|rfl|rfl|rfl|rfl|rfl<;>simp
theorem sa3{n:V3}(hn:n∈axs)(l:List Pln):(⟨n,mb n l⟩:Pln)∈l++ws:=by
 rcases (Oc5 n l 24).2.2 with h|⟨p,hp,h1,h2⟩
 ·have h:mb n l=24:=h;rw[h];exact List.mem_append_right _ (hf7 hn)
 ·have h2:p.b=mb n l:=h2;rw[<- h2,<- h1];exact Qkg _ hp
theorem ae1{n:V3}{l:List Pln}{p:Pln}(hp:p∈l++ws)(hn:p.n=n):mb n l<=p.b:=by
 rcases Qkd.1 hp with h|h
 ·exact Ze2 h hn
 ·have : p.b = 24 := by
   simp only[ws,Qkp,Qko,or_false] at h
   rcases h with rfl|rfl|rfl|rfl|rfl|rfl<;>rfl
  rw[this];exact sf4 n l
def hiV(c:List Pln):V3:=⟨mb ⟨1,0,0⟩ c,mb ⟨0,1,0⟩ c,mb ⟨0,0,1⟩ c⟩
def loV(c:List Pln):V3:=⟨-mb ⟨-1,0,0⟩ c,-mb ⟨0,-1,0⟩ c,-mb ⟨0,0,-1⟩ c⟩
def wx(c:List Pln):Int:=mb ⟨1,0,0⟩ c+mb ⟨-1,0,0⟩ c
def wy(c:List Pln):Int:=mb ⟨0,1,0⟩ c+mb ⟨0,-1,0⟩ c
def wz(c:List Pln):Int:=mb ⟨0,0,1⟩ c+mb ⟨0,0,-1⟩ c
structure Wid(c:List Pln):Prop where
 x:0<wx c
 y:0<wy c
 z:0<wz c
theorem Jb0{P:V3->Prop}{n:V3}(hn:n∈axs)(h1:P ⟨1,0,0⟩)(h2:P ⟨-1,0,0⟩)(h3:P ⟨0,1,0⟩)(h4:P ⟨0,-1,0⟩)(h5:P ⟨0,0,1⟩)(h6:P ⟨0,0,-1⟩):P n:=by
 simp only[axs,Qkp,Qko,or_false] at hn
 rcases hn with rfl|rfl|rfl|rfl|rfl|rfl
 ·exact h1
 ·exact h2
 ·exact h3
 ·exact h4
 ·exact h5
 ·exact h6
theorem Bb9:(⟨1,0,0⟩:V3)∈axs/\(⟨-1,0,0⟩:V3)∈axs/\(⟨0,1,0⟩:V3)∈axs/\(⟨0,-1,0⟩:V3)∈axs/\(⟨0,0,1⟩:V3)∈axs/\(⟨0,0,-1⟩:V3)∈axs:=by decide
structure InB(lo hi:V3)(x:Pt):Prop where
 x1:lo.x*x.pw<=x.px
 x2:x.px<=hi.x*x.pw
 y1:lo.y*x.pw<=x.py
 y2:x.py<=hi.y*x.pw
 z1:lo.z*x.pw<=x.pz
 z2:x.pz<=hi.z*x.pw
theorem xc5{c:List Pln}(hc:Ax c){z:Pt}:Inr (c++ws) z↔0<z.pw/\InB (loV c) (hiV c) z:=by
 obtain⟨m1,m2,m3,m4,m5,m6⟩:=Bb9;constructor
 ·intro h;have h1:=h.h _ (sa3 m1 c);have h2:=h.h _ (sa3 m2 c);have h3:=h.h _ (sa3 m3 c);have h4:=h.h _ (sa3 m4 c);have h5:=h.h _ (sa3 m5 c);have h6:=h.h _ (sa3 m6 c);simp only[rmZ] at h1 h2 h3 h4 h5 h6;refine⟨h.w,?_,?_,?_,?_,?_,?_⟩<;>simp only[loV,hiV,Int.neg_mul]<;>omega
 ·rintro⟨hw,⟨x1,x2,y1,y2,z1,z2⟩⟩;refine⟨hw,λp hp=>?_⟩
  have hn:p.n∈axs:=(Qkd.1 hp).elim (hc p) (Fe8 p);have hm:mb p.n c*z.pw<=p.b*z.pw:=Int.mul_le_mul_of_nonneg_right (ae1 hp rfl) (Int.le_of_lt hw);obtain⟨n,e⟩:=p
  simp only at hn hm
  simp only[loV,hiV,Int.neg_mul] at x1 x2 y1 y2 z1 z2;simp only[rmZ];generalize e*z.pw=ew at hm ⊢
  revert hm
  refine Jb0 (P:=λn=>mb n c*z.pw<=ew->0<=ew-(n.x*z.px+n.y*z.py+n.z*z.pz)) hn ?_ ?_ ?_ ?_ ?_ ?_<;>intro hm<;>simp only<;>omega
theorem Ad8{c:List Pln}{z:Pt}(h:Ins (c++ws) z):Wid c:=by
 obtain⟨m1,m2,m3,m4,m5,m6⟩:=Bb9;have h1:=h.h _ (sa3 m1 c);have h2:=h.h _ (sa3 m2 c);have h3:=h.h _ (sa3 m3 c);have h4:=h.h _ (sa3 m4 c);have h5:=h.h _ (sa3 m5 c);have h6:=h.h _ (sa3 m6 c);simp only[rmZ] at h1 h2 h3 h4 h5 h6;have hw:=h.w;have key:∀{a e:Int},0<a*z.pw+e*z.pw->0<a+e:=λ{a e} k=>by
  rw[<- Qkaa] at k;exact Int.pos_of_mul_pos_left k hw
 refine⟨?_,?_,?_⟩
 ·exact key (by omega)
 ·exact key (by omega)
 ·exact key (by omega)
theorem Ec6{c:List Pln}(hc:Ax c)(h:Wid c):∃z,Ins (c++ws) z:=by
 obtain⟨h1,h2,h3⟩:=h;unfold wx at h1;unfold wy at h2;unfold wz at h3;refine⟨⟨(hiV c).x+(loV c).x,(hiV c).y+(loV c).y,(hiV c).z+(loV c).z,2⟩,(by decide:(0:Int)<2),λp hp=>?_⟩
 have hn:p.n∈axs:=(Qkd.1 hp).elim (hc p) (Fe8 p);have hm:mb p.n c<=p.b:=ae1 hp rfl;obtain⟨n,e⟩:=p
 simp only at hn hm
 simp only[rmZ,loV,hiV]
 revert hm
 refine Jb0 (P:=λn=>mb n c<=e->0<e*2-(n.x*(mb ⟨1,0,0⟩ c+-mb ⟨-1,0,0⟩ c)+n.y*(mb ⟨0,1,0⟩ c+-mb ⟨0,-1,0⟩ c)+n.z*(mb ⟨0,0,1⟩ c+-mb ⟨0,0,-1⟩ c))) hn ?_ ?_ ?_ ?_ ?_ ?_<;>intro hm<;>simp only<;>omega
theorem fb1{c d:List Pln}(hc:Ax c)(hw:Wid c)(h:∀z,Inr (c++ws) z->Inr (d++ws) z){n:V3}(hn:n∈axs):mb n c<=mb n d:=by
 obtain⟨h1,h2,h3⟩:=hw;unfold wx at h1;unfold wy at h2;unfold wz at h3;have hH:Inr (d++ws) ⟨(hiV c).x,(hiV c).y,(hiV c).z,1⟩:=h _ ((xc5 hc).2 ⟨Int.one_pos,by constructor<;>simp only[loV,hiV]<;>omega⟩)
 have hL:Inr (d++ws) ⟨(loV c).x,(loV c).y,(loV c).z,1⟩:=h _ ((xc5 hc).2 ⟨Int.one_pos,by constructor<;>simp only[loV,hiV]<;>omega⟩)
 have k1:=hH.h _ (sa3 hn d);have k2:=hL.h _ (sa3 hn d)
 revert k1 k2
 simp only[rmZ,loV,hiV];refine Jb0 (P:=λn=>0<=mb n d*1-(n.x*mb ⟨1,0,0⟩ c+n.y*mb ⟨0,1,0⟩ c+n.z*mb ⟨0,0,1⟩ c)->0<=mb n d*1-(n.x*-mb ⟨-1,0,0⟩ c+n.y*-mb ⟨0,-1,0⟩ c+n.z*-mb ⟨0,0,-1⟩ c)->mb n c<=mb n d) hn ?_ ?_ ?_ ?_ ?_ ?_<;>intro k1 k2<;>simp only at k1 k2<;>omega
def wdt(x:Int):Int:=if 0<x then x else 0
def vol(c:List Pln):Int:=wdt (wx c)*(wdt (wy c)*wdt (wz c))
theorem Ec7(x:Int):0<=wdt x:=by unfold wdt;split<;>omega
theorem Pb3(c:List Pln):0<=vol c:=Int.mul_nonneg (Ec7 _) (Int.mul_nonneg (Ec7 _) (Ec7 _))
theorem oc5{c:List Pln}(h:¬ Wid c):vol c=0:=by
 unfold vol wdt;by_cases h1:0<wx c
 ·by_cases h2:0<wy c
  ·by_cases h3:0<wz c
   ·exact (h ⟨h1,h2,h3⟩).elim
   ·rw[if_neg h3];simp
  ·rw[if_neg h2];simp
 ·rw[if_neg h1];simp
theorem he7{c:List Pln}(h:Wid c):vol c=wx c*(wy c*wz c):=by
 unfold vol wdt;rw[if_pos h.x,if_pos h.y,if_pos h.z]
theorem Te0{c:List Pln}(h:Wid c):1<=vol c:=by
 rw[he7 h]
 have:=Int.mul_pos h.x (Int.mul_pos h.y h.z)
 omega
theorem he8{c d:List Pln}(hc:Ax c)(h:Wid c)(hs:∀z,Inr (c++ws) z->Inr (d++ws) z):Wid d:=by
 obtain⟨m1,m2,m3,m4,m5,m6⟩:=Bb9;have k1:=fb1 hc h hs m1;have k2:=fb1 hc h hs m2;have k3:=fb1 hc h hs m3;have k4:=fb1 hc h hs m4;have k5:=fb1 hc h hs m5;have k6:=fb1 hc h hs m6;obtain⟨h1,h2,h3⟩:=h;unfold wx at h1;unfold wy at h2;unfold wz at h3;refine⟨?_,?_,?_⟩
 ·unfold wx;omega
 ·unfold wy;omega
 ·unfold wz;omega
theorem ec9{c d:List Pln}(hc:Ax c)(hd:Ax d)(h:∀z,Inr (c++ws) z↔Inr (d++ws) z):vol c=vol d:=by
 by_cases hw:Wid c
 ·have hw':=he8 hc hw λz=>(h z).1
  have e:∀n∈axs,mb n c=mb n d:=λn hn=>Int.le_antisymm (fb1 hc hw (λz=>(h z).1) hn) (fb1 hd hw' (λz=>(h z).2) hn)
  obtain⟨m1,m2,m3,m4,m5,m6⟩:=Bb9;unfold vol wx wy wz;rw[e _ m1,e _ m2,e _ m3,e _ m4,e _ m5,e _ m6]
 ·by_cases hw':Wid d
  ·exact (hw (he8 hd hw' λz=>(h z).2)).elim
  ·rw[oc5 hw,oc5 hw']
theorem Te1{a e x:Int}:wdt ((if x<a then x else a)+e)+wdt (a+(if -x<e then -x else e))=wdt (a+e):=by
 unfold wdt
 repeat' split
 all_goals omega
theorem Te2{c:List Pln}{p:Pln}(hp:p.n∈axs):vol (c++[p])+vol (c++[U1 p])=vol c:=by
 obtain⟨n,x⟩:=p
 simp only at hp
 have fl:∀(n:V3) (x:Int),U1 ⟨n,x⟩=⟨⟨-n.x,-n.y,-n.z⟩,-x⟩:=λ_ _=>rfl
 have s1:∀{m n:V3} {x:Int},m≠n->mb n (c++[⟨m,x⟩])=mb n c:=λh=>ae0 c h
 have s2:∀(n:V3) (x:Int),mb n (c++[⟨n,x⟩])=if x<mb n c then x else mb n c:=λn x=>by rw[he6];simp
 have cut:=λ(a e:Int)=>Te1 (a:=a) (e:=e) (x:=x)
 have cut2:∀a e:Int,wdt (e+(if x<a then x else a))+wdt ((if -x<e then -x else e)+a)=wdt (e+a):=λa e=>by
  have:=cut a e
  rw[Int.add_comm e,Int.add_comm _ a,Int.add_comm e a];exact this
 refine Jb0 (P:=λn=>vol (c++[⟨n,x⟩])+vol (c++[U1 ⟨n,x⟩])=vol c) hp ?_ ?_ ?_ ?_ ?_ ?_
 ·rw[fl];unfold vol wx wy wz;simp only[Qkt,Int.neg_zero];rw[s2,s2,s1 (by decide),s1 (by decide),s1 (by decide),s1 (by decide),s1 (by decide),s1 (by decide),s1 (by decide),s1 (by decide),s1 (by decide),s1 (by decide),<- Qkaa,cut]
 ·rw[fl];unfold vol wx wy wz;simp only[Qkt,Int.neg_zero];rw[s2,s2,s1 (by decide),s1 (by decide),s1 (by decide),s1 (by decide),s1 (by decide),s1 (by decide),s1 (by decide),s1 (by decide),s1 (by decide),s1 (by decide),<- Qkaa,cut2]
 ·rw[fl];unfold vol wx wy wz;simp only[Qkt,Int.neg_zero];rw[s2,s2,s1 (by decide),s1 (by decide),s1 (by decide),s1 (by decide),s1 (by decide),s1 (by decide),s1 (by decide),s1 (by decide),s1 (by decide),s1 (by decide),<- Qku,<- Qkaa,cut]
 ·rw[fl];unfold vol wx wy wz;simp only[Qkt,Int.neg_zero];rw[s2,s2,s1 (by decide),s1 (by decide),s1 (by decide),s1 (by decide),s1 (by decide),s1 (by decide),s1 (by decide),s1 (by decide),s1 (by decide),s1 (by decide),<- Qku,<- Qkaa,cut2]
 ·rw[fl];unfold vol wx wy wz;simp only[Qkt,Int.neg_zero];rw[s2,s2,s1 (by decide),s1 (by decide),s1 (by decide),s1 (by decide),s1 (by decide),s1 (by decide),s1 (by decide),s1 (by decide),s1 (by decide),s1 (by decide),<- Qku,<- Qku,cut]
 ·rw[fl];unfold vol wx wy wz;simp only[Qkt,Int.neg_zero];rw[s2,s2,s1 (by decide),s1 (by decide),s1 (by decide),s1 (by decide),s1 (by decide),s1 (by decide),s1 (by decide),s1 (by decide),s1 (by decide),s1 (by decide),<- Qku,<- Qku,cut2]
end Go.Ev.Ce
