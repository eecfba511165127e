/- Own work. -/
import Derived.Test.YtkfaiccnekeklaaGreatEvOaDM
set_option linter.all false
def Qia:=@List.mem_cons
def Qib:=@List.mem_cons_of_mem
def Qic:=@List.mem_cons_self
def Qid:=@Int.le_of_lt
def Qie:=@Bool.and_eq_true
def Qif:=@Bool.and_true
def Qig:=@Int.mul_nonneg
def Qih:=@Nat.beq_refl
def Qii:=@Int.natCast_dvd_natCast
def Qij:=@Int.mul_eq_zero
def Qik:=@Nat.gcd_dvd_right
def Qil:=@Int.mul_pos
def Qim:=@List.pairwise_cons
def Qin:=@Int.mul_le_mul_of_nonneg_right
def Qio:=@Nat.zero_add
def Qip:=@List.all_eq_true
def Qiq:=@List.length_take
def Qir:=@List.getD_eq_getElem?_getD
def Qis:=@Nat.gcd_pos_of_pos_right
def Qit:=@Int.dvd_natAbs
def Qiu:=@Nat.dvd_trans
def Qiv:=@Nat.lt_irrefl
def Qiw:=@Nat.gcd_dvd_left
def Qix:=@Eq.trans
def Qiy:=@List.drop_zero
def Qiz:=@Nat.zero_le
def Qiaa:=@List.length_append
def Qiab:=@Bool.not_eq_true'
def Qiac:=@List.findIdx_cons
def Qiad:=@List.not_mem_nil
def Qiae:=@List.length_drop
def Qiaf:=@Int.zero_mul
def Qiag:=@List.mem_append
def Qiah:=@List.length_set
namespace Go.Ev.Ce
open Go Go.Ev Go.Ev.L Go.Proofs
set_option maxRecDepth 100000
noncomputable def Ua3:List (Nat×Sum):=[(44,cb1),(45,Gb3),(77,Ya2),(78,kc8),(47,Xb5),(48,Ja8),(46,qa2)]
theorem Sc6:k8 prog G Ua3:=⟨rb5,tc9,ub8,cd2,Sc1,qb0,ta2,trivial⟩
structure S7 where
 (is3 is4 is9 C9 lb8 M9 Ic0:Int)
 (c9 g9:List V3)
structure D8 where
 ph:Nat
 F5:Int
 eh4:List (List b7)
 E7:Nat
 eh5:List (List b7)
noncomputable def vb4(p:S7)(s:D8):St:=⟨.unk::.ptr 0 0 0 0::.unk::i p.is3::i p.is4::ra 4 (i p.is9::i p.C9::ra 5 (i p.lb8::i p.M9::ra 5 (i p.Ic0::i s.F5::ra 35 (i 0::.unk::.ptr 1 0 0 0::.v (.slice none 0 0)::i 0::.unk::.ptr 2 0 0 0::.ptr 3 0 0 0::ra 28 [])))),[⟨0,1,[[eL tV p.c9]],true,false,0⟩,⟨0,1,[[eL tV p.g9]],true,false,0⟩,⟨0,0,[[.ptr 4 0 0 0]],true,false,0⟩,⟨0,0,[[.v (.slice none 0 0)]],true,false,0⟩,⟨76,0,s.eh4,true,false,0⟩]⟩
noncomputable def vb5(p:S7)(s:D8):St:=⟨.unk::.ptr 0 0 0 0::.unk::i p.is3::i p.is4::ra 4 (i p.is9::i p.C9::ra 5 (i p.lb8::i p.M9::ra 5 (i p.Ic0::i s.F5::ra 35 (i 0::.unk::.ptr 1 0 0 0::.v (.slice none 0 0)::i 0::.unk::.ptr 2 0 0 0::.ptr 3 0 0 0::ra 28 [])))),[⟨0,1,[[eL tV p.c9]],true,false,0⟩,⟨0,1,[[eL tV p.g9]],true,false,0⟩,⟨0,0,[[.ptr 4 0 0 0]],true,false,0⟩,⟨0,0,[[.sl 5 0 s.E7 0]],true,false,0⟩,⟨76,0,s.eh4,true,false,0⟩,⟨60,4,s.eh5,true,false,0⟩]⟩
noncomputable def Dc6(p:S7)(s:D8):St:=(sel (Nat.beq s.ph 1) (vb5 p s) (vb4 p s))
noncomputable def W5{α:Type}(k:D8->α)(e:Nat->α)(z:α)(p:S7)(s:D8):α:=let t1:=(K8 (gL tV p.c9 s.F5.toNat) (gL tV p.c9 p.is4.toNat) (gL tV p.c9 p.is3.toNat));let t2:=(Ca1 t1.1);let t3:=(ha0 (rt tV p.g9) t2);let t4:=(ha0 (rt tV p.g9) t1.1);(sl (decide (s.F5<p.Ic0)) (sl (inB s.F5 (List.length p.c9)) (sl (inB p.is4 (List.length p.c9)) (sl (inB p.is3 (List.length p.c9)) (sl (ka7 (gL tV p.c9 s.F5.toNat) (gL tV p.c9 p.is4.toNat) (gL tV p.c9 p.is3.toNat)) (sl t1.2 (sl t1.2 (sl (eb7 4 [(0,.int .i64),(1,.int .i64),(2,.int .i64),(3,.int .i64)] [i t1.1.n.x,i t1.1.n.y,i t1.1.n.z,i t1.1.b] s.eh4) (sl (eb7 4 [(0,.int .i64),(1,.int .i64),(2,.int .i64),(3,.int .i64)] [i t2.n.x,i t2.n.y,i t2.n.z,i t2.b] s.eh4) (k ⟨0,W (s.F5+1),s.eh4,0,[]⟩) (sl (okE tV p.g9) (sl (L0 (rt tV p.g9) t2) (sl (!t3) (k ⟨1,W (s.F5+1),ia1 [(0,.int .i64),(1,.int .i64),(2,.int .i64),(3,.int .i64)] [i t2.n.x,i t2.n.y,i t2.n.z,i t2.b] [i t2.n.x,i t2.n.y,i t2.n.z,i t2.b,b true] s.eh4,1,[[i t2.n.x,i t2.n.y,i t2.n.z,i t2.b]]⟩) (k ⟨0,W (s.F5+1),ia1 [(0,.int .i64),(1,.int .i64),(2,.int .i64),(3,.int .i64)] [i t2.n.x,i t2.n.y,i t2.n.z,i t2.b] [i t2.n.x,i t2.n.y,i t2.n.z,i t2.b,b true] s.eh4,0,[]⟩)) z) z)) (sl (okE tV p.g9) (sl (L0 (rt tV p.g9) t1.1) (sl (!t4) (sl (eb7 4 [(0,.int .i64),(1,.int .i64),(2,.int .i64),(3,.int .i64)] [i t2.n.x,i t2.n.y,i t2.n.z,i t2.b] (ia1 [(0,.int .i64),(1,.int .i64),(2,.int .i64),(3,.int .i64)] [i t1.1.n.x,i t1.1.n.y,i t1.1.n.z,i t1.1.b] [i t1.1.n.x,i t1.1.n.y,i t1.1.n.z,i t1.1.b,b true] s.eh4)) (k ⟨1,W (s.F5+1),ia1 [(0,.int .i64),(1,.int .i64),(2,.int .i64),(3,.int .i64)] [i t1.1.n.x,i t1.1.n.y,i t1.1.n.z,i t1.1.b] [i t1.1.n.x,i t1.1.n.y,i t1.1.n.z,i t1.1.b,b true] s.eh4,1,[[i t1.1.n.x,i t1.1.n.y,i t1.1.n.z,i t1.1.b]]⟩) (sl (okE tV p.g9) (sl (L0 (rt tV p.g9) t2) (sl (!t3) (k ⟨1,W (s.F5+1),ia1 [(0,.int .i64),(1,.int .i64),(2,.int .i64),(3,.int .i64)] [i t2.n.x,i t2.n.y,i t2.n.z,i t2.b] [i t2.n.x,i t2.n.y,i t2.n.z,i t2.b,b true] (ia1 [(0,.int .i64),(1,.int .i64),(2,.int .i64),(3,.int .i64)] [i t1.1.n.x,i t1.1.n.y,i t1.1.n.z,i t1.1.b] [i t1.1.n.x,i t1.1.n.y,i t1.1.n.z,i t1.1.b,b true] s.eh4),2,[[i t1.1.n.x,i t1.1.n.y,i t1.1.n.z,i t1.1.b],[i t2.n.x,i t2.n.y,i t2.n.z,i t2.b]]⟩) (k ⟨1,W (s.F5+1),ia1 [(0,.int .i64),(1,.int .i64),(2,.int .i64),(3,.int .i64)] [i t2.n.x,i t2.n.y,i t2.n.z,i t2.b] [i t2.n.x,i t2.n.y,i t2.n.z,i t2.b,b true] (ia1 [(0,.int .i64),(1,.int .i64),(2,.int .i64),(3,.int .i64)] [i t1.1.n.x,i t1.1.n.y,i t1.1.n.z,i t1.1.b] [i t1.1.n.x,i t1.1.n.y,i t1.1.n.z,i t1.1.b,b true] s.eh4),1,[[i t1.1.n.x,i t1.1.n.y,i t1.1.n.z,i t1.1.b]]⟩)) z) z)) (sl (eb7 4 [(0,.int .i64),(1,.int .i64),(2,.int .i64),(3,.int .i64)] [i t2.n.x,i t2.n.y,i t2.n.z,i t2.b] (ia1 [(0,.int .i64),(1,.int .i64),(2,.int .i64),(3,.int .i64)] [i t1.1.n.x,i t1.1.n.y,i t1.1.n.z,i t1.1.b] [i t1.1.n.x,i t1.1.n.y,i t1.1.n.z,i t1.1.b,b true] s.eh4)) (k ⟨0,W (s.F5+1),ia1 [(0,.int .i64),(1,.int .i64),(2,.int .i64),(3,.int .i64)] [i t1.1.n.x,i t1.1.n.y,i t1.1.n.z,i t1.1.b] [i t1.1.n.x,i t1.1.n.y,i t1.1.n.z,i t1.1.b,b true] s.eh4,0,[]⟩) (sl (okE tV p.g9) (sl (L0 (rt tV p.g9) t2) (sl (!t3) (k ⟨1,W (s.F5+1),ia1 [(0,.int .i64),(1,.int .i64),(2,.int .i64),(3,.int .i64)] [i t2.n.x,i t2.n.y,i t2.n.z,i t2.b] [i t2.n.x,i t2.n.y,i t2.n.z,i t2.b,b true] (ia1 [(0,.int .i64),(1,.int .i64),(2,.int .i64),(3,.int .i64)] [i t1.1.n.x,i t1.1.n.y,i t1.1.n.z,i t1.1.b] [i t1.1.n.x,i t1.1.n.y,i t1.1.n.z,i t1.1.b,b true] s.eh4),1,[[i t2.n.x,i t2.n.y,i t2.n.z,i t2.b]]⟩) (k ⟨0,W (s.F5+1),ia1 [(0,.int .i64),(1,.int .i64),(2,.int .i64),(3,.int .i64)] [i t2.n.x,i t2.n.y,i t2.n.z,i t2.b] [i t2.n.x,i t2.n.y,i t2.n.z,i t2.b,b true] (ia1 [(0,.int .i64),(1,.int .i64),(2,.int .i64),(3,.int .i64)] [i t1.1.n.x,i t1.1.n.y,i t1.1.n.z,i t1.1.b] [i t1.1.n.x,i t1.1.n.y,i t1.1.n.z,i t1.1.b,b true] s.eh4),0,[]⟩)) z) z))) z) z)) (k ⟨0,W (s.F5+1),s.eh4,0,[]⟩)) (sl t1.2 z (k ⟨0,W (s.F5+1),s.eh4,0,[]⟩))) z) z) z) z) (e 1))
noncomputable def W6{α:Type}(k:D8->α)(e:Nat->α)(z:α)(p:S7)(s:D8):α:=let t1:=(K8 (gL tV p.c9 s.F5.toNat) (gL tV p.c9 p.is4.toNat) (gL tV p.c9 p.is3.toNat));let t2:=(Ca1 t1.1);let t3:=(ha0 (rt tV p.g9) t2);let t4:=(ha0 (rt tV p.g9) t1.1);let a0:=(Nat.beq s.E7 (len s.eh5)&&Nat.ble ((s.E7+1)*32) room);(sl (decide (s.F5<p.Ic0)) (sl (inB s.F5 (List.length p.c9)) (sl (inB p.is4 (List.length p.c9)) (sl (inB p.is3 (List.length p.c9)) (sl (ka7 (gL tV p.c9 s.F5.toNat) (gL tV p.c9 p.is4.toNat) (gL tV p.c9 p.is3.toNat)) (sl t1.2 (sl t1.2 (sl (eb7 4 [(0,.int .i64),(1,.int .i64),(2,.int .i64),(3,.int .i64)] [i t1.1.n.x,i t1.1.n.y,i t1.1.n.z,i t1.1.b] s.eh4) (sl (eb7 4 [(0,.int .i64),(1,.int .i64),(2,.int .i64),(3,.int .i64)] [i t2.n.x,i t2.n.y,i t2.n.z,i t2.b] s.eh4) (k ⟨1,W (s.F5+1),s.eh4,s.E7,s.eh5⟩) (sl (okE tV p.g9) (sl (L0 (rt tV p.g9) t2) (sl (!t3) (sl a0 (k ⟨1,W (s.F5+1),ia1 [(0,.int .i64),(1,.int .i64),(2,.int .i64),(3,.int .i64)] [i t2.n.x,i t2.n.y,i t2.n.z,i t2.b] [i t2.n.x,i t2.n.y,i t2.n.z,i t2.b,b true] s.eh4,s.E7+1,app s.eh5 [[i t2.n.x,i t2.n.y,i t2.n.z,i t2.b]]⟩) z) (k ⟨1,W (s.F5+1),ia1 [(0,.int .i64),(1,.int .i64),(2,.int .i64),(3,.int .i64)] [i t2.n.x,i t2.n.y,i t2.n.z,i t2.b] [i t2.n.x,i t2.n.y,i t2.n.z,i t2.b,b true] s.eh4,s.E7,s.eh5⟩)) z) z)) (sl (okE tV p.g9) (sl (L0 (rt tV p.g9) t1.1) (sl (!t4) (sl a0 (sl (eb7 4 [(0,.int .i64),(1,.int .i64),(2,.int .i64),(3,.int .i64)] [i t2.n.x,i t2.n.y,i t2.n.z,i t2.b] (ia1 [(0,.int .i64),(1,.int .i64),(2,.int .i64),(3,.int .i64)] [i t1.1.n.x,i t1.1.n.y,i t1.1.n.z,i t1.1.b] [i t1.1.n.x,i t1.1.n.y,i t1.1.n.z,i t1.1.b,b true] s.eh4)) (k ⟨1,W (s.F5+1),ia1 [(0,.int .i64),(1,.int .i64),(2,.int .i64),(3,.int .i64)] [i t1.1.n.x,i t1.1.n.y,i t1.1.n.z,i t1.1.b] [i t1.1.n.x,i t1.1.n.y,i t1.1.n.z,i t1.1.b,b true] s.eh4,s.E7+1,app s.eh5 [[i t1.1.n.x,i t1.1.n.y,i t1.1.n.z,i t1.1.b]]⟩) (sl (okE tV p.g9) (sl (L0 (rt tV p.g9) t2) (sl (!t3) (sl (Nat.beq (s.E7+1) (len (app s.eh5 [[i t1.1.n.x,i t1.1.n.y,i t1.1.n.z,i t1.1.b]]))&&Nat.ble (((s.E7+1)+1)*32) room) (k ⟨1,W (s.F5+1),ia1 [(0,.int .i64),(1,.int .i64),(2,.int .i64),(3,.int .i64)] [i t2.n.x,i t2.n.y,i t2.n.z,i t2.b] [i t2.n.x,i t2.n.y,i t2.n.z,i t2.b,b true] (ia1 [(0,.int .i64),(1,.int .i64),(2,.int .i64),(3,.int .i64)] [i t1.1.n.x,i t1.1.n.y,i t1.1.n.z,i t1.1.b] [i t1.1.n.x,i t1.1.n.y,i t1.1.n.z,i t1.1.b,b true] s.eh4),(s.E7+1)+1,app (app s.eh5 [[i t1.1.n.x,i t1.1.n.y,i t1.1.n.z,i t1.1.b]]) [[i t2.n.x,i t2.n.y,i t2.n.z,i t2.b]]⟩) z) (k ⟨1,W (s.F5+1),ia1 [(0,.int .i64),(1,.int .i64),(2,.int .i64),(3,.int .i64)] [i t2.n.x,i t2.n.y,i t2.n.z,i t2.b] [i t2.n.x,i t2.n.y,i t2.n.z,i t2.b,b true] (ia1 [(0,.int .i64),(1,.int .i64),(2,.int .i64),(3,.int .i64)] [i t1.1.n.x,i t1.1.n.y,i t1.1.n.z,i t1.1.b] [i t1.1.n.x,i t1.1.n.y,i t1.1.n.z,i t1.1.b,b true] s.eh4),s.E7+1,app s.eh5 [[i t1.1.n.x,i t1.1.n.y,i t1.1.n.z,i t1.1.b]]⟩)) z) z)) z) (sl (eb7 4 [(0,.int .i64),(1,.int .i64),(2,.int .i64),(3,.int .i64)] [i t2.n.x,i t2.n.y,i t2.n.z,i t2.b] (ia1 [(0,.int .i64),(1,.int .i64),(2,.int .i64),(3,.int .i64)] [i t1.1.n.x,i t1.1.n.y,i t1.1.n.z,i t1.1.b] [i t1.1.n.x,i t1.1.n.y,i t1.1.n.z,i t1.1.b,b true] s.eh4)) (k ⟨1,W (s.F5+1),ia1 [(0,.int .i64),(1,.int .i64),(2,.int .i64),(3,.int .i64)] [i t1.1.n.x,i t1.1.n.y,i t1.1.n.z,i t1.1.b] [i t1.1.n.x,i t1.1.n.y,i t1.1.n.z,i t1.1.b,b true] s.eh4,s.E7,s.eh5⟩) (sl (okE tV p.g9) (sl (L0 (rt tV p.g9) t2) (sl (!t3) (sl a0 (k ⟨1,W (s.F5+1),ia1 [(0,.int .i64),(1,.int .i64),(2,.int .i64),(3,.int .i64)] [i t2.n.x,i t2.n.y,i t2.n.z,i t2.b] [i t2.n.x,i t2.n.y,i t2.n.z,i t2.b,b true] (ia1 [(0,.int .i64),(1,.int .i64),(2,.int .i64),(3,.int .i64)] [i t1.1.n.x,i t1.1.n.y,i t1.1.n.z,i t1.1.b] [i t1.1.n.x,i t1.1.n.y,i t1.1.n.z,i t1.1.b,b true] s.eh4),s.E7+1,app s.eh5 [[i t2.n.x,i t2.n.y,i t2.n.z,i t2.b]]⟩) z) (k ⟨1,W (s.F5+1),ia1 [(0,.int .i64),(1,.int .i64),(2,.int .i64),(3,.int .i64)] [i t2.n.x,i t2.n.y,i t2.n.z,i t2.b] [i t2.n.x,i t2.n.y,i t2.n.z,i t2.b,b true] (ia1 [(0,.int .i64),(1,.int .i64),(2,.int .i64),(3,.int .i64)] [i t1.1.n.x,i t1.1.n.y,i t1.1.n.z,i t1.1.b] [i t1.1.n.x,i t1.1.n.y,i t1.1.n.z,i t1.1.b,b true] s.eh4),s.E7,s.eh5⟩)) z) z))) z) z)) (k ⟨1,W (s.F5+1),s.eh4,s.E7,s.eh5⟩)) (sl t1.2 z (k ⟨1,W (s.F5+1),s.eh4,s.E7,s.eh5⟩))) z) z) z) z) (e 2))
noncomputable def U1(p:S7)(s:D8):Stp D8:=(sel (Nat.beq s.ph 1) (W6 .next .exit .fail p s) (W5 .next .exit .fail p s))
noncomputable def jb0:Lo S7 D8:=⟨En Ua3,0,Ie5,[1,1,1,1,1,0,1,4,4,1,4,4,1,1,0,4,1,1,4,4,1,1,0,4,1,1,4,4],[1,3,4,9,10,16,17,23,24,60,62,63,64,66,67],.p,[⟨sUq::sPq 0::sUq::sIq::sIq::ru2 4 (sIq::sIq::ru2 5 (sIq::sIq::ru2 5 (sIq::sIq::ru2 35 (.s (.o (.lit .i64 0))::sUq::sPq 1::.s (.o .nil)::.s (.o (.lit .i64 0))::sUq::sPq 2::sPq 3::ru2 28 [])))),[⟨0,1,true,some [[.c 3 (nL tV)]]⟩,⟨0,1,true,some [[.c 3 (nL tV)]]⟩,⟨0,0,true,some [[.o (.ptr 4 0 0 0)]]⟩,⟨0,0,true,some [[.o .nil]]⟩,⟨76,0,true,none⟩],λa H=>(⟨aIq a 3,aIq a 4,aIq a 9,aIq a 10,aIq a 16,aIq a 17,aIq a 23,hLq tV H 0 0 0,hLq tV H 1 0 0⟩,⟨0,aIq a 24,elT H 4,0,[]⟩)⟩,⟨sUq::sPq 0::sUq::sIq::sIq::ru2 4 (sIq::sIq::ru2 5 (sIq::sIq::ru2 5 (sIq::sIq::ru2 35 (.s (.o (.lit .i64 0))::sUq::sPq 1::.s (.o .nil)::.s (.o (.lit .i64 0))::sUq::sPq 2::sPq 3::ru2 28 [])))),[⟨0,1,true,some [[.c 3 (nL tV)]]⟩,⟨0,1,true,some [[.c 3 (nL tV)]]⟩,⟨0,0,true,some [[.o (.ptr 4 0 0 0)]]⟩,⟨0,0,true,some [[.o (.sl 5 0 (some 0) none)]]⟩,⟨76,0,true,none⟩,⟨60,4,true,none⟩],λa H=>(⟨aIq a 3,aIq a 4,aIq a 9,aIq a 10,aIq a 16,aIq a 17,aIq a 23,hLq tV H 0 0 0,hLq tV H 1 0 0⟩,⟨1,aIq a 24,elT H 4,slN (slT (rwT (elT H 3) 0) 0),elT H 5⟩)⟩],U1,[(some 4,λp s=>upq (vb4 p s) [(25,b (decide (s.F5<p.Ic0)))]),(some 4,λp s=>upq (vb5 p s) [(25,b (decide (s.F5<p.Ic0)))])],Dc6⟩
theorem Dc7:jb0.OkM:=Lo.okM [] (by kernel_rfl) .nil rfl (.cons (λa H=>by kernel_rfl) (.cons (λa H=>by kernel_rfl) .nil)) λp s=>(.sel (Nat.beq s.ph 1) (.of @W6 (λF _ _ _ _ _=>by unfold W6;(repeat' apply r9 (f:=F))<;>rfl) (by kernel_rfl)) (.of @W5 (λF _ _ _ _ _=>by unfold W5;(repeat' apply r9 (f:=F))<;>rfl) (by kernel_rfl)))
structure S8 where
 (is3 is9 C9 lb8:Int)
structure C3 where
 ph:Nat
 M9:Int
 (c9 g9:List V3)
 eh4:List (List b7)
 E7:Nat
 eh5:List (List b7)
noncomputable def vb6(p:S8)(s:C3):St:=⟨.unk::.ptr 0 0 0 0::.unk::i p.is3::ra 5 (i p.is9::i p.C9::ra 5 (i p.lb8::i s.M9::ra 42 (i 0::.unk::.ptr 1 0 0 0::.v (.slice none 0 0)::i 0::.unk::.ptr 2 0 0 0::.ptr 3 0 0 0::ra 28 []))),[⟨0,1,[[eL tV s.c9]],true,false,0⟩,⟨0,1,[[eL tV s.g9]],true,false,0⟩,⟨0,0,[[.ptr 4 0 0 0]],true,false,0⟩,⟨0,0,[[.v (.slice none 0 0)]],true,false,0⟩,⟨76,0,s.eh4,true,false,0⟩]⟩
noncomputable def vb7(p:S8)(s:C3):St:=⟨.unk::.ptr 0 0 0 0::.unk::i p.is3::ra 5 (i p.is9::i p.C9::ra 5 (i p.lb8::i s.M9::ra 42 (i 0::.unk::.ptr 1 0 0 0::.v (.slice none 0 0)::i 0::.unk::.ptr 2 0 0 0::.ptr 3 0 0 0::ra 28 []))),[⟨0,1,[[eL tV s.c9]],true,false,0⟩,⟨0,1,[[eL tV s.g9]],true,false,0⟩,⟨0,0,[[.ptr 4 0 0 0]],true,false,0⟩,⟨0,0,[[.sl 5 0 s.E7 0]],true,false,0⟩,⟨76,0,s.eh4,true,false,0⟩,⟨60,4,s.eh5,true,false,0⟩]⟩
noncomputable def Dc8(p:S8)(s:C3):St:=(sel (Nat.beq s.ph 1) (vb7 p s) (vb6 p s))
noncomputable def W7{α:Type}(k:C3->α)(e:Nat->α)(z:α)(p:S8)(s:C3):α:=let t1:=(lp (U1 (⟨p.is3,s.M9,p.is9,p.C9,p.lb8,s.M9,(↑(s.M9.toNat-0):Int),rt tV s.c9,rt tV s.g9⟩:S7)) (⟨0,0,s.eh4,0,[]⟩:D8));(sl (decide (s.M9<p.lb8)) (sl (inB s.M9 ((List.length s.c9)+1)) (sl ((cnE tV s.c9)&&((cnE tV s.g9)&&true)) (sl (Nat.beq t1.1 1) (k ⟨0,W (s.M9+1),rt tV s.c9,rt tV s.g9,t1.2.eh4,0,[]⟩) (sl (Nat.beq t1.1 2) (k ⟨1,W (s.M9+1),rt tV s.c9,rt tV s.g9,t1.2.eh4,t1.2.E7,t1.2.eh5⟩) z)) z) z) (e 1))
noncomputable def W8{α:Type}(k:C3->α)(e:Nat->α)(z:α)(p:S8)(s:C3):α:=let t1:=(lp (U1 (⟨p.is3,s.M9,p.is9,p.C9,p.lb8,s.M9,(↑(s.M9.toNat-0):Int),rt tV s.c9,rt tV s.g9⟩:S7)) (⟨1,0,s.eh4,s.E7,s.eh5⟩:D8));(sl (decide (s.M9<p.lb8)) (sl (inB s.M9 ((List.length s.c9)+1)) (sl ((cnE tV s.c9)&&((cnE tV s.g9)&&true)) (sl (Nat.beq t1.1 1) (k ⟨0,W (s.M9+1),rt tV s.c9,rt tV s.g9,t1.2.eh4,0,[]⟩) (sl (Nat.beq t1.1 2) (k ⟨1,W (s.M9+1),rt tV s.c9,rt tV s.g9,t1.2.eh4,t1.2.E7,t1.2.eh5⟩) z)) z) z) (e 2))
noncomputable def ea4(p:S8)(s:C3):Stp C3:=(sel (Nat.beq s.ph 1) (W8 .next .exit .fail p s) (W7 .next .exit .fail p s))
noncomputable def jb1:Lo S8 C3:=⟨En Ua3,0,Ie5,[1,1,1,1,1,0,1,4,4,1,4,4,1,1,0,4,1,1,4,4],[1,3,9,10,16,17,60,62,63,64,66,67],.s .p (.s .p (.s (.b (.s .p (.s .p (.b (.u jb0.lsM))))) .p)),[⟨sUq::sPq 0::sUq::sIq::ru2 5 (sIq::sIq::ru2 5 (sIq::sIq::ru2 42 (.s (.o (.lit .i64 0))::sUq::sPq 1::.s (.o .nil)::.s (.o (.lit .i64 0))::sUq::sPq 2::sPq 3::ru2 28 []))),[⟨0,1,true,some [[.c 3 (nL tV)]]⟩,⟨0,1,true,some [[.c 3 (nL tV)]]⟩,⟨0,0,true,some [[.o (.ptr 4 0 0 0)]]⟩,⟨0,0,true,some [[.o .nil]]⟩,⟨76,0,true,none⟩],λa H=>(⟨aIq a 3,aIq a 9,aIq a 10,aIq a 16⟩,⟨0,aIq a 17,hLq tV H 0 0 0,hLq tV H 1 0 0,elT H 4,0,[]⟩)⟩,⟨sUq::sPq 0::sUq::sIq::ru2 5 (sIq::sIq::ru2 5 (sIq::sIq::ru2 42 (.s (.o (.lit .i64 0))::sUq::sPq 1::.s (.o .nil)::.s (.o (.lit .i64 0))::sUq::sPq 2::sPq 3::ru2 28 []))),[⟨0,1,true,some [[.c 3 (nL tV)]]⟩,⟨0,1,true,some [[.c 3 (nL tV)]]⟩,⟨0,0,true,some [[.o (.ptr 4 0 0 0)]]⟩,⟨0,0,true,some [[.o (.sl 5 0 (some 0) none)]]⟩,⟨76,0,true,none⟩,⟨60,4,true,none⟩],λa H=>(⟨aIq a 3,aIq a 9,aIq a 10,aIq a 16⟩,⟨1,aIq a 17,hLq tV H 0 0 0,hLq tV H 1 0 0,elT H 4,slN (slT (rwT (elT H 3) 0) 0),elT H 5⟩)⟩],ea4,[(some 2,λp s=>upq (vb6 p s) [(18,b (decide (s.M9<p.lb8)))]),(some 2,λp s=>upq (vb7 p s) [(18,b (decide (s.M9<p.lb8)))])],Dc8⟩
theorem Dc9:jb1.OkM:=Lo.okM [jb0.prM] (by kernel_rfl) (.cons Dc7 .nil) rfl (.cons (λa H=>by kernel_rfl) (.cons (λa H=>by kernel_rfl) .nil)) λp s=>(.sel (Nat.beq s.ph 1) (.of @W8 (λF _ _ _ _ _=>by unfold W8;(repeat' apply r9 (f:=F))<;>rfl) (by kernel_rfl)) (.of @W7 (λF _ _ _ _ _=>by unfold W7;(repeat' apply r9 (f:=F))<;>rfl) (by kernel_rfl)))
structure aa3 where
 is9:Int
structure D9 where
 ph:Nat
 C9:Int
 (c9 g9:List V3)
 eh4:List (List b7)
 E7:Nat
 eh5:List (List b7)
noncomputable def vb8(p:aa3)(s:D9):St:=⟨.unk::.ptr 0 0 0 0::ra 7 (i p.is9::i s.C9::ra 49 (i 0::.unk::.ptr 1 0 0 0::.v (.slice none 0 0)::i 0::.unk::.ptr 2 0 0 0::.ptr 3 0 0 0::ra 28 [])),[⟨0,1,[[eL tV s.c9]],true,false,0⟩,⟨0,1,[[eL tV s.g9]],true,false,0⟩,⟨0,0,[[.ptr 4 0 0 0]],true,false,0⟩,⟨0,0,[[.v (.slice none 0 0)]],true,false,0⟩,⟨76,0,s.eh4,true,false,0⟩]⟩
noncomputable def vb9(p:aa3)(s:D9):St:=⟨.unk::.ptr 0 0 0 0::ra 7 (i p.is9::i s.C9::ra 49 (i 0::.unk::.ptr 1 0 0 0::.v (.slice none 0 0)::i 0::.unk::.ptr 2 0 0 0::.ptr 3 0 0 0::ra 28 [])),[⟨0,1,[[eL tV s.c9]],true,false,0⟩,⟨0,1,[[eL tV s.g9]],true,false,0⟩,⟨0,0,[[.ptr 4 0 0 0]],true,false,0⟩,⟨0,0,[[.sl 5 0 s.E7 0]],true,false,0⟩,⟨76,0,s.eh4,true,false,0⟩,⟨60,4,s.eh5,true,false,0⟩]⟩
noncomputable def Ec0(p:aa3)(s:D9):St:=(sel (Nat.beq s.ph 1) (vb9 p s) (vb8 p s))
noncomputable def W9{α:Type}(k:D9->α)(e:Nat->α)(z:α)(p:aa3)(s:D9):α:=let t1:=(lp (ea4 (⟨s.C9,p.is9,s.C9,(↑(s.C9.toNat-0):Int)⟩:S8)) (⟨0,0,rt tV s.c9,rt tV s.g9,s.eh4,0,[]⟩:C3));(sl (decide (s.C9<p.is9)) (sl (inB s.C9 ((List.length s.c9)+1)) (sl ((cnE tV s.c9)&&((cnE tV s.g9)&&true)) (sl (Nat.beq t1.1 1) (k ⟨0,W (s.C9+1),t1.2.c9,t1.2.g9,t1.2.eh4,0,[]⟩) (sl (Nat.beq t1.1 2) (k ⟨1,W (s.C9+1),t1.2.c9,t1.2.g9,t1.2.eh4,t1.2.E7,t1.2.eh5⟩) z)) z) z) (e 1))
noncomputable def X0{α:Type}(k:D9->α)(e:Nat->α)(z:α)(p:aa3)(s:D9):α:=let t1:=(lp (ea4 (⟨s.C9,p.is9,s.C9,(↑(s.C9.toNat-0):Int)⟩:S8)) (⟨1,0,rt tV s.c9,rt tV s.g9,s.eh4,s.E7,s.eh5⟩:C3));(sl (decide (s.C9<p.is9)) (sl (inB s.C9 ((List.length s.c9)+1)) (sl ((cnE tV s.c9)&&((cnE tV s.g9)&&true)) (sl (Nat.beq t1.1 1) (k ⟨0,W (s.C9+1),t1.2.c9,t1.2.g9,t1.2.eh4,0,[]⟩) (sl (Nat.beq t1.1 2) (k ⟨1,W (s.C9+1),t1.2.c9,t1.2.g9,t1.2.eh4,t1.2.E7,t1.2.eh5⟩) z)) z) z) (e 2))
noncomputable def Ha9(p:aa3)(s:D9):Stp D9:=(sel (Nat.beq s.ph 1) (X0 .next .exit .fail p s) (W9 .next .exit .fail p s))
noncomputable def jb2:Lo aa3 D9:=⟨En Ua3,0,Ie5,[1,1,1,1,1,0,1,4,4,1,4,4],[1,9,10,60,62,63,64,66,67],.s .p (.s .p (.s (.b (.s .p (.s .p (.b (.u jb1.lsM))))) .p)),[⟨sUq::sPq 0::ru2 7 (sIq::sIq::ru2 49 (.s (.o (.lit .i64 0))::sUq::sPq 1::.s (.o .nil)::.s (.o (.lit .i64 0))::sUq::sPq 2::sPq 3::ru2 28 [])),[⟨0,1,true,some [[.c 3 (nL tV)]]⟩,⟨0,1,true,some [[.c 3 (nL tV)]]⟩,⟨0,0,true,some [[.o (.ptr 4 0 0 0)]]⟩,⟨0,0,true,some [[.o .nil]]⟩,⟨76,0,true,none⟩],λa H=>(⟨aIq a 9⟩,⟨0,aIq a 10,hLq tV H 0 0 0,hLq tV H 1 0 0,elT H 4,0,[]⟩)⟩,⟨sUq::sPq 0::ru2 7 (sIq::sIq::ru2 49 (.s (.o (.lit .i64 0))::sUq::sPq 1::.s (.o .nil)::.s (.o (.lit .i64 0))::sUq::sPq 2::sPq 3::ru2 28 [])),[⟨0,1,true,some [[.c 3 (nL tV)]]⟩,⟨0,1,true,some [[.c 3 (nL tV)]]⟩,⟨0,0,true,some [[.o (.ptr 4 0 0 0)]]⟩,⟨0,0,true,some [[.o (.sl 5 0 (some 0) none)]]⟩,⟨76,0,true,none⟩,⟨60,4,true,none⟩],λa H=>(⟨aIq a 9⟩,⟨1,aIq a 10,hLq tV H 0 0 0,hLq tV H 1 0 0,elT H 4,slN (slT (rwT (elT H 3) 0) 0),elT H 5⟩)⟩],Ha9,[(some 0,λp s=>upq (vb8 p s) [(11,b (decide (s.C9<p.is9)))]),(some 0,λp s=>upq (vb9 p s) [(11,b (decide (s.C9<p.is9)))])],Ec0⟩
theorem Ec1:jb2.OkM:=Lo.okM [jb1.prM] (by kernel_rfl) (.cons Dc9 .nil) rfl (.cons (λa H=>by kernel_rfl) (.cons (λa H=>by kernel_rfl) .nil)) λp s=>(.sel (Nat.beq s.ph 1) (.of @X0 (λF _ _ _ _ _=>by unfold X0;(repeat' apply r9 (f:=F))<;>rfl) (by kernel_rfl)) (.of @W9 (λF _ _ _ _ _=>by unfold W9;(repeat' apply r9 (f:=F))<;>rfl) (by kernel_rfl)))
noncomputable def sa1(x:V3×List V3):Option (b7×List c8):=let t1:=(Ca3 (rt tV (x.1::x.2)));let t2:=(Ya6 (hC tV (λk=>(tV).row (gL tV (x.1::x.2) k)),tC tV (List.length x.2) (λk=>(tV).row (gL tV (x.1::x.2) k))));let t3:=(lp (Ha9 (⟨(↑(List.length t2):Int)⟩:aa3)) (⟨0,0,rt tV t2,rt tV t2,[],0,[]⟩:D9));(sl (okE tV (x.1::x.2)) (sl (Ca4 (rt tV (x.1::x.2))) (sl (t1 != 0) (some (.tup [.v (.slice none 0 0),i t1],[])) (sl (okL tV (List.length x.2+1) (λk=>(tV).row (gL tV (x.1::x.2) k))) (sl (Ya7 (hC tV (λk=>(tV).row (gL tV (x.1::x.2) k)),tC tV (List.length x.2) (λk=>(tV).row (gL tV (x.1::x.2) k)))) (sl ((cnE tV t2)&&((cnE tV t2)&&true)) (sl (Nat.beq t3.1 1) none (sl (Nat.beq t3.1 2) (sl (Bool.and (Nat.ble t3.2.E7 room) (Bool.and (Nat.ble t3.2.E7 (len t3.2.eh5)) (okS tP t3.2.eh5 0 t3.2.E7))) (some (.tup [.sl 0 0 t3.2.E7 0,i 0],[⟨60,4,app (bL tP (Wb8 (slR tP t3.2.eh5 0 t3.2.E7))) (g8 t3.2.eh5 t3.2.E7),true,false,0⟩])) none) none)) none) none) none)) none) none)
noncomputable def cb5(x:V3×List V3):List Pln×Int:=N7 (two (r1L tP) r1I) (sa1 x)
noncomputable def cb6(x:V3×List V3):Bool:=okO (two (r1L tP) r1I) (sa1 x)
noncomputable def lc7:Sum:=N1 (Bd4 tV) (λx=>.guard (cb6 x) (.ret ((two (r1L tP) r1I).enc (cb5 x),[])))
theorem Xb7:i7 prog G 22 lc7:=Ea3 (bd b22 Sc6) (two (r1L tP) r1I) (o:=sa1) λx=>jd3 (.s .p (.s .p (.s .p (.s .p (.s .p (.s (.s .p (.b (.i (.s .p (.b (.u jb2.lsM)))))) .p)))))) [jb2.prM] (by kernel_rfl) (.cons Ec1 .nil) (by kernel_rfl)
structure Ia0 where
 (ra0 ra1 ra2 Re9 d9 d7 f0:Int)
noncomputable def uc0:List (Nat×Sum):=[(35,xa8)]
theorem lc8:k8 prog G uc0:=⟨Ba9,trivial⟩
structure Ia1 where
 bs0:Bool
noncomputable def ka9{α:Type}(kk:Ia1->α)(x:Ia0):α:=let t1:=(C0 (⟨x.d9,x.d7,x.f0⟩:V3) (⟨x.ra0,x.ra1,x.ra2⟩:V3));(kk ⟨t1 != 0⟩)
noncomputable def Ya8(x:Ia0):Ia1:=ka9 (λr=>r) x
noncomputable def Sa4(x:Ia0)(r:Ia1):DT (b7×List c8):=.ret (b r.bs0,[⟨0,3,[[i x.d9,i x.d7,i x.f0]],true,false,0⟩])
theorem Ec2{α β:Type}(F:α->β)(kk:Ia1->α)(x:Ia0):F (ka9 kk x)=ka9 (λr=>F (kk r)) x:=by unfold ka9;(repeat' apply r9 (f:=F))<;>rfl
noncomputable def Gb4:Sum:=zb9 ⟨[.agg (kLq 4),sPq 0],[⟨0,3,true,some [kLq 3]⟩],λa H=>(⟨cIq a 0 0,cIq a 0 1,cIq a 0 2,cIq a 0 3,hIq H 0 0 0,hIq H 0 0 1,hIq H 0 0 2⟩,())⟩ (λx=>Sa4 x (Ya8 x))
theorem uc1:i7 prog G 87 Gb4:=ja6 (enc:=λx=>⟨[.agg [i x.ra0,i x.ra1,i x.ra2,i x.Re9],.ptr 0 0 0 0],[⟨0,3,[[i x.d9,i x.d7,i x.f0]],true,false,0⟩]⟩) (λa H=>by kernel_rfl) (bd b87 lc8) λx=>D1 (Qix (b:=ka9 (λr=>(Sa4 x r).run) x) (by kernel_rfl) (Ec2 (λr=>(Sa4 x r).run) (λr=>r) x).symm)
structure U7 where
 w6:List Pln
 (d9 d7 f0:Int)
noncomputable def za7:List (Nat×Sum):=[(87,Gb4)]
theorem cb7:k8 prog G za7:=⟨uc1,trivial⟩
structure I4 where
 w6:List Pln
 (is7 d9 d7 f0:Int)
structure s8 where
 is8:Int
noncomputable def ta7(p:I4)(s:s8):St:=⟨eL tP p.w6::.fn 87 [.ptr 0 0 0 0]::ra 5 (i p.is7::i s.is8::ra 10 []),[⟨0,3,[[i p.d9,i p.d7,i p.f0]],true,false,0⟩]⟩
noncomputable def E9{α:Type}(k:s8->α)(e:Nat->α)(z:α)(p:I4)(s:s8):α:=let t1:=(Ya8 ⟨(gL tP p.w6 s.is8.toNat).n.x,(gL tP p.w6 s.is8.toNat).n.y,(gL tP p.w6 s.is8.toNat).n.z,(gL tP p.w6 s.is8.toNat).b,p.d9,p.d7,p.f0⟩);(sl (decide (s.is8<p.is7)) (sl (inB s.is8 (List.length p.w6)) (sl t1.bs0 (e 1) (k ⟨W (s.is8+1)⟩)) z) (e 2))
noncomputable def F8(p:I4)(s:s8):Stp s8:=E9 .next .exit .fail p s
noncomputable def ga1:Lo I4 s8:=⟨En za7,1,gf5,[1,0,1,4,4],[0,1,7,8],.p,[⟨sLq tP::.fn 87 [.o (.ptr 0 0 0 0)]::ru2 5 (sIq::sIq::ru2 10 []),[⟨0,3,true,some [kLq 3]⟩],λa H=>(⟨aLq tP a 0,aIq a 7,hIq H 0 0 0,hIq H 0 0 1,hIq H 0 0 2⟩,⟨aIq a 8⟩)⟩],F8,[(none,λp s=>⟨[i s.is8],[⟨0,3,[[i p.d9,i p.d7,i p.f0]],true,false,0⟩]⟩),(some 0,λp s=>upq (ta7 p s) [(9,b (decide (s.is8<p.is7)))])],ta7⟩
theorem Ya9:ga1.Ok:=Lo.ok [] (by kernel_rfl) .nil rfl (.cons (λa H=>by kernel_rfl) .nil) λp s=>(.of @E9 (λF _ _ _ _ _=>by unfold E9;(repeat' apply r9 (f:=F))<;>rfl) (by kernel_rfl))
structure U8 where
 alt:Nat
 is0:Int
noncomputable def F6{α:Type}(kk:U8->α)(x:U7):α:=let t1:=(lp (F8 (⟨rt tP x.w6,(↑(List.length x.w6):Int),x.d9,x.d7,x.f0⟩:I4)) (⟨0⟩:s8));(sl ((cnE tP x.w6)&&true) (sl (Nat.beq t1.1 1) (kk ⟨1,t1.2.is8⟩) (sl (Nat.beq t1.1 2) (kk ⟨1,-1⟩) (kk ⟨0,0⟩))) (kk ⟨0,0⟩))
noncomputable def U9(x:U7):U8:=F6 (λr=>r) x
noncomputable def ja3(x:U7)(r:U8):DT (b7×List c8):=(.ite (Nat.beq r.alt 1) (.ret (i r.is0,[⟨0,3,[[i x.d9,i x.d7,i x.f0]],true,false,0⟩])) .fail)
theorem lb4{α β:Type}(F:α->β)(kk:U8->α)(x:U7):F (F6 kk x)=F6 (λr=>F (kk r)) x:=by unfold F6;(repeat' apply r9 (f:=F))<;>rfl
noncomputable def Da6:Sum:=zb9 ⟨[sLq tP,.fn 87 [.o (.ptr 0 0 0 0)]],[⟨0,3,true,some [kLq 3]⟩],λa H=>(⟨aLq tP a 0,hIq H 0 0 0,hIq H 0 0 1,hIq H 0 0 2⟩,())⟩ (λx=>ja3 x (U9 x))
theorem jb3:i7 prog G 82 Da6:=ja6 (enc:=λx=>⟨[eL tP x.w6,.fn 87 [.ptr 0 0 0 0]],[⟨0,3,[[i x.d9,i x.d7,i x.f0]],true,false,0⟩]⟩) (λa H=>by kernel_rfl) (bd b82 cb7) λx=>Ea4 (.s .p (.s (.s .p (.b (.u ga1.ls))) .p)) [ga1.pr] (by kernel_rfl) (.cons Ya9 .nil) (Qix (b:=F6 (λr=>(ja3 x r).run) x) (by kernel_rfl) (lb4 (λr=>(ja3 x r).run) (λr=>r) x).symm)
structure P1 where
 w6:List Pln
 (d9 d7 f0:Int)
noncomputable def Wa2:List (Nat×Sum):=[(82,Da6)]
theorem Sa5:k8 prog G Wa2:=⟨jb3,trivial⟩
structure P2 where
 alt:Nat
 bs0:Bool
noncomputable def B7{α:Type}(kk:P2->α)(x:P1):α:=let t1:=(U9 ⟨rt tP x.w6,x.d9,x.d7,x.f0⟩);(sl ((cnE tP x.w6)&&true) (sl (Nat.beq t1.alt 1) (kk ⟨1,decide (t1.is0>=0)⟩) (kk ⟨0,false⟩)) (kk ⟨0,false⟩))
noncomputable def P4(x:P1):P2:=B7 (λr=>r) x
noncomputable def aa4(x:P1)(r:P2):DT (b7×List c8):=(.ite (Nat.beq r.alt 1) (.ret (b r.bs0,[⟨0,3,[[i x.d9,i x.d7,i x.f0]],true,false,0⟩])) .fail)
theorem Za0{α β:Type}(F:α->β)(kk:P2->α)(x:P1):F (B7 kk x)=B7 (λr=>F (kk r)) x:=by unfold B7;(repeat' apply r9 (f:=F))<;>rfl
noncomputable def ta8:Sum:=zb9 ⟨[sLq tP,.fn 87 [.o (.ptr 0 0 0 0)]],[⟨0,3,true,some [kLq 3]⟩],λa H=>(⟨aLq tP a 0,hIq H 0 0 0,hIq H 0 0 1,hIq H 0 0 2⟩,())⟩ (λx=>aa4 x (P4 x))
theorem Wa3:i7 prog G 50 ta8:=ja6 (enc:=λx=>⟨[eL tP x.w6,.fn 87 [.ptr 0 0 0 0]],[⟨0,3,[[i x.d9,i x.d7,i x.f0]],true,false,0⟩]⟩) (λa H=>by kernel_rfl) (bd b50 Sa5) λx=>D1 (Qix (b:=B7 (λr=>(aa4 x r).run) x) (by kernel_rfl) (Za0 (λr=>(aa4 x r).run) (λr=>r) x).symm)
noncomputable def jb4:List (Nat×Sum):=[(36,va1),(50,ta8)]
theorem Ec3:k8 prog G jb4:=⟨xa9,Wa3,trivial⟩
structure ta9 where
 (w6 Qb4:List Pln)
 (is9 C9:Int)
 lf2:Nat
 ne8:Nat->List b7
 (cf6 d9 d7 f0 j5:Int)
structure U2 where
 Zc5:Int
noncomputable def wb0(p:ta9)(s:U2):St:=⟨eL tP p.w6::ra 3 (.ptr 0 0 0 0::ra 3 (eL tP p.Qb4::i p.is9::i p.C9::ra 6 (.tree 4 p.lf2 p.ne8::i p.cf6::i s.Zc5::ra 18 []))),[⟨0,4,[[i p.d9,i p.d7,i p.f0,i p.j5]],true,false,0⟩]⟩
noncomputable def ma1{α:Type}(k:U2->α)(e:Nat->α)(z:α)(p:ta9)(s:U2):α:=let t1:=(C4 (⟨p.d9,p.d7,p.f0⟩:V3) (⟨toI (hdA (p.ne8 s.Zc5.toNat)),toI (hdA (tlA (p.ne8 s.Zc5.toNat))),toI (hdA (tlA (tlA (p.ne8 s.Zc5.toNat))))⟩:V3));let t2:=(P4 ⟨rt tP p.w6,t1.x,t1.y,t1.z⟩);(sl (decide (s.Zc5<p.cf6)) (sl (inB s.Zc5 p.lf2) (sl ((Nat.ble 4 (len (p.ne8 s.Zc5.toNat)))&&(ea5 [CK.int .i64,CK.int .i64,CK.int .i64,CK.int .i64] (p.ne8 s.Zc5.toNat))) (sl (!((t1.x==0)&&((t1.y==0)&&((t1.z==0)&&true)))) (sl ((cnE tP p.w6)&&true) (sl (Nat.beq t2.alt 1) (sl t2.bs0 (e 1) (k ⟨W (s.Zc5+1)⟩)) z) z) (k ⟨W (s.Zc5+1)⟩)) z) z) (e 2))
noncomputable def ha4(p:ta9)(s:U2):Stp U2:=ma1 .next .exit .fail p s
noncomputable def Za1:Lo ta9 U2:=⟨En jb4,0,We0,[1,0,1,4,4,1,1,0,4,1,1,4,4],[0,4,8,9,10,17,18,19],.p,[⟨sLq tP::ru2 3 (sPq 0::ru2 3 (sLq tP::sIq::sIq::ru2 6 (sTq 4::sIq::sIq::ru2 18 []))),[⟨0,4,true,some [kLq 4]⟩],λa H=>(⟨aLq tP a 0,aLq tP a 8,aIq a 9,aIq a 10,aNq a 17,aGq a 17,aIq a 18,hIq H 0 0 0,hIq H 0 0 1,hIq H 0 0 2,hIq H 0 0 3⟩,⟨aIq a 19⟩)⟩],ha4,[(none,λp s=>⟨[b true],[]⟩),(some 2,λp s=>upq (wb0 p s) [(20,b (decide (s.Zc5<p.cf6)))])],wb0⟩
theorem uc2:Za1.Ok:=Lo.ok [] (by kernel_rfl) .nil rfl (.cons (λa H=>by kernel_rfl) .nil) λp s=>(.of @ma1 (λF _ _ _ _ _=>by unfold ma1;(repeat' apply r9 (f:=F))<;>rfl) (by kernel_rfl))
structure ua0 where
 is9:Int
structure U3 where
 (w6 Qb4:List Pln)
 C9:Int
noncomputable def wb1(p:ua0)(s:U3):St:=⟨eL tP s.w6::ra 7 (eL tP s.Qb4::i p.is9::i s.C9::ra 27 []),[]⟩
noncomputable def ma2{α:Type}(k:U3->α)(e:Nat->α)(z:α)(p:ua0)(s:U3):α:=let t1:=(lp (ha4 (⟨rt tP s.w6,rt tP s.Qb4,p.is9,s.C9,s.C9.toNat-0,(λk=>(λk=>(tP).row (gL tP s.w6 k)) (0+k)),(↑(s.C9.toNat-0):Int),(gL tP s.Qb4 s.C9.toNat).n.x,(gL tP s.Qb4 s.C9.toNat).n.y,(gL tP s.Qb4 s.C9.toNat).n.z,(gL tP s.Qb4 s.C9.toNat).b⟩:ta9)) (⟨0⟩:U2));(sl (decide (s.C9<p.is9)) (sl (inB s.C9 (List.length s.Qb4)) (sl (inB s.C9 ((List.length s.w6)+1)) (sl ((cnE tP s.w6)&&((cnE tP s.Qb4)&&true)) (sl (Nat.beq t1.1 1) (e 1) (sl (Nat.beq t1.1 2) (k ⟨rt tP s.w6,rt tP s.Qb4,W (s.C9+1)⟩) z)) z) z) z) (e 2))
noncomputable def ha5(p:ua0)(s:U3):Stp U3:=ma2 .next .exit .fail p s
noncomputable def Za2:Lo ua0 U3:=⟨En jb4,0,We0,[1,0,1,4,4],[0,8,9,10],.s .p (.s .p (.s (.b (.s .p (.s .p (.b (.u Za1.ls))))) .p)),[⟨sLq tP::ru2 7 (sLq tP::sIq::sIq::ru2 27 []),[],λa H=>(⟨aIq a 9⟩,⟨aLq tP a 0,aLq tP a 8,aIq a 10⟩)⟩],ha5,[(none,λp s=>⟨[b true],[]⟩),(some 0,λp s=>upq (wb1 p s) [(11,b (decide (s.C9<p.is9)))])],wb1⟩
theorem uc3:Za2.Ok:=Lo.ok [Za1.pr] (by kernel_rfl) (.cons uc2 .nil) rfl (.cons (λa H=>by kernel_rfl) .nil) λp s=>(.of @ma2 (λF _ _ _ _ _=>by unfold ma2;(repeat' apply r9 (f:=F))<;>rfl) (by kernel_rfl))
noncomputable def Fa5(x:List Pln):Option (b7×List c8):=let t1:=(lp (ha5 (⟨(↑(List.length x):Int)⟩:ua0)) (⟨rt tP x,rt tP x,0⟩:U3));(sl ((cnE tP x)&&((cnE tP x)&&true)) (sl (Nat.beq t1.1 1) (some (b true,[])) (sl (Nat.beq t1.1 2) (some (b false,[])) none)) none)
noncomputable def va7(x:List Pln):Bool:=N7 (one r1B) (Fa5 x)
noncomputable def va8(x:List Pln):Bool:=okO (one r1B) (Fa5 x)
noncomputable def Xb8:Sum:=N1 (na0 tP) (λx=>.guard (va8 x) (.ret ((one r1B).enc (va7 x),[])))
theorem Sc7:i7 prog G 56 Xb8:=Ea3 (bd b56 Ec3) (one r1B) (o:=Fa5) λx=>Ea4 (.s .p (.s (.s .p (.b (.u Za2.ls))) .p)) [Za2.pr] (by kernel_rfl) (.cons uc3 .nil) (by kernel_rfl)
structure Ca5 where
 (ra0 ra1 ra2:Int)
 O0:List Pln
noncomputable def ob2:List (Nat×Sum):=[(30,Na3),(56,Xb8)]
theorem ec0:k8 prog G ob2:=⟨Ta9,Sc7,trivial⟩
structure K2 where
 ab5:List Pln
 is8:Int
 O0:List Pln
 (s9 u7 u8:Int)
structure s6 where
 ph:Nat
 is9:Int
 ns4:Nat
 eh2:List (List b7)
noncomputable def Wa4(p:K2)(s:s6):St:=⟨.unk::.unk::.ptr 1 0 0 0::.unk::.v (.slice none 0 0)::.unk::.unk::eL tP p.ab5::i p.is8::i s.is9::ra 15 [],[⟨0,1,[[eL tP p.O0]],true,false,0⟩,⟨0,3,[[i p.s9,i p.u7,i p.u8]],true,false,0⟩]⟩
noncomputable def Wa5(p:K2)(s:s6):St:=⟨.unk::.unk::.ptr 1 0 0 0::.unk::.sl 2 0 s.ns4 0::.unk::.unk::eL tP p.ab5::i p.is8::i s.is9::ra 15 [],[⟨0,1,[[eL tP p.O0]],true,false,0⟩,⟨0,3,[[i p.s9,i p.u7,i p.u8]],true,false,0⟩,⟨60,4,s.eh2,true,false,0⟩]⟩
noncomputable def Ub9(p:K2)(s:s6):St:=(sel (Nat.beq s.ph 1) (Wa5 p s) (Wa4 p s))
noncomputable def K3{α:Type}(k:s6->α)(e:Nat->α)(z:α)(p:K2)(s:s6):α:=let t1:=(R4 (gL tP p.ab5 s.is9.toNat) (⟨p.s9,p.u7,p.u8⟩:V3));(sl (decide (s.is9<p.is8)) (sl (inB s.is9 (List.length p.ab5)) (sl (fa7 (gL tP p.ab5 s.is9.toNat) (⟨p.s9,p.u7,p.u8⟩:V3)) (sl (t1==0) (k ⟨1,W (s.is9+1),1,[[i (gL tP p.ab5 s.is9.toNat).n.x,i (gL tP p.ab5 s.is9.toNat).n.y,i (gL tP p.ab5 s.is9.toNat).n.z,i (gL tP p.ab5 s.is9.toNat).b]]⟩) (k ⟨0,W (s.is9+1),0,[]⟩)) z) z) (e 1))
noncomputable def K4{α:Type}(k:s6->α)(e:Nat->α)(z:α)(p:K2)(s:s6):α:=let t1:=(R4 (gL tP p.ab5 s.is9.toNat) (⟨p.s9,p.u7,p.u8⟩:V3));(sl (decide (s.is9<p.is8)) (sl (inB s.is9 (List.length p.ab5)) (sl (fa7 (gL tP p.ab5 s.is9.toNat) (⟨p.s9,p.u7,p.u8⟩:V3)) (sl (t1==0) (sl (Nat.beq s.ns4 (len s.eh2)&&Nat.ble ((s.ns4+1)*32) room) (k ⟨1,W (s.is9+1),s.ns4+1,app s.eh2 [[i (gL tP p.ab5 s.is9.toNat).n.x,i (gL tP p.ab5 s.is9.toNat).n.y,i (gL tP p.ab5 s.is9.toNat).n.z,i (gL tP p.ab5 s.is9.toNat).b]]⟩) z) (k ⟨1,W (s.is9+1),s.ns4,s.eh2⟩)) z) z) (e 2))
noncomputable def oa4(p:K2)(s:s6):Stp s6:=(sel (Nat.beq s.ph 1) (K4 .next .exit .fail p s) (K3 .next .exit .fail p s))
noncomputable def Ja3:Lo K2 s6:=⟨En ob2,1,ff8,[1,1,0,1,4,4],[2,4,7,8,9],.p,[⟨sUq::sUq::sPq 1::sUq::.s (.o .nil)::sUq::sUq::sLq tP::sIq::sIq::ru2 15 [],[⟨0,1,true,some [[.c 4 (nL tP)]]⟩,⟨0,3,true,some [kLq 3]⟩],λa H=>(⟨aLq tP a 7,aIq a 8,hLq tP H 0 0 0,hIq H 1 0 0,hIq H 1 0 1,hIq H 1 0 2⟩,⟨0,aIq a 9,0,[]⟩)⟩,⟨sUq::sUq::sPq 1::sUq::.s (.o (.sl 2 0 (some 0) none))::sUq::sUq::sLq tP::sIq::sIq::ru2 15 [],[⟨0,1,true,some [[.c 4 (nL tP)]]⟩,⟨0,3,true,some [kLq 3]⟩,⟨60,4,true,none⟩],λa H=>(⟨aLq tP a 7,aIq a 8,hLq tP H 0 0 0,hIq H 1 0 0,hIq H 1 0 1,hIq H 1 0 2⟩,⟨1,aIq a 9,slN (slT a 4),elT H 2⟩)⟩],oa4,[(some 0,λp s=>upq (Wa4 p s) [(10,b (decide (s.is9<p.is8)))]),(some 0,λp s=>upq (Wa5 p s) [(10,b (decide (s.is9<p.is8)))])],Ub9⟩
theorem Vb0:Ja3.Ok:=Lo.ok [] (by kernel_rfl) .nil rfl (.cons (λa H=>by kernel_rfl) (.cons (λa H=>by kernel_rfl) .nil)) λp s=>(.sel (Nat.beq s.ph 1) (.of @K4 (λF _ _ _ _ _=>by unfold K4;(repeat' apply r9 (f:=F))<;>rfl) (by kernel_rfl)) (.of @K3 (λF _ _ _ _ _=>by unfold K3;(repeat' apply r9 (f:=F))<;>rfl) (by kernel_rfl)))
structure Ca6 where
 alt:Nat
 bs0:Bool
 O0:List Pln
noncomputable def ha6{α:Type}(kk:Ca6->α)(x:Ca5):α:=let t1:=(lp (oa4 (⟨rt tP x.O0,(↑(List.length x.O0):Int),rt tP x.O0,x.ra0,x.ra1,x.ra2⟩:K2)) (⟨0,0,0,[]⟩:s6));let t2:=(va7 []);let t3:=(va7 (slR tP t1.2.eh2 0 t1.2.ns4));(sl ((cnE tP x.O0)&&((cnE tP x.O0)&&true)) (sl (Nat.beq t1.1 1) (sl (va8 []) (kk ⟨1,!t2,rt tP x.O0⟩) (kk ⟨0,false,[]⟩)) (sl (Nat.beq t1.1 2) (sl (okS tP t1.2.eh2 0 t1.2.ns4) (sl (va8 (slR tP t1.2.eh2 0 t1.2.ns4)) (kk ⟨1,!t3,rt tP x.O0⟩) (kk ⟨0,false,[]⟩)) (kk ⟨0,false,[]⟩)) (kk ⟨0,false,[]⟩))) (kk ⟨0,false,[]⟩))
noncomputable def X5(x:Ca5):Ca6:=ha6 (λr=>r) x
noncomputable def Oa2(x:Ca5)(r:Ca6):DT (b7×List c8):=(.ite (Nat.beq r.alt 1) (.ret (b r.bs0,[⟨0,1,[[eL tP r.O0]],true,false,0⟩])) .fail)
theorem uc4{α β:Type}(F:α->β)(kk:Ca6->α)(x:Ca5):F (ha6 kk x)=ha6 (λr=>F (kk r)) x:=by unfold ha6;(repeat' apply r9 (f:=F))<;>rfl
noncomputable def Sa6:Sum:=zb9 ⟨[.agg (kLq 3),sPq 0],[⟨0,1,true,some [[.c 4 (nL tP)]]⟩],λa H=>(⟨cIq a 0 0,cIq a 0 1,cIq a 0 2,hLq tP H 0 0 0⟩,())⟩ (λx=>Oa2 x (X5 x))
theorem ob3:i7 prog G 55 Sa6:=ja6 (enc:=λx=>⟨[.agg [i x.ra0,i x.ra1,i x.ra2],.ptr 0 0 0 0],[⟨0,1,[[eL tP x.O0]],true,false,0⟩]⟩) (λa H=>by kernel_rfl) (bd b55 ec0) λx=>Ea4 (.s .p (.s .p (.s (.s .p (.b (.u Ja3.ls))) .p))) [Ja3.pr] (by kernel_rfl) (.cons Vb0 .nil) (Qix (b:=ha6 (λr=>(Oa2 x r).run) x) (by kernel_rfl) (uc4 (λr=>(Oa2 x r).run) (λr=>r) x).symm)
structure ca4 where
 ns0:Nat
 eh0:List (List b7)
 B0:List Pln
noncomputable def Fa6:List (Nat×Sum):=[(55,Sa6)]
theorem lb5:k8 prog G Fa6:=⟨ob3,trivial⟩
structure M7 where
 ns0:Nat
 is7:Int
 eh0:List (List b7)
structure y5 where
 is8:Int
 B0:List Pln
noncomputable def za8(p:M7)(s:y5):St:=⟨.sl 0 0 p.ns0 0::.fn 55 [.ptr 1 0 0 0]::ra 5 (i p.is7::i s.is8::ra 10 []),[⟨25,3,p.eh0,true,false,0⟩,⟨0,1,[[eL tP s.B0]],true,false,0⟩]⟩
noncomputable def I5{α:Type}(k:y5->α)(e:Nat->α)(z:α)(p:M7)(s:y5):α:=let t1:=(X5 ⟨(rdR tV p.eh0 (0+s.is8.toNat)).x,(rdR tV p.eh0 (0+s.is8.toNat)).y,(rdR tV p.eh0 (0+s.is8.toNat)).z,rt tP s.B0⟩);(sl (decide (s.is8<p.is7)) (sl (inB s.is8 p.ns0) (sl (ldR tV p.eh0 (0+s.is8.toNat)) (sl ((cnE tP s.B0)&&true) (sl (Nat.beq t1.alt 1) (sl t1.bs0 (e 1) (k ⟨W (s.is8+1),t1.O0⟩)) z) z) z) z) (e 2))
noncomputable def K5(p:M7)(s:y5):Stp y5:=I5 .next .exit .fail p s
noncomputable def ka2:Lo M7 y5:=⟨En Fa6,2,ue3,[1,0,1,4,4],[0,1,7,8],.p,[⟨.s (.o (.sl 0 0 (some 0) none))::.fn 55 [.o (.ptr 1 0 0 0)]::ru2 5 (sIq::sIq::ru2 10 []),[⟨25,3,true,none⟩,⟨0,1,true,some [[.c 4 (nL tP)]]⟩],λa H=>(⟨slN (slT a 0),aIq a 7,elT H 0⟩,⟨aIq a 8,hLq tP H 1 0 0⟩)⟩],K5,[(none,λp s=>let t1:=(X5 ⟨(rdR tV p.eh0 (0+s.is8.toNat)).x,(rdR tV p.eh0 (0+s.is8.toNat)).y,(rdR tV p.eh0 (0+s.is8.toNat)).z,rt tP s.B0⟩);⟨[i s.is8],[⟨25,3,p.eh0,true,false,0⟩,⟨0,1,[[eL tP t1.O0]],true,false,0⟩]⟩),(some 0,λp s=>upq (za8 p s) [(9,b (decide (s.is8<p.is7)))])],za8⟩
theorem jb5:ka2.Ok:=Lo.ok [] (by kernel_rfl) .nil rfl (.cons (λa H=>by kernel_rfl) .nil) λp s=>(.of @I5 (λF _ _ _ _ _=>by unfold I5;(repeat' apply r9 (f:=F))<;>rfl) (by kernel_rfl))
structure ca5 where
 alt:Nat
 is0:Int
 B0:List Pln
noncomputable def J5{α:Type}(kk:ca5->α)(x:ca4):α:=let t1:=(lp (K5 (⟨x.ns0,(↑x.ns0:Int),x.eh0⟩:M7)) (⟨0,rt tP x.B0⟩:y5));let t2:=(X5 ⟨(rdR tV x.eh0 (0+t1.2.is8.toNat)).x,(rdR tV x.eh0 (0+t1.2.is8.toNat)).y,(rdR tV x.eh0 (0+t1.2.is8.toNat)).z,rt tP t1.2.B0⟩);(sl ((cnE tP x.B0)&&true) (sl (Nat.beq t1.1 1) (kk ⟨1,t1.2.is8,t2.O0⟩) (sl (Nat.beq t1.1 2) (kk ⟨1,-1,t1.2.B0⟩) (kk ⟨0,0,[]⟩))) (kk ⟨0,0,[]⟩))
noncomputable def ca6(x:ca4):ca5:=J5 (λr=>r) x
noncomputable def na9(x:ca4)(r:ca5):DT (b7×List c8):=(.ite (Nat.beq r.alt 1) (.ret (i r.is0,[⟨25,3,x.eh0,true,false,0⟩,⟨0,1,[[eL tP r.B0]],true,false,0⟩])) .fail)
theorem wb2{α β:Type}(F:α->β)(kk:ca5->α)(x:ca4):F (J5 kk x)=J5 (λr=>F (kk r)) x:=by unfold J5;(repeat' apply r9 (f:=F))<;>rfl
noncomputable def Ka6:Sum:=zb9 ⟨[.s (.o (.sl 0 0 (some 0) none)),.fn 55 [.o (.ptr 1 0 0 0)]],[⟨25,3,true,none⟩,⟨0,1,true,some [[.c 4 (nL tP)]]⟩],λa H=>(⟨slN (slT a 0),elT H 0,hLq tP H 1 0 0⟩,())⟩ (λx=>na9 x (ca6 x))
theorem rb6:i7 prog G 88 Ka6:=ja6 (enc:=λx=>⟨[.sl 0 0 x.ns0 0,.fn 55 [.ptr 1 0 0 0]],[⟨25,3,x.eh0,true,false,0⟩,⟨0,1,[[eL tP x.B0]],true,false,0⟩]⟩) (λa H=>by kernel_rfl) (bd b88 lb5) λx=>Ea4 (.s .p (.s (.s .p (.b (.u ka2.ls))) .p)) [ka2.pr] (by kernel_rfl) (.cons jb5 .nil) (Qix (b:=J5 (λr=>(na9 x r).run) x) (by kernel_rfl) (wb2 (λr=>(na9 x r).run) (λr=>r) x).symm)
structure ca7 where
 ns0:Nat
 eh0:List (List b7)
 B0:List Pln
noncomputable def Fa7:List (Nat×Sum):=[(88,Ka6),(55,Sa6)]
theorem lb6:k8 prog G Fa7:=⟨rb6,ob3,trivial⟩
structure M8 where
 ns0:Nat
structure A1 where
 (is5 is6:Int)
 eh0:List (List b7)
 B0:List Pln
noncomputable def za9(p:M8)(s:A1):St:=⟨.sl 0 0 p.ns0 0::.fn 55 [.ptr 1 0 0 0]::ra 3 (i s.is5::i s.is6::ra 35 []),[⟨25,3,s.eh0,true,false,0⟩,⟨0,1,[[eL tP s.B0]],true,false,0⟩]⟩
noncomputable def I6{α:Type}(k:A1->α)(e:Nat->α)(z:α)(p:M8)(s:A1):α:=let t1:=(X5 ⟨(rdR tV s.eh0 (0+s.is6.toNat)).x,(rdR tV s.eh0 (0+s.is6.toNat)).y,(rdR tV s.eh0 (0+s.is6.toNat)).z,rt tP s.B0⟩);(sl (decide (s.is6<(↑p.ns0:Int))) (sl (inB s.is6 p.ns0) (sl (ldR tV s.eh0 (0+s.is6.toNat)) (sl ((cnE tP s.B0)&&true) (sl (Nat.beq t1.alt 1) (sl (!t1.bs0) (sl (inB s.is5 p.ns0) (sl ((Nat.blt (0+s.is5.toNat) (len s.eh0))&&(Nat.ble (0+3) (len (f7 s.eh0 (0+s.is5.toNat))))) (k ⟨W (s.is5+1),W (s.is6+1),setAt s.eh0 (0+s.is5.toNat) (V5 (f7 s.eh0 (0+s.is5.toNat)) 0 [i (rdR tV s.eh0 (0+s.is6.toNat)).x,i (rdR tV s.eh0 (0+s.is6.toNat)).y,i (rdR tV s.eh0 (0+s.is6.toNat)).z]),t1.O0⟩) z) z) (k ⟨s.is5,W (s.is6+1),s.eh0,t1.O0⟩)) z) z) z) z) (e 1))
noncomputable def E0(p:M8)(s:A1):Stp A1:=I6 .next .exit .fail p s
noncomputable def ka3:Lo M8 A1:=⟨En Fa7,2,ff9,[1,1,1,0,1,4,4],[0,1,5,6],.p,[⟨.s (.o (.sl 0 0 (some 0) none))::.fn 55 [.o (.ptr 1 0 0 0)]::ru2 3 (sIq::sIq::ru2 35 []),[⟨25,3,true,none⟩,⟨0,1,true,some [[.c 4 (nL tP)]]⟩],λa H=>(⟨slN (slT a 0)⟩,⟨aIq a 5,aIq a 6,elT H 0,hLq tP H 1 0 0⟩)⟩],E0,[(some 0,λp s=>upq (za9 p s) [(16,i s.is6),(17,.sl 0 0 p.ns0 0),(18,i (↑p.ns0:Int)),(19,b (decide (s.is6<(↑p.ns0:Int))))])],za9⟩
theorem jb6:ka3.Ok:=Lo.ok [] (by kernel_rfl) .nil rfl (.cons (λa H=>by kernel_rfl) .nil) λp s=>(.of @I6 (λF _ _ _ _ _=>by unfold I6;(repeat' apply r9 (f:=F))<;>rfl) (by kernel_rfl))
structure ca8 where
 (alt ns0:Nat)
 eh0:List (List b7)
 B0:List Pln
noncomputable def J6{α:Type}(kk:ca8->α)(x:ca7):α:=let t1:=(ca6 ⟨x.ns0,x.eh0,rt tP x.B0⟩);let t2:=(lp (E0 (⟨x.ns0⟩:M8)) (⟨t1.is0,W (t1.is0+1),x.eh0,rt tP t1.B0⟩:A1));(sl ((cnE tP x.B0)&&true) (sl (Nat.beq t1.alt 1) (sl (t1.is0==(-1)) (kk ⟨1,x.ns0,x.eh0,t1.B0⟩) (sl ((cnE tP t1.B0)&&true) (sl (Nat.beq t2.1 1) (sl (inB t2.2.is5 (x.ns0+1)) (sl (inB t2.2.is5 (x.ns0+1)) (kk ⟨1,t2.2.is5.toNat-0,app (L3 t2.2.eh0 (0+t2.2.is5.toNat)) (app (List.replicate (x.ns0-t2.2.is5.toNat) [i 0,i 0,i 0]) (g8 t2.2.eh0 ((0+t2.2.is5.toNat)+(x.ns0-t2.2.is5.toNat)))),t2.2.B0⟩) (kk ⟨0,0,[],[]⟩)) (kk ⟨0,0,[],[]⟩)) (kk ⟨0,0,[],[]⟩)) (kk ⟨0,0,[],[]⟩))) (kk ⟨0,0,[],[]⟩)) (kk ⟨0,0,[],[]⟩))
noncomputable def ca9(x:ca7):ca8:=J6 (λr=>r) x
noncomputable def oa0(x:ca7)(r:ca8):DT (b7×List c8):=(.ite (Nat.beq r.alt 1) (.ret (.sl 0 0 r.ns0 0,[⟨25,3,r.eh0,true,false,0⟩,⟨0,1,[[eL tP r.B0]],true,false,0⟩])) .fail)
theorem wb3{α β:Type}(F:α->β)(kk:ca8->α)(x:ca7):F (J6 kk x)=J6 (λr=>F (kk r)) x:=by unfold J6;(repeat' apply r9 (f:=F))<;>rfl
noncomputable def Ka7:Sum:=zb9 ⟨[.s (.o (.sl 0 0 (some 0) none)),.fn 55 [.o (.ptr 1 0 0 0)]],[⟨25,3,true,none⟩,⟨0,1,true,some [[.c 4 (nL tP)]]⟩],λa H=>(⟨slN (slT a 0),elT H 0,hLq tP H 1 0 0⟩,())⟩ (λx=>oa0 x (ca9 x))
theorem rb7:i7 prog G 57 Ka7:=ja6 (enc:=λx=>⟨[.sl 0 0 x.ns0 0,.fn 55 [.ptr 1 0 0 0]],[⟨25,3,x.eh0,true,false,0⟩,⟨0,1,[[eL tP x.B0]],true,false,0⟩]⟩) (λa H=>by kernel_rfl) (bd b57 lb6) λx=>Ea4 (.s .p (.s .p (.s .p (.s (.s .p (.b (.u ka3.ls))) .p)))) [ka3.pr] (by kernel_rfl) (.cons jb6 .nil) (Qix (b:=J6 (λr=>(oa0 x r).run) x) (by kernel_rfl) (wb3 (λr=>(oa0 x r).run) (λr=>r) x).symm)
noncomputable def lc9:List (Nat×Sum):=[(72,Ja2),(73,wa3),(75,za6)]
theorem ec1:k8 prog G lc9:=⟨ab1,Oa1,Qa9,trivial⟩
structure Ca7 where
 (alt ns0:Nat)
 eh0:List (List b7)
noncomputable def ha7{α:Type}(kk:Ca7->α)(x:V3×List V3):α:=let t1:=(ja2 (hC tV (λk=>(tV).row (gL tV (x.1::x.2) k)),tC tV (List.length x.2) (λk=>(tV).row (gL tV (x.1::x.2) k))));let t2:=(Q1 ⟨t1.ns0,app (bL tV (Gb2 (slR tV t1.eh0 0 t1.ns0))) (g8 t1.eh0 t1.ns0)⟩);(sl (okL tV (List.length x.2+1) (λk=>(tV).row (gL tV (x.1::x.2) k))) (sl (Nat.beq t1.alt 1) (sl (Bool.and (Nat.ble t1.ns0 room) (Bool.and (Nat.ble t1.ns0 (len t1.eh0)) (okS tV t1.eh0 0 t1.ns0))) (sl (Nat.beq t2.alt 1) (kk ⟨1,t2.ns0,t2.eh0⟩) (kk ⟨0,0,[]⟩)) (kk ⟨0,0,[]⟩)) (kk ⟨0,0,[]⟩)) (kk ⟨0,0,[]⟩))
noncomputable def Ca8(x:V3×List V3):Ca7:=ha7 (λr=>r) x
noncomputable def Oa3(r:Ca7):DT (b7×List c8):=(.ite (Nat.beq r.alt 1) (.ret (.sl 0 0 r.ns0 0,[⟨25,3,r.eh0,true,false,0⟩])) .fail)
theorem uc5{α β:Type}(F:α->β)(kk:Ca7->α)(x:V3×List V3):F (ha7 kk x)=ha7 (λr=>F (kk r)) x:=by unfold ha7;(repeat' apply r9 (f:=F))<;>rfl
noncomputable def qa4:Sum:=N1 (Bd4 tV) (λx=>Oa3 (Ca8 x))
theorem xa0:i7 prog G 45 qa4:=mb8 (bd b45 ec1) λx=>D1 (Qix (b:=ha7 (λr=>(Oa3 r).run) x) (by kernel_rfl) (uc5 (λr=>(Oa3 r).run) (λr=>r) x).symm)
noncomputable def Ec4:List (Nat×Sum):=[(22,lc7),(45,qa4),(57,Ka7)]
theorem uc6:k8 prog G Ec4:=⟨Xb7,xa0,rb7,trivial⟩
noncomputable def Aa0(x:V3×List V3):Option (b7×List c8):=let t1:=(cb5 (hC tV (λk=>(tV).row (gL tV (x.1::x.2) k)),tC tV (List.length x.2) (λk=>(tV).row (gL tV (x.1::x.2) k))));let t2:=(Ca8 (hC tV (λk=>(tV).row (gL tV (x.1::x.2) k)),tC tV (List.length x.2) (λk=>(tV).row (gL tV (x.1::x.2) k))));let t3:=(ca9 ⟨t2.ns0,t2.eh0,rt tP t1.1⟩);(sl (okL tV (List.length x.2+1) (λk=>(tV).row (gL tV (x.1::x.2) k))) (sl (cb6 (hC tV (λk=>(tV).row (gL tV (x.1::x.2) k)),tC tV (List.length x.2) (λk=>(tV).row (gL tV (x.1::x.2) k)))) (sl (t1.2 != 0) (some (.tup [.v (.slice none 0 0),i t1.2],[])) (sl (okL tV (List.length x.2+1) (λk=>(tV).row (gL tV (x.1::x.2) k))) (sl (Nat.beq t2.alt 1) (sl ((cnE tP t1.1)&&true) (sl (Nat.beq t3.alt 1) (some (.tup [.sl 0 0 t3.ns0 0,i 0],[⟨25,3,t3.eh0,true,false,0⟩])) none) none) none) none)) none) none)
noncomputable def Nb3(x:V3×List V3):List V3×Int:=N7 (two (r1L tV) r1I) (Aa0 x)
noncomputable def Nb4(x:V3×List V3):Bool:=okO (two (r1L tV) r1I) (Aa0 x)
noncomputable def Sc8:Sum:=N1 (Bd4 tV) (λx=>.guard (Nb4 x) (.ret ((two (r1L tV) r1I).enc (Nb3 x),[])))
theorem Ec5:i7 prog G 32 Sc8:=Ea3 (bd b32 uc6) (two (r1L tV) r1I) (o:=Aa0) λx=>D1 (by kernel_rfl)
end Go.Ev.Ce
namespace Go.Ev.L
open Go Go.Ev
noncomputable def Xe1:Cod Unit where
 enc _:=.v (.slice none 0 0)
 dec x:=match x with
  |.v (.slice none 0 0)=>some ()
  |_=>none
 grd _:=true
 ok x a hx _:=by
  split at hx
  ·exact .refl _
  ·cases hx
noncomputable def cE0:Cod (Addr×Nat) where
 enc z:=.v (.slice (some z.1) 0 z.2)
 dec x:=match x with
  |.v (.slice (some a) 0 c)=>some (a,c)
  |_=>none
 grd _:=true
 ok x a hx _:=by
  split at hx
  ·cases hx;exact .refl _
  ·cases hx
section
variable{α:Type}{t:Ty α}{P:Program}{G:Nat->List Value}{f:FuncId}
theorem Sb5{β:Type}{c:Cod β}{k k':β->DT (b7×List c8)}(h:i7 P G f (N1 c k))(hk:∀a r,(k' a).run=some r->(k a).run=some r):i7 P G f (N1 c k'):=h.le λargs blks r hr=>by
 unfold N1 at hr ⊢
 split at hr
 ·obtain⟨a,h1,hr⟩:=M3 hr;obtain⟨g,hr⟩:=DT.run_guard_some hr;simp only[h1,onO,g];exact hk a r hr
 ·cases hr
theorem ue8{k:List α->DT (b7×List c8)}(hA:i7 P G f (N1 (Bd4 t) λz=>k (z.1::z.2)))(hN:i7 P G f (N1 Xe1 λ_=>k []))(hE:i7 P G f (N1 cE0 λ_=>k [])):i7 P G f (N1 (na0 t) k):=by
 intro args blks r out he W ρ F w args' hH hlen hargs hG;unfold N1 at he
 split at he
 ·rename_i x;obtain⟨a,h1,he⟩:=M3 he;obtain⟨g1,hk⟩:=DT.run_guard_some he;have nilCase:∀v',args'[0]?=some v'->v'=.slice none 0 0->a=[]->fb4 P f/\Calls P f args'.toArray w λe w'=>∃r',e=.returned r'/\M2 W ρ [] F w r out r' w':=λv' hv e ha=>by
   subst ha;refine hN [.v (.slice none 0 0)] [] r out ?_ W ρ F w args' hH hlen (λi x' y' hx hy=>?_) hG
   ·exact hk
   ·match i with
    |0=>cases hx;rw[hv] at hy;cases hy;rw[e];exact .val (.cell (.v _))
    |i+1=>cases hx
  have emptyCase:∀v' ad c,args'[0]?=some v'->v'=.slice (some ad) 0 c->a=[]->fb4 P f/\Calls P f args'.toArray w λe w'=>∃r',e=.returned r'/\M2 W ρ [] F w r out r' w':=λv' ad c hv e ha=>by
   subst ha;refine hE [.v (.slice (some ad) 0 c)] [] r out ?_ W ρ F w args' hH hlen (λi x' y' hx hy=>?_) hG
   ·exact hk
   ·match i with
    |0=>cases hx;rw[hv] at hy;cases hy;rw[e];exact .val (.cell (.v _))
    |i+1=>cases hx
  obtain⟨v',hv⟩:∃v',args'[0]?=some v':=by
   cases args' with
   |nil=>simp at hlen
   |cons v' r'=>exact⟨v',rfl⟩
  cases x with
  |tree e n get =>
   have hb:Nat.beq e t.es=true/\a=lsL t n get:=by
    have h1:(Bool.rec none (some (lsL t n get)) (Nat.beq e t.es):Option (List α))=some a:=h1;cases hb:Nat.beq e t.es with
    |false=>rw[hb] at h1;cases h1
    |true =>
     rw[hb] at h1;have h1:some (lsL t n get)=some a:=h1;injection h1 with h1;exact⟨rfl,h1.symm⟩
   cases n with
   |zero =>
    have ha:a=[]:=hb.2;have hm:=sa6 (hargs 0 _ v' rfl hv);cases hm with
    |tree _ _ _ ad cap cs hs hcap hes hF hw hr=>exact emptyCase _ ad cap hv rfl ha
    |nil=>exact nilCase _ hv rfl ha
   |succ m =>
    have ha:a=hC t get::tC t m get:=hb.2.trans (Bd3 t m get);subst ha;refine hA [.tree e (m+1) get] [] r out ?_ W ρ F w args' hH hlen hargs hG;have hc:(Bd4 t).dec (.tree e (m+1) get)=some (hC t get,tC t m get):=by
     show (Bool.rec none (some (hC t get,tC t m get)) (Nat.beq e t.es):Option (α×List α))=_;rw[hb.1]
    have hg:(Bd4 t).grd (.tree e (m+1) get)=true:=g1;simp only[N1,hc,onO,hg];exact hk
  |v q =>
   have hq:=ia2 (hargs 0 _ v' rfl hv);unfold na0 at h1
   simp only at h1
   split at h1
   ·rename_i heq;cases heq
   ·rename_i heq;injection heq with heq;injection h1 with h1;exact nilCase v' hv (hq.trans heq) h1.symm
   ·rename_i ad c heq;injection heq with heq;injection h1 with h1;exact emptyCase v' _ _ hv (hq.trans heq) h1.symm
   ·cases h1
  |_=>cases h1
 ·cases he
end
end Go.Ev.L
namespace Go.Ev.Ce
open Go Go.Ev Go.Ev.L Go.Proofs
set_option maxRecDepth 100000
noncomputable def Sc9:List (Nat×Sum):=[(44,cb1),(45,qa4),(46,qa2)]
theorem Ec6:k8 prog G Sc9:=⟨rb5,xa0,ta2,trivial⟩
noncomputable def rb8(x:Unit):Option (b7×List c8):=let t1:=(Ca3 []);(sl (Ca4 []) (sl (t1 != 0) (some (.tup [.v (.slice none 0 0),i t1],[])) none) none)
noncomputable def Xb9(x:Unit):List Pln×Int:=N7 (two (r1L tP) r1I) (rb8 x)
noncomputable def Yb0(x:Unit):Bool:=okO (two (r1L tP) r1I) (rb8 x)
noncomputable def Yb1:Sum:=N1 Xe1 (λx=>.guard (Yb0 x) (.ret ((two (r1L tP) r1I).enc (Xb9 x),[])))
theorem Nb5:i7 prog G 22 Yb1:=Ea3 (bd b22 Ec6) (two (r1L tP) r1I) (o:=rb8) λx=>jd3 .p [] (by kernel_rfl) .nil (by kernel_rfl)
noncomputable def uc7:List (Nat×Sum):=[(22,Yb1),(45,qa4)]
theorem mc0:k8 prog G uc7:=⟨Nb5,xa0,trivial⟩
noncomputable def Za3(x:Unit):Option (b7×List c8):=let t1:=(Xb9 ());(sl (Yb0 ()) (sl (t1.2 != 0) (some (.tup [.v (.slice none 0 0),i t1.2],[])) none) none)
noncomputable def Ec7(x:Unit):List V3×Int:=N7 (two (r1L tV) r1I) (Za3 x)
noncomputable def Ec8(x:Unit):Bool:=okO (two (r1L tV) r1I) (Za3 x)
noncomputable def Ec9:Sum:=N1 Xe1 (λx=>.guard (Ec8 x) (.ret ((two (r1L tV) r1I).enc (Ec7 x),[])))
theorem uc8:i7 prog G 32 Ec9:=Ea3 (bd b32 mc0) (two (r1L tV) r1I) (o:=Za3) λx=>D1 (by kernel_rfl)
noncomputable def Tc0:List (Nat×Sum):=[(46,qa2)]
theorem Fc0:k8 prog G Tc0:=⟨ta2,trivial⟩
noncomputable def rb9(x:Addr×Nat):Option (b7×List c8):=none
noncomputable def Yb2(x:Addr×Nat):List Pln×Int:=N7 (two (r1L tP) r1I) (rb9 x)
noncomputable def Yb3(x:Addr×Nat):Bool:=okO (two (r1L tP) r1I) (rb9 x)
noncomputable def Yb4:Sum:=N1 cE0 (λx=>.guard (Yb3 x) (.ret ((two (r1L tP) r1I).enc (Yb2 x),[])))
theorem Nb6:i7 prog G 22 Yb4:=Ea3 (bd b22 Fc0) (two (r1L tP) r1I) (o:=rb9) λx=>jd3 .p [] (by kernel_rfl) .nil (by kernel_rfl)
noncomputable def uc9:List (Nat×Sum):=[(22,Yb4),(45,qa4)]
theorem mc1:k8 prog G uc9:=⟨Nb6,xa0,trivial⟩
noncomputable def Za4(x:Addr×Nat):Option (b7×List c8):=let t1:=(Yb2 x);(sl (Yb3 x) (sl (t1.2 != 0) (some (.tup [.v (.slice none 0 0),i t1.2],[])) none) none)
noncomputable def Fc1(x:Addr×Nat):List V3×Int:=N7 (two (r1L tV) r1I) (Za4 x)
noncomputable def Fc2(x:Addr×Nat):Bool:=okO (two (r1L tV) r1I) (Za4 x)
noncomputable def Fc3:Sum:=N1 cE0 (λx=>.guard (Fc2 x) (.ret ((two (r1L tV) r1I).enc (Fc1 x),[])))
theorem vc0:i7 prog G 32 Fc3:=Ea3 (bd b32 mc1) (two (r1L tV) r1I) (o:=Za4) λx=>D1 (by kernel_rfl)
noncomputable def Tc1:List (Nat×Sum):=[(44,cb1),(46,qa2)]
theorem Fc4:k8 prog G Tc1:=⟨rb5,ta2,trivial⟩
noncomputable def Fa8(x:List V3):Option (b7×List c8):=let t1:=(Ca3 (rt tV x));(sl (okE tV x) (sl (Ca4 (rt tV x)) (sl (t1 != 0) (some (.tup [.v (.slice none 0 0),i t1],[])) none) none) none)
noncomputable def Ua4(x:List V3):List Pln×Int:=N7 (two (r1L tP) r1I) (Fa8 x)
noncomputable def Ua5(x:List V3):Bool:=okO (two (r1L tP) r1I) (Fa8 x)
noncomputable def Yb5:Sum:=N1 (na0 tV) (λx=>.guard (Ua5 x) (.ret ((two (r1L tP) r1I).enc (Ua4 x),[])))
theorem Nb7:i7 prog G 22 Yb5:=Ea3 (bd b22 Fc4) (two (r1L tP) r1I) (o:=Fa8) λx=>jd3 .p [] (by kernel_rfl) .nil (by kernel_rfl)
noncomputable def vc1:List (Nat×Sum):=[(22,Yb5)]
theorem mc2:k8 prog G vc1:=⟨Nb7,trivial⟩
noncomputable def ua1(x:List V3):Option (b7×List c8):=let t1:=(Ua4 (rt tV x));(sl (okE tV x) (sl (Ua5 (rt tV x)) (sl (t1.2 != 0) (some (.tup [.v (.slice none 0 0),i t1.2],[])) none) none) none)
noncomputable def Za5(x:List V3):List V3×Int:=N7 (two (r1L tV) r1I) (ua1 x)
noncomputable def Za6(x:List V3):Bool:=okO (two (r1L tV) r1I) (ua1 x)
noncomputable def Fc5:Sum:=N1 (na0 tV) (λx=>.guard (Za6 x) (.ret ((two (r1L tV) r1I).enc (Za5 x),[])))
theorem vc2:i7 prog G 32 Fc5:=Ea3 (bd b32 mc2) (two (r1L tV) r1I) (o:=ua1) λx=>D1 (by kernel_rfl)
noncomputable def rm(p:Pln)(x:Pt):Int:=W (p.b*x.pw-(p.n.x*x.px+p.n.y*x.py+p.n.z*x.pz))
structure Bd(p:Pln):Prop where
 x1:-4608<=p.n.x
 x2:p.n.x<=4608
 y1:-4608<=p.n.y
 y2:p.n.y<=4608
 z1:-4608<=p.n.z
 z2:p.n.z<=4608
 b1:-2097152<=p.b
 b2:p.b<=2097152
def mv(p q r:Pln):V3 :=
 ⟨(c7 q.n r.n).x*p.b+(c7 r.n p.n).x*q.b+(c7 p.n q.n).x*r.b,
  (c7 q.n r.n).y*p.b+(c7 r.n p.n).y*q.b+(c7 p.n q.n).y*r.b,
  (c7 q.n r.n).z*p.b+(c7 r.n p.n).z*q.b+(c7 p.n q.n).z*r.b⟩
def gc(v:V3)(w:Int):Int:=(Nat.gcd (Nat.gcd v.x.natAbs v.y.natAbs) (Nat.gcd v.z.natAbs w.natAbs):Nat)
def mpt(p q r:Pln):Pt×Bool :=
 if mw p q r=0 then (⟨0,0,0,0⟩,false)
 else if mw p q r<0 then (⟨Int.tdiv (-(mv p q r).x) (gc (mv p q r) (mw p q r)),Int.tdiv (-(mv p q r).y) (gc (mv p q r) (mw p q r)),Int.tdiv (-(mv p q r).z) (gc (mv p q r) (mw p q r)),Int.tdiv (-(mw p q r)) (gc (mv p q r) (mw p q r))⟩,true)
 else (⟨Int.tdiv (mv p q r).x (gc (mv p q r) (mw p q r)),Int.tdiv (mv p q r).y (gc (mv p q r) (mw p q r)),Int.tdiv (mv p q r).z (gc (mv p q r) (mw p q r)),Int.tdiv (mw p q r) (gc (mv p q r) (mw p q r))⟩,true)
def Sm(n:Int)(x:Int):Prop:=-n<=x/\x<=n
theorem wb4{a b:V3}(ha:Sm 4608 a.x/\Sm 4608 a.y/\Sm 4608 a.z)(hb:Sm 4608 b.x/\Sm 4608 b.y/\Sm 4608 b.z):Sm 42467328 (c7 a b).x/\Sm 42467328 (c7 a b).y/\Sm 42467328 (c7 a b).z:=by
 obtain⟨⟨a1,a2⟩,⟨a3,a4⟩,a5,a6⟩:=ha;obtain⟨⟨b1,b2⟩,⟨b3,b4⟩,b5,b6⟩:=hb;have h1:=mb a3 a4 b5 b6;have h2:=mb a5 a6 b3 b4;have h3:=mb a5 a6 b1 b2;have h4:=mb a1 a2 b5 b6;have h5:=mb a1 a2 b3 b4;have h6:=mb a3 a4 b1 b2;unfold Sm c7
 simp only
 omega
theorem Bd.n{p:Pln}(h:Bd p):Sm 4608 p.n.x/\Sm 4608 p.n.y/\Sm 4608 p.n.z:=⟨⟨h.x1,h.x2⟩,⟨h.y1,h.y2⟩,h.z1,h.z2⟩
theorem if0{p q r:Pln}(hp:Bd p)(hq:Bd q)(hr:Bd r):Sm 600000000000 (mw p q r):=by
 obtain⟨⟨c1,c2⟩,⟨c3,c4⟩,c5,c6⟩:=wb4 hq.n hr.n;have h1:=mb hp.x1 hp.x2 c1 c2;have h2:=mb hp.y1 hp.y2 c3 c4;have h3:=mb hp.z1 hp.z2 c5 c6;unfold Sm mw dot;omega
theorem if1{p q r:Pln}(hp:Bd p)(hq:Bd q)(hr:Bd r):Sm 300000000000000 (mv p q r).x/\Sm 300000000000000 (mv p q r).y/\Sm 300000000000000 (mv p q r).z:=by
 obtain⟨⟨c1,c2⟩,⟨c3,c4⟩,c5,c6⟩:=wb4 hq.n hr.n;obtain⟨⟨d1,d2⟩,⟨d3,d4⟩,d5,d6⟩:=wb4 hr.n hp.n;obtain⟨⟨e1,e2⟩,⟨e3,e4⟩,e5,e6⟩:=wb4 hp.n hq.n;have a1:=mb c1 c2 hp.b1 hp.b2;have a2:=mb c3 c4 hp.b1 hp.b2;have a3:=mb c5 c6 hp.b1 hp.b2;have b1:=mb d1 d2 hq.b1 hq.b2;have b2:=mb d3 d4 hq.b1 hq.b2;have b3:=mb d5 d6 hq.b1 hq.b2;have f1:=mb e1 e2 hr.b1 hr.b2;have f2:=mb e3 e4 hr.b1 hr.b2;have f3:=mb e5 e6 hr.b1 hr.b2;unfold Sm mv
 simp only
 omega
theorem Je2(a b:V3):C4 a b=⟨W (c7 a b).x,W (c7 a b).y,W (c7 a b).z⟩:=by
 unfold C4 c7;simp only[sd6,Sd6]
theorem ae3(a b:V3):Z6 a b=⟨W (c7 a b).x,W (c7 a b).y,W (c7 a b).z⟩:=by
 unfold Z6 c7;simp only[sd6,Sd6]
theorem Sd7{v:V3}{w:Int}(h:w≠0):0<gc v w:=by
 unfold gc
 have:0<Nat.gcd v.z.natAbs w.natAbs:=Qis _ (by omega)
 have:=Qis (Nat.gcd v.x.natAbs v.y.natAbs) this
 omega
theorem if2{v:V3}{w:Int}(h:w≠0):gc v w<=w.natAbs:=by
 unfold gc;have h1:Nat.gcd v.z.natAbs w.natAbs<=w.natAbs:=Nat.gcd_le_right _ (by omega)
 have h2:0<Nat.gcd v.z.natAbs w.natAbs:=Qis _ (by omega)
 have h3:=Nat.gcd_le_right (m:=Nat.gcd v.x.natAbs v.y.natAbs) (n:=Nat.gcd v.z.natAbs w.natAbs) h2;omega
theorem sb0{x:Int}(h:Sm 1000000000000000000 x):W x=x:=qa7 (by have:=h.1;omega) (by have:=h.2;omega)
theorem Sm.mono{n m x:Int}(h:Sm n x)(hn:n<=m):Sm m x:=⟨by have:=h.1;omega,by have:=h.2;omega⟩
theorem ma3{n x g:Int}(h:Sm n x)(hg:0<g):Sm n (Int.tdiv x g):=by
 have h1:(Int.tdiv x g).natAbs<=x.natAbs:=by rw[Int.natAbs_tdiv];exact Nat.div_le_self _ _
 have:=h.1;have:=h.2
 constructor<;>omega
theorem Sd8{p q r:Pln}(hp:Bd p)(hq:Bd q)(hr:Bd r)(h:(mpt p q r).2=true):0<(mpt p q r).1.pw/\Sm 300000000000000 (mpt p q r).1.px/\Sm 300000000000000 (mpt p q r).1.py/\Sm 300000000000000 (mpt p q r).1.pz/\(mpt p q r).1.pw<=600000000000:=by
 have hw:=if0 hp hq hr;obtain⟨v1,v2,v3⟩:=if1 hp hq hr;have neg:∀{n x:Int},Sm n x->Sm n (-x):=λh=>⟨by have:=h.2;omega,by have:=h.1;omega⟩
 have pos:∀{x:Int},0<x->x.natAbs=(mw p q r).natAbs->0<Int.tdiv x (gc (mv p q r) (mw p q r)):=λ{x} hx he=>by
  have h0:mw p q r≠0:=by omega
  have h1:=Sd7 (v:=mv p q r) h0;have h2:=if2 (v:=mv p q r) h0;rw[Int.tdiv_eq_ediv_of_nonneg (by omega)]
  exact Int.ediv_pos_of_pos_of_dvd hx (by omega) (by
   rw[<- Qit,he];exact Qii.2 (Qiu (Qik _ _) (Qik _ _)))
 unfold mpt at h ⊢;by_cases h0:mw p q r=0
 ·rw[if_pos h0] at h;cases h
 ·rw[if_neg h0];have hg:=Sd7 (v:=mv p q r) h0;by_cases h1:mw p q r<0
  ·rw[if_pos h1];exact⟨pos (by omega) (by omega),ma3 (neg v1) hg,ma3 (neg v2) hg,ma3 (neg v3) hg,(ma3 (neg hw) hg).2⟩
  ·rw[if_neg h1];exact⟨pos (by omega) rfl,ma3 v1 hg,ma3 v2 hg,ma3 v3 hg,(ma3 hw hg).2⟩
noncomputable def inn(l:List Pln)(x:Pt):Bool:=l.all λp=>!decide (rm p x<0)
def eqX(x q:Pt):Bool:=q.px==x.px&&(q.py==x.py&&(q.pz==x.pz&&(q.pw==x.pw&&true)))
theorem ae4(x q:Pt):eqX x q=true↔q=x:=by
 unfold eqX;simp only[Qif,Qie,beq_iff_eq];exact⟨λ⟨h1,h2,h3,h4⟩=>by cases q;cases x;simp_all,λh=>by subst h;exact⟨rfl,rfl,rfl,rfl⟩⟩
def Je3(l:List Pt)(x:Pt):Bool:=l.any (eqX x)
theorem ue9(l:List Pt)(x:Pt):Je3 l x=true↔x∈l:=by
 unfold Je3;rw[List.any_eq_true];exact⟨λ⟨q,h,e⟩=>(ae4 x q).1 e ▸ h,λh=>⟨x,h,(ae4 x x).2 rfl⟩⟩
def smb(n x:Int):Bool:=!decide (x < -n)&&!decide (x>n)
theorem Bb7(n x:Int):smb n x=true↔Sm n x:=by unfold smb Sm;simp only[Qie,Qiab,decide_eq_false_iff_not];omega
theorem Tc2(n:Int)(l:List Int)(hn:0<=n/\n<=1000000000)(hl:l.length<=1000000000):ya0 n l=some (b (l.all (smb n)),[]):=by
 have hW:W (0-n)=-n:=by rw[qa7 (by omega) (by omega)];omega
 have h:=Bb5 (step:=la4 ⟨n,l,(l.length:Int)⟩) (mk:=λj=>(⟨(j:Int)⟩:L6)) (c:=λx=>!smb n x) (u:=1) (fin:=2) tI l hl
  (λj hj=>by
   simp only[la4,ia4,Int.toNat_natCast,v8 hj (by omega),hW]
   rw[bt (Sc4 hj),bt (i5 hj)];unfold smb;cases decide (gL tI l j < -n)<;>cases decide (gL tI l j>n)<;>rfl)
  (by simp only[la4,ia4];rw[bf (lc4 (Qiv _))]) 0 (Qiz _)
 rw[Qiy] at h;unfold ya0;simp only[l5,j9];rw[show (⟨0⟩:L6)=⟨((0:Nat):Int)⟩ from rfl,h]
 have e:(l.any λx=>!smb n x)=!l.all (smb n):=by rw[List.not_all_eq_any_not]
 rw[e];cases l.all (smb n)<;>rfl
theorem vc3(n:Int)(l:List Int)(hn:0<=n/\n<=1000000000)(hl:l.length<=1000000000):pa9 n l=l.all (smb n):=by unfold pa9;rw[Tc2 n l hn hl];rfl
theorem vc4(n:Int)(l:List Int)(hn:0<=n/\n<=1000000000)(hl:l.length<=1000000000):qa0 n l=true:=by unfold qa0;rw[Tc2 n l hn hl];rfl
theorem Fd1{n:Int}(h:Sm 1000000000000000000 n):Ca0 n=(n.natAbs:Int):=by
 unfold Ca0;obtain⟨h1,h2⟩:=h;rw[qa7 (by omega) (by omega)]
 split<;>omega
theorem mc3{n:Int}(h:Sm 1000000000000000000 n):xa6 n=some (i (n.natAbs:Int),[]):=by
 unfold xa6;obtain⟨h1,h2⟩:=h;rw[qa7 (by omega) (by omega)]
 by_cases h:n<0
 ·rw[bt (decide_eq_true h)];congr 3;omega
 ·rw[bf (decide_eq_false h)];congr 3;omega
theorem Nb8{n:Int}(h:Sm 1000000000000000000 n):pa6 n=(n.natAbs:Int):=by unfold pa6;rw[mc3 h];rfl
theorem Nb9{n:Int}(h:Sm 1000000000000000000 n):pa7 n=true:=by unfold pa7;rw[mc3 h];rfl
def g3(v:V3):Int:=(Nat.gcd (Nat.gcd v.x.natAbs v.y.natAbs) v.z.natAbs:Nat)
theorem ve0(g n:Nat):eu (g:Int) (n:Int)=(Nat.gcd g n:Nat):=by rw[We5 (by omega) (by omega)];rfl
theorem dd0(P:ba0)(g n:Nat)(hn:n<=1000000000000000000):lp (W0 P) ⟨(g:Int),(n:Int)⟩=(1,⟨(Nat.gcd g n:Nat),0⟩):=by
 have:=zc8 (step:=W0 P) (mk:=λg n=>(⟨g,n⟩:N5)) (λg n h=>by
  have h0:n≠0:=by omega
  simp[W0,ea6,cc6,h,h0]) (λg=>by simp[W0,ea6,cc6]) (g:Int) (n:Int) (by omega) (by omega) (by omega)
 rw[this,ve0]
theorem Tc3(l:List Int)(hl:l.length<=1000000000)(hb:∀x∈l,Sm 1000000000000000000 x):sa8 l=some (i (l.foldl (λg x=>Nat.gcd g x.natAbs) 0:Nat),[]):=by
 have h := Je0 (step := ia5 ⟨(l.length : Int)⟩) (mk := fun j (a : Nat) => (⟨(a : Int), l, (j : Int)⟩ : H8)) (f := fun g x => Nat.gcd g x.natAbs) (fin := 2) tI l (fun _ _ => True) hl (fun j a hj _ => ⟨by
   have hm:=hb _ (ja1 tI hj);have hne:(gL tI l j==(-9223372036854775808:Int))=false:=by
    have:=hm.1
    rw[beq_eq_false_iff_ne];omega
   have hs:(gL tI l j).natAbs<=1000000000000000000:=by obtain⟨h1,h2⟩:=hm;omega
   simp only[ia5,ea7,Int.toNat_natCast,l5,j9,Fd1 hm,dd0 _ _ _ hs,v8 hj (by omega)]
   rw[bt (Sc4 hj),bt (i5 hj),bf hne]
   rfl,trivial⟩) (λa _=>by simp only[ia5,ea7];rw[bf (lc4 (Qiv _))]) 0 (Qiz _) 0 trivial
 have h:=h.1;rw[Qiy] at h;unfold sa8;simp only[l5,j9];rw[show (⟨0,l,0⟩:H8)=⟨((0:Nat):Int),l,((0:Nat):Int)⟩ from rfl,h]
 rfl
def okp(p:Pln):Bool:=[p.n.x,p.n.y,p.n.z].all (smb 4608)&&(g3 p.n==1&&[p.b].all (smb 2097152))
theorem Xe2(p:Pln):Bd p↔[p.n.x,p.n.y,p.n.z].all (smb 4608)=true/\[p.b].all (smb 2097152)=true:=by
 simp only[List.all_cons,List.all_nil,Qif,Qie,Bb7,Sm];exact⟨λh=>⟨⟨⟨h.x1,h.x2⟩,⟨h.y1,h.y2⟩,h.z1,h.z2⟩,h.b1,h.b2⟩,λ⟨⟨⟨a,b⟩,⟨c,d⟩,e,f⟩,g,h⟩=>⟨a,b,c,d,e,f,g,h⟩⟩
theorem Bb8{p:Pln}(h:okp p=true):Bd p:=by
 unfold okp at h;rw[Qie,Qie] at h;exact (Xe2 p).2 ⟨h.1,h.2.2⟩
theorem sm3{v:V3}(h:[v.x,v.y,v.z].all (smb 4608)=true):Sm 4608 v.x/\Sm 4608 v.y/\Sm 4608 v.z:=by
 simpa only[List.all_cons,List.all_nil,Qif,Qie,Bb7] using h
theorem Fd2(p:Pln):Ea5 p=some (b (okp p),[]):=by
 unfold Ea5 okp;have l3:[p.n.x,p.n.y,p.n.z].length<=1000000000:=by simp
 have l1:[p.b].length<=1000000000:=by simp
 simp only[vc3 4608 _ (by omega) l3,vc4 4608 _ (by omega) l3,vc3 2097152 _ (by omega) l1,vc4 2097152 _ (by omega) l1]
 cases hw:[p.n.x,p.n.y,p.n.z].all (smb 4608) with
 |false=>rfl
 |true =>
  obtain⟨h1,h2,h3⟩:=sm3 hw;have hd:=Tc3 [p.n.x,p.n.y,p.n.z] l3 (by
   intro x hx;simp only[Qia,Qiad,or_false] at hx
   rcases hx with rfl|rfl|rfl
   ·exact h1.mono (by omega)
   ·exact h2.mono (by omega)
   ·exact h3.mono (by omega))
  have hg:([p.n.x,p.n.y,p.n.z].foldl (λg x=>Nat.gcd g x.natAbs) 0:Nat)=Nat.gcd (Nat.gcd p.n.x.natAbs p.n.y.natAbs) p.n.z.natAbs:=by
   simp only[List.foldl_cons,List.foldl_nil,Nat.gcd_zero_left]
  have hp:da2 [p.n.x,p.n.y,p.n.z]=g3 p.n:=by unfold da2;rw[hd,hg];rfl
  have hgd:da3 [p.n.x,p.n.y,p.n.z]=true:=by unfold da3;rw[hd];rfl
  rw[hp,hgd];cases g3 p.n==1<;>rfl
theorem Je4(p:Pln):Ta7 p=okp p:=by unfold Ta7;rw[Fd2 p];rfl
theorem Je5(p:Pln):Ta8 p=true:=by unfold Ta8;rw[Fd2 p];rfl
theorem vc5(P:la3)(g n:Nat)(hn:n<=1000000000000000000):lp (ga5 P) ⟨(g:Int),(n:Int)⟩=(1,⟨(Nat.gcd g n:Nat),0⟩):=by
 have:=zc8 (step:=ga5 P) (mk:=λg n=>(⟨g,n⟩:R2)) (λg n h=>by
  have h0:n≠0:=by omega
  simp[ga5,xa7,cc6,h,h0]) (λg=>by simp[ga5,xa7,cc6]) (g:Int) (n:Int) (by omega) (by omega) (by omega)
 rw[this,ve0]
theorem sd8 {v : V3} (h1 : Sm 1000000000000000000 v.x) (h2 : Sm 1000000000000000000 v.y) (h3 : Sm 1000000000000000000 v.z) :
  gb7 v=if g3 v=0 then some (.tup [.agg (tV.row ⟨0,0,0⟩),i 0],[]) else some (.tup [.agg (tV.row ⟨W (Int.tdiv v.x (g3 v)),W (Int.tdiv v.y (g3 v)),W (Int.tdiv v.z (g3 v))⟩),i (g3 v)],[]):=by
 have ne:∀{x:Int},Sm 1000000000000000000 x->(x==(-9223372036854775808:Int))=false:=λ{x} h=>by
  have:=h.1
  rw[beq_eq_false_iff_ne];omega
 have bd:∀{x:Int},Sm 1000000000000000000 x->x.natAbs<=1000000000000000000:=λ{x} h=>by obtain⟨h1,h2⟩:=h;omega
 have l1:=vc5 ⟨0,v.x,v.y,v.z,v.x,v.y,v.z⟩ 0 v.x.natAbs (bd h1);rw[Nat.gcd_zero_left] at l1;have l2:=vc5 ⟨1,v.x,v.y,v.z,v.x,v.y,v.z⟩ v.x.natAbs v.y.natAbs (bd h2);have l3:=vc5 ⟨2,v.x,v.y,v.z,v.x,v.y,v.z⟩ (Nat.gcd v.x.natAbs v.y.natAbs) v.z.natAbs (bd h3);unfold gb7;simp only[Nb8 h1,Nb8 h2,Nb8 h3,Nb9 h1,Nb9 h2,Nb9 h3];rw[show (⟨0,(v.x.natAbs:Int)⟩:R2)=⟨((0:Nat):Int),(v.x.natAbs:Int)⟩ from rfl]
 simp only[l1,l2,l3,ne h1,ne h2,ne h3];rw[show ((Nat.gcd (Nat.gcd v.x.natAbs v.y.natAbs) v.z.natAbs:Nat):Int)=g3 v from rfl]
 by_cases h:g3 v=0
 ·rw[if_pos h,show (g3 v==0)=true from by rw[h];rfl];rfl
 ·rw[if_neg h,show (g3 v==0)=false from by rw[beq_eq_false_iff_ne];exact h];rfl
theorem Tc4{v:V3}(h1:Sm 1000000000000000000 v.x)(h2:Sm 1000000000000000000 v.y)(h3:Sm 1000000000000000000 v.z):(Ia7 v).2=g3 v:=by
 unfold Ia7;rw[sd8 h1 h2 h3];split
 ·rename_i h;rw[h];rfl
 ·rfl
theorem Xe3{v:V3}(h1:Sm 1000000000000000000 v.x)(h2:Sm 1000000000000000000 v.y)(h3:Sm 1000000000000000000 v.z)(h:g3 v≠0):Ia7 v=(⟨W (Int.tdiv v.x (g3 v)),W (Int.tdiv v.y (g3 v)),W (Int.tdiv v.z (g3 v))⟩,g3 v):=by
 unfold Ia7;rw[sd8 h1 h2 h3,if_neg h];rfl
theorem ve1{v:V3}(h1:Sm 1000000000000000000 v.x)(h2:Sm 1000000000000000000 v.y)(h3:Sm 1000000000000000000 v.z):gb8 v=true:=by
 unfold gb8;rw[sd8 h1 h2 h3]
 split<;>rfl
theorem jd8(p:Pln):Va6 p=some (b (okp p),[]):=by
 unfold Va6 okp;cases hw:[p.n.x,p.n.y,p.n.z].all (smb 4608) with
 |false =>
  simp only[List.all_cons,List.all_nil,Qif,smb] at hw;cases h1:decide (p.n.x < -4608)<;>cases h2:decide (p.n.x>4608)<;>cases h3:decide (p.n.y < -4608)<;>cases h4:decide (p.n.y>4608)<;>cases h5:decide (p.n.z < -4608)<;>cases h6:decide (p.n.z>4608)<;>simp only[h1,h2,h3,h4,h5,h6] at hw ⊢<;>first | rfl | cases hw
 |true =>
  obtain⟨h1,h2,h3⟩:=sm3 hw;rw[bf (decide_eq_false (by have:=h1.1;omega)),bf (decide_eq_false (by have:=h1.2;omega)),bf (decide_eq_false (by have:=h2.1;omega)),bf (decide_eq_false (by have:=h2.2;omega)),bf (decide_eq_false (by have:=h3.1;omega)),bf (decide_eq_false (by have:=h3.2;omega))]
  have k1:=h1.mono (m:=1000000000000000000) (by omega)
  have k2:=h2.mono (m:=1000000000000000000) (by omega)
  have k3:=h3.mono (m:=1000000000000000000) (by omega)
  rw[bt (ve1 k1 k2 k3),Tc4 k1 k2 k3];cases g3 p.n==1 with
  |false=>rfl
  |true =>
   simp only[List.all_cons,List.all_nil,Qif,smb,Bool.true_and];rw[y7];by_cases ha:p.b < -2097152
   ·rw[bf (decide_eq_false (by omega)),show decide (p.b < -2097152)=true from decide_eq_true ha];rfl
   ·rw[bt (decide_eq_true (by omega)),show decide (p.b < -2097152)=false from decide_eq_false ha]
    congr 3;by_cases hc:p.b<=2097152
    ·rw[decide_eq_true hc,decide_eq_false (by omega)];rfl
    ·rw[decide_eq_false hc,decide_eq_true (by omega)];rfl
theorem ve2(p:Pln):nb2 p=okp p:=by unfold nb2;rw[jd8 p];rfl
theorem Fd3(p:Pln):nb3 p=true:=by unfold nb3;rw[jd8 p];rfl
def chk(l:List Pln):Int:=if (l.length:Int)>48 then 2 else if l.all okp then 0 else 12
theorem Tc5{l:List Pln}:chk l=0↔l.length<=48/\∀p∈l,okp p=true:=by
 unfold chk;by_cases hn:(l.length:Int)>48
 ·rw[if_pos hn];exact⟨λh=>absurd h (by decide),λh=>by omega⟩
 ·rw[if_neg hn];cases h:l.all okp with
  |true=>exact⟨λ_=>⟨by omega,Qip.1 h⟩,λ_=>rfl⟩
  |false=>exact⟨λh=>absurd h (by decide),λh'=>by rw[Qip.2 h'.2] at h;cases h⟩
theorem btD{p:Prop}{inst:Decidable p}(h:p){α:Type}(t e:α):sl (@decide p inst) t e=t:=bt (decide_eq_true h) t e
theorem bfD{p:Prop}{inst:Decidable p}(h:¬ p){α:Type}(t e:α):sl (@decide p inst) t e=e:=bf (decide_eq_false h) t e
theorem j7{j n:Nat}(h:j<n):(j:Int)<(n:Int):=Int.ofNat_lt.2 h
theorem j6{j n:Nat}(h:¬ j<n):¬ (j:Int)<(n:Int):=λh'=>h (Int.ofNat_lt.1 h')
noncomputable def mc4(r:List Pln)(p q:Pln)(out:List Pt)(s:Pln):List Pt :=
 if (mpt p q s).2&&(!Je3 out (mpt p q s).1&&inn r (mpt p q s).1) then out++[(mpt p q s).1] else out
noncomputable def ke3(r:List Pln)(p q:Pln)(l:List Pln)(out:List Pt):List Pt:=l.foldl (mc4 r p q) out
noncomputable def Fd4(r:List Pln)(p:Pln):List Pln->List Pt->List Pt
 |[],out=>out
 |q::l,out=>Fd4 r p l (ke3 r p q l out)
noncomputable def Sd9(r:List Pln):List Pln->List Pt->List Pt
 |[],out=>out
 |p::l,out=>Sd9 r l (Fd4 r p l out)
noncomputable def cor(r:List Pln):List Pt:=Sd9 r r []
def Bds(r:List Pln):Prop:=∀p∈r,Bd p
noncomputable def ph(out:List Pt):Nat:=match out with
 |[]=>0
 |_::_=>1
theorem Jc5{α:Type}(t:Ty α)(l:List α)(n k:Nat):gL t (l.drop n) k=gL t l (n+k):=by simp[gL,Qir,List.getElem?_drop]
theorem jd9{ρ:Type}(R:RR ρ){x:b7×List c8}{r:ρ}(h:R.rd x=some r):N7 R (some x)=r:=by
 show Option.rec (motive:=λ_=>ρ) R.d (λx=>x) (R.rd x)=r
 rw[h]
theorem Fd5{ρ:Type}(R:RR ρ){x:b7×List c8}{r:ρ}(h:R.rd x=some r):okO R (some x)=true:=by
 show Option.rec (motive:=λ_=>Bool) false (λ_=>true) (R.rd x)=true
 rw[h]
@[reducible] noncomputable def flK:List (Nat×CK):=[(0,.int .i64),(1,.int .i64),(2,.int .i64),(3,.int .i64)]
theorem Xe4(s:Pln):((Nat.ble 4 (len (tP.row s)))&&(ea5 [CK.int .i64,CK.int .i64,CK.int .i64,CK.int .i64] (tP.row s)))=true:=rfl
noncomputable def slP(l:List Pln):b7×List c8:=(.sl 0 0 l.length 0,[⟨60,4,bL tP l,true,false,0⟩])
theorem Xe5(l:List Pln):(one (r1L tP)).rd (slP l)=some l:=by
 show Bool.rec (motive:=λ_=>Option (List Pln)) none (some (slR tP (bL tP l) 0 l.length)) (Bool.and true (okS tP (bL tP l) 0 l.length))=_
 rw[cc7,rc0];rfl
theorem ae5{α:Type}(t:Ty α)(l:List α):(one (r1L t)).rd (eL t l,[])=some l:=by
 show Bool.rec (motive:=λ_=>Option (List α)) none (some (rt t l)) (Bool.and (Nat.beq t.es t.es) (okE t l))=_
 rw[l5,L5,Qih];rfl
noncomputable def ws:List Pln:=[⟨⟨1,0,0⟩,24⟩,⟨⟨-1,0,0⟩,24⟩,⟨⟨0,1,0⟩,24⟩,⟨⟨0,-1,0⟩,24⟩,⟨⟨0,0,1⟩,24⟩,⟨⟨0,0,-1⟩,24⟩]
theorem if3:Bds ws:=by
 intro p hp
 have:okp p=true:=by
  have h:ws.all okp=true:=by decide
  exact Qip.1 h p hp
 exact Bb8 this
noncomputable def pos(X:List Pt)(p:Pln):Bool:=X.any λx=>decide (rm p x>0)
noncomputable def Je6(r:List Pln):Bool:=r.all (pos (cor r))
theorem Je7{c:List Pln}(h:(chk c==0)=true):Bds (c++ws)/\(c++ws).length<=200:=by
 rw[beq_iff_eq,Tc5] at h;refine⟨λp hp=>?_,by rw[Qiaa,show ws.length=6 from rfl];omega⟩
 rcases Qiag.1 hp with hp|hp
 ·exact Bb8 (h.2 p hp)
 ·exact if3 p hp
noncomputable def pts(c:List Pln):List Pt:=if chk c==0 then cor (c++ws) else []
noncomputable def ful(c:List Pln):Bool:=(chk c==0)&&Je6 (c++ws)
theorem Fd6{Q:Pt->Prop}(r:List Pln)(p q:Pln):∀(l:List Pln) (out:List Pt),(∀s∈l,(mpt p q s).2=true->inn r (mpt p q s).1=true->Q (mpt p q s).1)->(∀x∈out,Q x)->∀x∈ke3 r p q l out,Q x
 |[],out,_,h=>h
 |s::l,out,hs,h=>Fd6 r p q l (mc4 r p q out s) (λt ht=>hs t (Qib _ ht)) λx hx=>by
  unfold mc4 at hx
  split at hx
  ·rename_i hc;rw[Qie,Qie] at hc
   rcases Qiag.1 hx with hx|hx
   ·exact h x hx
   ·rw[List.mem_singleton] at hx;subst hx;exact hs s Qic hc.1 hc.2.2
  ·exact h x hx
theorem Fd7{Q:Pt->Prop}(r:List Pln)(p:Pln):∀(l:List Pln) (out:List Pt),(∀q∈l,∀s∈l,(mpt p q s).2=true->inn r (mpt p q s).1=true->Q (mpt p q s).1)->(∀x∈out,Q x)->∀x∈Fd4 r p l out,Q x
 |[],out,_,h=>h
 |q::l,out,hs,h=>Fd7 r p l _ (λa ha t ht=>hs a (Qib _ ha) t (Qib _ ht)) (Fd6 r p q l out (λt ht=>hs q Qic t (Qib _ ht)) h)
theorem Fd8{Q:Pt->Prop}(r:List Pln):∀(l:List Pln) (out:List Pt),(∀p∈l,∀q∈l,∀s∈l,(mpt p q s).2=true->inn r (mpt p q s).1=true->Q (mpt p q s).1)->(∀x∈out,Q x)->∀x∈Sd9 r l out,Q x
 |[],out,_,h=>h
 |p::l,out,hs,h=>Fd8 r l _ (λa ha c hc t ht=>hs a (Qib _ ha) c (Qib _ hc) t (Qib _ ht)) (Fd7 r p l out (λc hc t ht=>hs p Qic c (Qib _ hc) t (Qib _ ht)) h)
theorem ae6{Q:Pt->Prop}{r:List Pln}(hs:∀p∈r,∀q∈r,∀s∈r,(mpt p q s).2=true->inn r (mpt p q s).1=true->Q (mpt p q s).1):∀x∈cor r,Q x :=
 Fd8 r r [] hs λx hx=>by cases hx
structure Okx(x:Pt):Prop where
 w1:0<x.pw
 w2:x.pw<=600000000000
 c1:Sm 300000000000000 x.px
 c2:Sm 300000000000000 x.py
 c3:Sm 300000000000000 x.pz
theorem sd9{r:List Pln}(hb:Bds r):∀x∈cor r,Okx x:=ae6 λp hp q hq s hs h _=>by
 obtain⟨h1,h2,h3,h4,h5⟩:=Sd8 (hb p hp) (hb q hq) (hb s hs) h;exact⟨h1,h5,h2,h3,h4⟩
theorem ve3{x y:Int}(hy:0<y):Int.tmod x y+y*Int.tdiv x y=x/\-y<Int.tmod x y/\Int.tmod x y<y:=by
 refine⟨Int.tmod_add_mul_tdiv x y,?_,Int.tmod_lt_of_pos x hy⟩
 have:=Int.lt_tmod_of_pos x hy
 omega
theorem ve4(x:Int){y:Int}(hy:0<y)(hy2:y<=4000000000000000000):ub1 x y=some (i (x % y),[]):=by
 have hz:(y==0)=false:=by rw[beq_eq_false_iff_ne];omega
 obtain⟨h1,h2,h3⟩:=ve3 (x:=x) hy;unfold ub1;rw[bfD (by omega),bf hz,bf hz,qa7 (by omega) (by omega),Int.tmod_eq_emod_of_nonneg (by omega)]
 congr 3;rw[Int.add_emod_right]
 conv=>rhs;rw[<- h1]
 rw[Int.add_mul_emod_self_left]
theorem if4(x:Int){y:Int}(hy:0<y)(hy2:y<=4000000000000000000):Sb2 x y=x % y:=by unfold Sb2;rw[ve4 x hy hy2];rfl
theorem if5(x:Int){y:Int}(hy:0<y)(hy2:y<=4000000000000000000):Sb3 x y=true:=by unfold Sb3;rw[ve4 x hy hy2];rfl
theorem Sm.neg{n x:Int}(h:Sm n x):Sm n (-x):=⟨by have:=h.2;omega,by have:=h.1;omega⟩
def Nx{σ:Type}(x:Stp σ)(E:Nat->Prop)(N:σ->Prop):Prop:=(∃t,x=.exit t/\E t)\/∃s,x=.next s/\N s
theorem Nx.sl{σ:Type}{c:Bool}{t e:Stp σ}{E:Nat->Prop}{N:σ->Prop}(h1:c=true->Nx t E N)(h2:c=false->Nx e E N):Nx (sl c t e) E N:=by cases c;exact h2 rfl;exact h1 rfl
theorem Nx.ex{σ:Type}{t:Nat}{E:Nat->Prop}{N:σ->Prop}(h:E t):Nx (.exit t) E N:=.inl ⟨t,rfl,h⟩
theorem Nx.nx{σ:Type}{s:σ}{E:Nat->Prop}{N:σ->Prop}(h:N s):Nx (.next s) E N:=.inr ⟨s,rfl,h⟩
theorem F9 {σ τ : Type} {step : σ → Stp σ} {mk : Nat → τ → σ} (n : Nat) (I : Nat → τ → Prop) (E : Nat → σ → Prop) (hn : n ≤ 1000000000)
  (h:∀j a,j<n->I j a->Nx (step (mk j a)) (λt=>E t (mk j a)) (λs=>∃a',s=mk (j+1) a'/\I (j+1) a'))
  (hf:∀j a,n<=j->I j a->∃t,step (mk j a)=.exit t/\E t (mk j a)) (j0:Nat) (a:τ) (hi:I j0 a):∃t s,lp step (mk j0 a)=(t,s)/\E t s:=by
 have key:=tc7 (step:=step) (I:=λm s=>∃j a,m=n-j/\s=mk j a/\I j a) (Q:=E) (λm s ⟨j,a,hm,hs,ha⟩=>by
  subst hs;by_cases hlt:j<n
  ·rcases h j a hlt ha with h1|⟨s',h1,a',h2,h3⟩
   ·exact .inl h1
   ·subst h2;exact .inr ⟨_,n-(j+1),by omega,h1,j+1,a',rfl,rfl,h3⟩
  ·exact .inl (hf j a (by omega) ha)) (n-j0) (mk j0 a) (by omega) ⟨j0,a,rfl,rfl,hi⟩
 exact⟨_,_,rfl,key⟩
def Rd{ρ:Type}(R:RR ρ)(o:Option (b7×List c8))(P:ρ->Prop):Prop:=∃x r,o=some x/\R.rd x=some r/\P r
theorem Rd.p{ρ:Type}{R:RR ρ}{o:Option (b7×List c8)}{P:ρ->Prop}(h:Rd R o P):P (N7 R o):=by
 obtain⟨x,r,h1,h2,h3⟩:=h;rw[h1,jd9 R h2];exact h3
theorem Rd.g{ρ:Type}{R:RR ρ}{o:Option (b7×List c8)}{P:ρ->Prop}(h:Rd R o P):okO R o=true:=by
 obtain⟨x,r,h1,h2,h3⟩:=h;rw[h1];exact Fd5 R h2
theorem Rd.sl{ρ:Type}{R:RR ρ}{c:Bool}{t e:Option (b7×List c8)}{P:ρ->Prop}(h1:c=true->Rd R t P)(h2:c=false->Rd R e P):Rd R (sl c t e) P:=by cases c;exact h2 rfl;exact h1 rfl
theorem mc5 (n : Int) (l : List Int) (j : Int) (h1 : 0 ≤ j) (h2 : j ≤ 1000000) (hn : 0 < n) (hn2 : n ≤ 1000000) :
  ∃v j',D2 ⟨n,l,j⟩=⟨1,v,j'⟩/\0<=v/\v<n/\j<=j'/\j'<=j+1:=by
 unfold D2 ka6
 simp only
 by_cases h:j>=(l.length:Int)
 ·rw[btD h];exact⟨0,j,rfl,by omega,hn,by omega,by omega⟩
 ·rw[bfD h];have hW:W (W (j+1)-1)=j:=by rw[sd6,qa7 (by omega) (by omega)];omega
  have hW2:W (j+1)=j+1:=qa7 (by omega) (by omega)
  have hin:inB j l.length=true:=by rw[Ie9];exact decide_eq_true (by omega)
  rw[hW,hW2,hin,if5 _ hn (by omega),if4 _ hn (by omega)]
  exact⟨_,_,rfl,Int.emod_nonneg _ (by omega),Int.emod_lt_of_pos _ hn,by omega,by omega⟩
def inV(v:V3):Bool:=smb 24 v.x&&(smb 24 v.y&&smb 24 v.z)
theorem Oa4(v:V3):inV v=true↔Sm 24 v.x/\Sm 24 v.y/\Sm 24 v.z:=by unfold inV;rw[Qie,Qie,Bb7,Bb7,Bb7]
theorem ve5(v:V3):Lb8 v=some (b (inV v),[]):=by
 unfold Lb8 inV smb;cases h1:decide (v.x < -24)<;>cases h2:decide (v.x>24)<;>cases h3:decide (v.y < -24)<;>cases h4:decide (v.y>24)<;>cases h5:decide (v.z < -24)<;>cases h6:decide (v.z>24)<;>rfl
theorem ae7(v:V3):Va7 v=inV v:=by unfold Va7;rw[ve5];rfl
theorem Fd9(v:V3):Va8 v=true:=by unfold Va8;rw[ve5];rfl
def sub(a b:V3):V3:=⟨a.x-b.x,a.y-b.y,a.z-b.z⟩
theorem ae8{a b:V3}(ha:inV a=true)(hb:inV b=true):L7 a b=sub a b/\Sm 48 (sub a b).x/\Sm 48 (sub a b).y/\Sm 48 (sub a b).z:=by
 rw[Oa4] at ha hb;obtain⟨⟨a1,a2⟩,⟨a3,a4⟩,a5,a6⟩:=ha;obtain⟨⟨b1,b2⟩,⟨b3,b4⟩,b5,b6⟩:=hb;unfold L7 sub;rw[qa7 (by omega) (by omega),qa7 (by omega) (by omega),qa7 (by omega) (by omega)]
 exact⟨rfl,⟨by show _<=a.x-b.x;omega,by show a.x-b.x<=_;omega⟩,⟨by show _<=a.y-b.y;omega,by show a.y-b.y<=_;omega⟩,⟨by show _<=a.z-b.z;omega,by show a.z-b.z<=_;omega⟩⟩
theorem sb1 {a b c : V3} (ha : inV a = true) (hb : inV b = true) (hc : inV c = true) :
  Z6 (L7 b a) (L7 c a)=c7 (sub b a) (sub c a)/\Sm 4608 (c7 (sub b a) (sub c a)).x/\Sm 4608 (c7 (sub b a) (sub c a)).y/\Sm 4608 (c7 (sub b a) (sub c a)).z:=by
 obtain⟨e1,⟨u1,u2⟩,⟨u3,u4⟩,u5,u6⟩:=ae8 hb ha;obtain⟨e2,⟨v1,v2⟩,⟨v3,v4⟩,v5,v6⟩:=ae8 hc ha;rw[e1,e2,ae3];generalize sub b a=p at *
 generalize sub c a=q at *
 have h1:=mb u3 u4 v5 v6;have h2:=mb u5 u6 v3 v4;have h3:=mb u5 u6 v1 v2;have h4:=mb u1 u2 v5 v6;have h5:=mb u1 u2 v3 v4;have h6:=mb u3 u4 v1 v2;have k:Sm 4608 (c7 p q).x/\Sm 4608 (c7 p q).y/\Sm 4608 (c7 p q).z:=by unfold Sm c7;simp only;omega
 obtain⟨k1,k2,k3⟩:=k;rw[sb0 (k1.mono (by omega)),sb0 (k2.mono (by omega)),sb0 (k3.mono (by omega))]
 exact⟨rfl,k1,k2,k3⟩
def D0(a b c:V3):Pln×Bool :=
 if inV a&&(inV b&&inV c) then
  if g3 (c7 (sub b a) (sub c a))=0 then (⟨⟨0,0,0⟩,0⟩,false)
  else (⟨⟨Int.tdiv (c7 (sub b a) (sub c a)).x (g3 (c7 (sub b a) (sub c a))),Int.tdiv (c7 (sub b a) (sub c a)).y (g3 (c7 (sub b a) (sub c a))),Int.tdiv (c7 (sub b a) (sub c a)).z (g3 (c7 (sub b a) (sub c a)))⟩,
   dot ⟨Int.tdiv (c7 (sub b a) (sub c a)).x (g3 (c7 (sub b a) (sub c a))),Int.tdiv (c7 (sub b a) (sub c a)).y (g3 (c7 (sub b a) (sub c a))),Int.tdiv (c7 (sub b a) (sub c a)).z (g3 (c7 (sub b a) (sub c a)))⟩ a⟩,true)
 else (⟨⟨0,0,0⟩,0⟩,false)
theorem Sb6(v:V3):0<=g3 v:=by unfold g3;omega
theorem Tc6(a c d:V3):Ea7 a c d=some (.tup [.agg (tP.row (D0 a c d).1),b (D0 a c d).2],[]):=by
 unfold Ea7 D0;simp only[ae7,Fd9];cases ha:inV a with
 |false=>rfl
 |true =>
  cases hc:inV c with
  |false=>rfl
  |true =>
   cases hd:inV d with
   |false=>rfl
   |true =>
    obtain⟨e,k1,k2,k3⟩:=sb1 ha hc hd;rw[e];generalize c7 (sub c a) (sub d a)=n at *
    have m1:=k1.mono (m:=1000000000000000000) (by omega)
    have m2:=k2.mono (m:=1000000000000000000) (by omega)
    have m3:=k3.mono (m:=1000000000000000000) (by omega)
    rw[ve1 m1 m2 m3,Tc4 m1 m2 m3];by_cases h0:g3 n=0
    ·rw[show (g3 n==0)=true from by rw[h0];rfl]
     simp only[Bool.and_self,if_true,h0];rfl
    ·have hp:=Sb6 n;have q1:=ma3 (g:=g3 n) k1 (by omega)
     have q2:=ma3 (g:=g3 n) k2 (by omega)
     have q3:=ma3 (g:=g3 n) k3 (by omega)
     rw[show (g3 n==0)=false from by rw[beq_eq_false_iff_ne];exact h0,Xe3 m1 m2 m3 h0]
     simp only[Bool.and_self,if_true,h0,if_false];rw[sb0 (q1.mono (by omega)),sb0 (q2.mono (by omega)),sb0 (q3.mono (by omega))]
     have hdot:aa9 ⟨Int.tdiv n.x (g3 n),Int.tdiv n.y (g3 n),Int.tdiv n.z (g3 n)⟩ a=dot ⟨Int.tdiv n.x (g3 n),Int.tdiv n.y (g3 n),Int.tdiv n.z (g3 n)⟩ a:=by
      unfold aa9;simp only[Nb0,dc8];obtain⟨⟨a1,a2⟩,⟨a3,a4⟩,a5,a6⟩:=(Oa4 a).1 ha;have r1:=mb q1.1 q1.2 a1 a2;have r2:=mb q2.1 q2.2 a3 a4;have r3:=mb q3.1 q3.2 a5 a6;rw[qa7 (by omega) (by omega)]
      rfl
     rw[hdot];rfl
theorem vc6(a b c:V3):va2 a b c=D0 a b c:=by unfold va2;rw[Tc6];rfl
theorem Sb7(a b c:V3):va3 a b c=true:=by unfold va3;rw[Tc6];rfl
theorem Je8(p:Pln)(v:V3):Rd (one r1I) (Ia8 p v) (λ_=>True):=by
 unfold Ia8;simp only[Fd3,Fd9,y7];exact Rd.sl (λ_=>⟨_,_,rfl,rfl,trivial⟩) λ_=>Rd.sl (λ_=>⟨_,_,rfl,rfl,trivial⟩) λ_=>Rd.sl (λ_=>⟨_,_,rfl,rfl,trivial⟩) λ_=>Rd.sl (λ_=>⟨_,_,rfl,rfl,trivial⟩) λ_=>⟨_,_,rfl,rfl,trivial⟩
theorem Ob0(p:Pln)(v:V3):ya3 p v=true:=(Je8 p v).g
theorem if6(P:ra7)(hl:P.e7.length<=1000000000):∃t s,lp (C5 P) ⟨0⟩=(t,s)/\(t=1\/t=2\/t=3):=by
 obtain⟨l,x1,x2,x3,x4,x5,x6,x7,x8⟩:=P;refine F9 (step:=C5 ⟨l,x1,x2,x3,x4,x5,x6,x7,x8⟩) (mk:=λj (_:Unit)=>(⟨(j:Int)⟩:fa3)) l.length (λ_ _=>True) (λt _=>t=1\/t=2\/t=3) hl (λj a hj _=>?_) (λj a hj _=>?_) 0 () trivial
 ·simp only[C5,Z7,Ob0,Int.toNat_natCast,v8 hj (show l.length<=4611686018427387904 from Nat.le_trans hl (by omega))]
  rw[btD (j7 hj),bt (i5 hj),y7];exact Nx.sl (λ_=>Nx.sl (λ_=>.ex (by simp)) λ_=>.nx ⟨(),rfl,trivial⟩) λ_=>.ex (by simp)
 ·simp only[C5,Z7];rw[bfD (by omega)]
  exact⟨_,rfl,by simp⟩
theorem if7(l:List V3)(hl:l.length<=1000000000)(a c:Nat)(ha:a<l.length)(hc:c<a):∃t s,lp (Q7 ⟨(a:Int),(c:Int)⟩) ⟨l,0⟩=(t,s)/\((t=1\/t=2)/\s.e7=l):=by
 refine F9 (step:=Q7 ⟨(a:Int),(c:Int)⟩) (mk:=λj (_:Unit)=>(⟨l,(j:Int)⟩:fa4)) c (λ_ _=>True) (λt s=>(t=1\/t=2)/\s.e7=l) (by omega) (λj x hj _=>?_) (λj x hj _=>?_) 0 () trivial
 ·simp only[Q7,ia6,Sb7,Int.toNat_natCast,l5,j9,v8 hj (show c<=4611686018427387904 by omega)]
  rw[btD (j7 hj),bt (i5 ha),bt (i5 (show c<l.length by omega)),bt (i5 (show j<l.length by omega)),y7]
  generalize hP:ra7.mk _ _ _ _ _ _ _ _ _=P3;obtain⟨t,s,h1,h2⟩:=if6 P3 (by subst hP;exact hl)
  rw[h1]
  rcases h2 with rfl|rfl|rfl
  ·exact .ex (by simp)
  ·exact .nx ⟨(),rfl,trivial⟩
  ·exact .nx ⟨(),rfl,trivial⟩
 ·simp only[Q7,ia6];rw[bfD (by omega)]
  exact⟨_,rfl,by simp⟩
theorem if8(l:List V3)(hl:l.length<=1000000000)(a:Nat)(ha:a<l.length):∃t s,lp (Q8 ⟨(a:Int)⟩) ⟨l,0⟩=(t,s)/\((t=1\/t=2)/\s.e7=l):=by
 refine F9 (step:=Q8 ⟨(a:Int)⟩) (mk:=λj (_:Unit)=>(⟨l,(j:Int)⟩:fa5)) a (λ_ _=>True) (λt s=>(t=1\/t=2)/\s.e7=l) (by omega) (λj x hj _=>?_) (λj x hj _=>?_) 0 () trivial
 ·simp only[Q8,ia7,l5,j9,v8 hj (show a<=4611686018427387904 by omega)]
  obtain⟨t,s,h1,h2,h3⟩:=if7 l hl a j ha hj;rw[btD (j7 hj),h1]
  rcases h2 with rfl|rfl
  ·exact .ex (by simp)
  ·exact .nx ⟨(),by rw[h3],trivial⟩
 ·simp only[Q8,ia7];rw[bfD (by omega)]
  exact⟨_,rfl,by simp⟩
theorem mb4(l:List V3)(hl:l.length<=1000000000):Rd (one r1B) (Ia9 l) (λ_=>True):=by
 have key:∃t s,lp (Q9 ⟨⟩) ⟨l,0⟩=(t,s)/\(t=1\/t=2):=by
  refine F9 (step:=Q9 ⟨⟩) (mk:=λj (_:Unit)=>(⟨l,(j:Int)⟩:fa6)) l.length (λ_ _=>True) (λt s=>t=1\/t=2) hl (λj x hj _=>?_) (λj x hj _=>?_) 0 () trivial
  ·simp only[Q9,ia8,l5,j9,v8 hj (show l.length<=4611686018427387904 by omega)]
   obtain⟨t,s,h1,h2,h3⟩:=if8 l hl j hj;rw[btD (j7 hj),h1]
   rcases h2 with rfl|rfl
   ·exact .ex (by simp)
   ·exact .nx ⟨(),by rw[h3],trivial⟩
  ·simp only[Q9,ia8];rw[bfD (by omega)]
   exact⟨_,rfl,by simp⟩
 obtain⟨t,s,h1,h2⟩:=key;unfold Ia9;simp only[l5,j9];rw[h1]
 rcases h2 with rfl|rfl<;>exact⟨_,_,rfl,rfl,trivial⟩
theorem Td0(l:List V3)(hl:l.length<=1000000000):Sa0 l=true:=(mb4 l hl).g
theorem Td1(l:List V3)(hl:l.length<=1000000000):Rd (one r1I) (ya4 l) (λ_=>True):=by
 have h:=Bb5 (step:=Z8 ⟨l⟩) (mk:=λj=>(⟨(j:Int)⟩:O2)) (c:=λv=>!inV v) (u:=1) (fin:=2) tV l hl
  (λj hj=>by
   simp only[Z8,da5,Int.toNat_natCast,ae7,Fd9,v8 hj (show l.length<=4611686018427387904 by omega)]
   rw[btD (j7 hj),bt (i5 hj),y7])
  (by simp only[Z8,da5];rw[bfD (j6 (Qiv _))]) 0 (Qiz _)
 unfold ya4;simp only[l5,j9,L5,Td0 l hl];rw[show (⟨0⟩:O2)=⟨((0:Nat):Int)⟩ from rfl,h]
 refine Rd.sl (λ_=>⟨_,_,rfl,rfl,trivial⟩) λ_=>?_
 rw[Qiy];cases l.any λv=>!inV v with
 |true=>exact⟨_,_,rfl,rfl,trivial⟩
 |false =>
  show Rd (one r1I) (sl (Ja0 l) (some (i 11,[])) (some (i 0,[]))) (λ_=>True)
  exact Rd.sl (λ_=>⟨_,_,rfl,rfl,trivial⟩) λ_=>⟨_,_,rfl,rfl,trivial⟩
theorem kd0(l:List V3)(hl:l.length<=1000000000):Mb2 l=true:=(Td1 l hl).g
theorem ve6(p:Pln)(l:List V3)(hl:l.length<=1000000000):Rd (one r1B) (ya5 p l) (λ_=>True):=by
 have h:=Bb5 (step:=Z9 ⟨l,p.n.x,p.n.y,p.n.z,p.b⟩) (mk:=λj=>(⟨(j:Int)⟩:O3)) (c:=λv=>decide (da4 p v>0)) (u:=1) (fin:=2) tV l hl
  (λj hj=>by
   simp only[Z9,da6,Int.toNat_natCast,Ob0,v8 hj (show l.length<=4611686018427387904 by omega)]
   rw[btD (j7 hj),bt (i5 hj),y7])
  (by simp only[Z9,da6];rw[bfD (j6 (Qiv _))]) 0 (Qiz _)
 unfold ya5;simp only[l5,j9];rw[show (⟨0⟩:O3)=⟨((0:Nat):Int)⟩ from rfl,h]
 split<;>exact⟨_,_,rfl,rfl,trivial⟩
theorem Je9(p:Pln)(l:List V3)(hl:l.length<=1000000000):la7 p l=true:=(ve6 p l hl).g
theorem Xe6(p q:Pln):Rd (one r1I) (na2 p q) (λ_=>True):=by
 have key:∃t s,lp (H6 ⟨p.n.x,p.n.y,p.n.z,p.b,q.n.x,q.n.y,q.n.z,q.b⟩) ⟨0⟩=(t,s)/\(t=1\/t=2\/t=3):=by
  refine F9 (step:=H6 ⟨p.n.x,p.n.y,p.n.z,p.b,q.n.x,q.n.y,q.n.z,q.b⟩) (mk:=λj (_:Unit)=>(⟨(j:Int)⟩:P0)) 4 (λ_ _=>True) (λt s=>t=1\/t=2\/t=3) (by omega) (λj x hj _=>?_) (λj x hj _=>?_) 0 () trivial
  ·have hn:=v8 hj (show 4<=4611686018427387904 by omega)
   simp only[H6,R3,Int.toNat_natCast,hn];have hlt:(j:Int)<4:=by omega
   have hin:=i5 hj;have g:∀x1 x2 x3 x4:Int,((Nat.ble ((0+(j*1))+1) 4)&&(ea5 [CK.int .i64] (g8 [i x1,i x2,i x3,i x4] (0+(j*1)))))=true:=by
    intro x1 x2 x3 x4
    match j,hj with
    |0,_=>rfl
    |1,_=>rfl
    |2,_=>rfl
    |3,_=>rfl
   rw[btD hlt];simp only[hin,g,y7];exact Nx.sl (λ_=>.ex (by simp)) λ_=>Nx.sl (λ_=>.ex (by simp)) λ_=>.nx ⟨(),rfl,trivial⟩
  ·simp only[H6,R3];rw[bfD (by omega)]
   exact⟨_,rfl,by simp⟩
 obtain⟨t,s,h1,h2⟩:=key;unfold na2
 simp only
 rw[h1]
 rcases h2 with rfl|rfl|rfl<;>exact⟨_,_,rfl,rfl,trivial⟩
theorem ve7(p q:Pln):qb2 p q=true:=(Xe6 p q).g
theorem Tc7(l:List Pln)(n:Nat)(h:n<=l.length):u9 (λk=>(λk=>tP.row (gL tP l k)) (0+k)) (List.range (n-0))=bL tP (l.take n):=by
 rw[<- gb0,k9,k9,Qiq,Nat.min_eq_left h,Nat.sub_zero];apply List.map_congr_left;intro k hk;rw[List.mem_range] at hk;show tP.row (gL tP l (0+k))=tP.row (gL tP (l.take n) k);congr 1;simp[gL,Qir,List.getElem?_take,hk]
theorem Tc8(l:List Pln)(n:Nat):u9 (λk=>(λk=>tP.row (gL tP l k)) (n+k)) (List.range (l.length-n))=bL tP (l.drop n):=by
 rw[<- gb0,k9,k9,Qiae];apply List.map_congr_left;intro k hk;show tP.row (gL tP l (n+k))=tP.row (gL tP (l.drop n) k);rw[Jc5]
theorem Gd0(l:List Pln)(x1 x2 x3 x4:Int):app (bL tP l) [[i x1,i x2,i x3,i x4]]=bL tP (l++[⟨⟨x1,x2,x3⟩,x4⟩]):=Ia5 tP l [⟨⟨x1,x2,x3⟩,x4⟩]
def Vb1(x:List Pln)(y:Pln)(n:Nat):List Pln:=x.take n++(y::x.drop n)
theorem ve8{l:List Pln}{n:Nat}{r:List (List b7)}{P:List Pln->Prop}(hn:n=l.length)(hr:r=bL tP l)(h:P l):Rd (one (r1L tP)) (some (.sl 0 0 n 0,[⟨60,4,r,true,false,0⟩])) P:=by
 subst hn hr;exact⟨_,l,rfl,Xe5 l,h⟩
theorem Xe7(x:List Pln)(y:Pln)(hx:x.length<=1000000):Rd (one (r1L tP)) (Sa1 x y) (λr=>r≠[]/\r.length<=x.length+1/\∀p∈r,p=y\/p∈x):=by
 have h:=Oa0 (step:=Y7 ⟨x,y.n.x,y.n.y,y.n.z,y.b⟩) (mk:=λj=>(⟨(j:Int)⟩:aa0)) (c:=λp=>!decide (na3 p y<0)) (u:=1) (fin:=2) tP x (by omega)
  (λj hj=>by
   simp only[Y7,na4,Int.toNat_natCast,ve7,v8 hj (show x.length<=4611686018427387904 by omega)]
   rw[btD (j7 hj),bt (i5 hj),y7];cases decide (na3 (gL tP x j) y<0)<;>rfl)
  (by simp only[Y7,na4];rw[bfD (j6 (Qiv _))]) 0 (Qiz _)
 rw[Qiy] at h;have key:∃t n,lp (Y7 ⟨x,y.n.x,y.n.y,y.n.z,y.b⟩) ⟨0⟩=(t,⟨((n:Nat):Int)⟩)/\(t=1\/t=2)/\n<=x.length:=by
  rw[show (⟨0⟩:aa0)=⟨((0:Nat):Int)⟩ from rfl,h]
  split
  ·exact⟨1,_,rfl,.inl rfl,by rw[Qio];exact List.findIdx_le_length⟩
  ·exact⟨2,_,rfl,.inr rfl,Nat.le_refl _⟩
 obtain⟨t,n,h1,h2,h3⟩:=key;have hlo:inB (n:Int) (x.length+1)=true:=i5 (by omega)
 have hd:(bL tP (x.take n)).length=n:=by rw[<- l6,ia3,Qiq];omega
 have hmem:∀p∈Vb1 x y n,p=y\/p∈x:=λp hp=>by
  unfold Vb1 at hp
  rcases Qiag.1 hp with hp|hp
  ·exact .inr (List.mem_of_mem_take hp)
  ·rcases Qia.1 hp with hp|hp
   ·exact .inl hp
   ·exact .inr (List.mem_of_mem_drop hp)
 have hne:Vb1 x y n≠[]:=by unfold Vb1;simp
 have hlen:(Vb1 x y n).length=x.length+1:=by unfold Vb1;simp only[Qiaa,List.length_cons,Qiq,Qiae];omega
 have lt:len (bL tP (x.take n))=n:=by rw[l6];exact hd
 have ld:len (bL tP (x.drop n))=x.length-n:=by rw[ia3,Qiae]
 have b1:(Nat.beq 1 1&&Nat.ble ((1+(x.length-n))*32) room)=true:=by rw[cb4 (by omega)];rfl
 have b2:(Nat.beq 0 0&&Nat.ble ((0+n)*32) room)=true:=by rw[cb4 (by omega)];rfl
 have e0:app [] (bL tP (x.take n))=bL tP (x.take n):=rfl;have b3:(Nat.beq (0+n) n&&Nat.ble (((0+n)+1)*32) room)=true:=by rw[cb4 (by omega),Qio,Qih];rfl
 have l3:len (bL tP (x.take n++[y]))=n+1:=by rw[ia3,Qiaa,Qiq];simp only[List.length_singleton];omega
 have b4:(Nat.beq ((0+n)+1) (n+1)&&Nat.ble ((((0+n)+1)+(x.length-n))*32) room)=true:=by rw[cb4 (by omega),Qio,Qih];rfl
 have z0:∀{k:Nat},Nat.beq k 0=true->k=0:=λ{k} h=>Nat.eq_of_beq_eq_true h
 have fin:∀m r,m=x.length+1->r=bL tP (Vb1 x y n)->Rd (one (r1L tP)) (some (.sl 0 0 m 0,[⟨60,4,r,true,false,0⟩])) (λr=>r≠[]/\r.length<=x.length+1/\∀p∈r,p=y\/p∈x) :=
  λm r hm hr=>ve8 (by rw[hlen];exact hm) hr ⟨hne,by omega,hmem⟩
 have tail:Rd (one (r1L tP)) (some (.sl 0 0 (((0+n)+1)+(x.length-n)) 0,[⟨60,4,app (bL tP (x.take n++[y])) (bL tP (x.drop n)),true,false,0⟩])) (λr=>r≠[]/\r.length<=x.length+1/\∀p∈r,p=y\/p∈x):=by
  refine fin _ _ (by omega) ?_
  rw[Ia5];unfold Vb1;rw[List.append_assoc];rfl
 have same:∀p:Pln,(p.n.x==y.n.x&&(p.n.y==y.n.y&&(p.n.z==y.n.z&&(p.b==y.b&&true))))=true->n<x.length->Rd (one (r1L tP)) (some (eL tP x,[])) (λr=>r≠[]/\r.length<=x.length+1/\∀p∈r,p=y\/p∈x):=λp _ hn =>
  ⟨_,x,rfl,ae5 tP x,List.ne_nil_of_length_pos (by omega),Nat.le_succ _,λp hp=>Or.inr hp⟩
 unfold Sa1;simp only[l5,j9];rw[h1];simp only[Int.toNat_natCast,Tc7 x n h3,Tc8,lt,ld,b1,b2,e0,b3,Gd0,l3,b4,hlo,y7];have main:Rd (one (r1L tP)) (sl (decide ((n:Int)<(x.length:Int))) (sl (inB (n:Int) x.length) (sl (((gL tP x n).n.x==y.n.x)&&(((gL tP x n).n.y==y.n.y)&&(((gL tP x n).n.z==y.n.z)&&(((gL tP x n).b==y.b)&&true)))) (some (eL tP x,[])) (some (.sl 0 0 (((0+n)+1)+(x.length-n)) 0,[⟨60,4,app (bL tP (x.take n++[y])) (bL tP (x.drop n)),true,false,0⟩]))) none) (some (.sl 0 0 (((0+n)+1)+(x.length-n)) 0,[⟨60,4,app (bL tP (x.take n++[y])) (bL tP (x.drop n)),true,false,0⟩]))) (λr=>r≠[]/\r.length<=x.length+1/\∀p∈r,p=y\/p∈x):=by
  by_cases hn:n<x.length
  ·rw[btD (j7 hn),bt (i5 hn)];exact Rd.sl (λq=>same _ q hn) λ_=>tail
  ·rw[bfD (j6 hn)];exact tail
 rcases h2 with rfl|rfl
 ·exact main
 ·exact main
theorem Qe8(x:List Pln)(y:Pln)(hx:x.length<=1000000):va5 x y=true:=(Xe7 x y hx).g
structure Fc(ph:Nat)(out:List Pln)(m:Nat):Prop where
 h:(ph=0/\out=[])\/ph=1
 l:out.length<=m
theorem Fc.more{ph m m':Nat}{out:List Pln}(h:Fc ph out m)(hm:m<=m'):Fc ph out m':=⟨h.h,Nat.le_trans h.l hm⟩
theorem Xe8(l:List Pln)(n:Int):(two (r1L tP) r1I).rd (.tup [eL tP l,i n],[])=some (l,n):=by
 have h:(r1L tP).rd [] (eL tP l)=some l:=by
  show Bool.rec (motive:=λ_=>Option (List Pln)) none (some (rt tP l)) (Bool.and (Nat.beq tP.es tP.es) (okE tP l))=_
  rw[l5,L5,Qih];rfl
 simp only[two,h];rfl
def phV(out:List V3):Nat:=match out with
 |[]=>0
 |_::_=>1
theorem td0(out:List V3)(x:V3):phV (out++[x])=1:=by cases out<;>rfl
theorem mc6(l:List V3)(x1 x2 x3:Int):app (bL tV l) [[i x1,i x2,i x3]]=bL tV (l++[⟨x1,x2,x3⟩]):=Ia5 tV l [⟨x1,x2,x3⟩]
theorem if9{l:List V3}{m:Nat}(h:m<l.length):(((Nat.blt (0+m) (len (bL tV l)))&&(Nat.ble (0+3) (len (f7 (bL tV l) (0+m)))))&&(ea5 [CK.int .i64,CK.int .i64,CK.int .i64] (g8 (f7 (bL tV l) (0+m)) 0)))=true:=by
 rw[Qio,V9 tV h,ia3,show Nat.blt m l.length=true from by rw[Nat.blt_eq];exact h]
 rfl
theorem jf0{l:List V3}{m:Nat}(h:m<l.length):(((Nat.blt (0+m) (len (bL tV l)))&&(Nat.ble (2+1) (len (f7 (bL tV l) (0+m)))))&&(ea5 [CK.int .i64] (g8 (f7 (bL tV l) (0+m)) 2)))=true:=by
 rw[Qio,V9 tV h,ia3,show Nat.blt m l.length=true from by rw[Nat.blt_eq];exact h]
 rfl
theorem ae9{n:Nat}{l:List V3}(hn:l.length=n)(h:n<=1000000000):(Nat.beq n (len (bL tV l))&&Nat.ble ((n+1)*24) room)=true:=by
 subst hn;rw[ia3,Qih,Bool.true_and,Nat.ble_eq];unfold room;omega
theorem Ke0 (x : List Int) (N : Nat) (h4 : 4 ≤ N) (h8 : N ≤ 8) (j0 : Int) (hj0 : 0 ≤ j0 ∧ j0 ≤ 10) :
  ∃idx out,lp (Ha4 ⟨(N:Int)⟩) ⟨0,0,x,j0,0,[]⟩=(2,⟨1,(N:Int),x,idx,N,bL tV out⟩)/\out.length=N:=by
 have key:=F9 (step:=Ha4 ⟨(N:Int)⟩) (mk:=λj (a:Int×List V3)=>(⟨phV a.2,(j:Int),x,a.1,a.2.length,bL tV a.2⟩:C1)) N
  (λj a=>a.2.length=j/\0<=a.1/\a.1<=10+4*j/\j<=N) (λt s=>t=2/\∃idx out,s=⟨1,(N:Int),x,idx,N,bL tV out⟩/\out.length=N) (by omega) (λj a hj ha=>?_) (λj a hj ha=>?_) 0 (j0,[]) ⟨rfl,hj0.1,by omega,by omega⟩
 ·obtain⟨t,s,e1,rfl,idx,out,e2,e3⟩:=key;exact⟨idx,out,by rw[<- e2];exact e1,e3⟩
 ·obtain⟨at0,out⟩:=a;obtain⟨ho,ha1,ha2,_⟩:=ha
  simp only at ho ha1 ha2
  have hn:=v8 hj (show N<=4611686018427387904 by omega)
  obtain⟨v1,j1,d1,_,_,c1,b1⟩:=mc5 17 x at0 ha1 (by omega) (by omega) (by omega)
  obtain⟨v2,j2,d2,_,_,c2,b2⟩:=mc5 17 x j1 (by omega) (by omega) (by omega) (by omega)
  obtain⟨v3,j3,d3,_,_,c3,b3⟩:=mc5 17 x j2 (by omega) (by omega) (by omega) (by omega)
  obtain⟨v4,j4,d4,_,_,c4,b4⟩:=mc5 6 x j3 (by omega) (by omega) (by omega) (by omega)
  have leaf : ∀ (E : Nat → Prop) (x1 x2 x3 : Int), Nx (.next (⟨1, ((j + 1 : Nat) : Int), x, j4, j + 1, bL tV (out ++ [⟨x1, x2, x3⟩])⟩ : C1)) E
    (λs=>∃a':Int×List V3,s=⟨phV a'.2,((j+1:Nat):Int),x,a'.1,a'.2.length,bL tV a'.2⟩/\a'.2.length=j+1/\0<=a'.1/\a'.1<=10+4*((j+1:Nat):Int)/\j+1<=N):=λE x1 x2 x3=>by
   have hl:(out++[(⟨x1,x2,x3⟩:V3)]).length=j+1:=by simp[ho]
   exact .nx ⟨(j4,out++[⟨x1,x2,x3⟩]),by simp only[td0,hl],hl,by show 0<=j4;omega,by show j4<=_;omega,by omega⟩
  cases out with
  |nil =>
   have hj0':j=0:=by simpa using ho.symm
   subst hj0';show Nx (qa1 Stp.next Stp.exit Stp.fail _ _) _ _;simp only[qa1,l5,j9,d1,d2,d3,d4,hn];rw[btD (j7 hj)];have f1:decide (((0:Nat):Int)>1)=false:=rfl;have f2:decide (((0:Nat):Int)>0)=false:=rfl;have f3:decide (((0:Nat):Int)>2)=false:=rfl;have lf:∀(E:Nat->Prop) (x1 x2 x3:Int),Nx (.next (⟨1,((0+1:Nat):Int),x,j4,1,[[i x1,i x2,i x3]]⟩:C1)) E _:=leaf;simp only[f1,f2,f3,Kb2,Qih,Qif,y7];refine Nx.sl (λ_=>?_) (λ_=>?_)<;>refine Nx.sl (λ_=>?_) (λ_=>?_)
   all_goals first
    |exact lf _ _ _ _
    |(refine Nx.sl (λ_=>?_) (λ_=>?_)<;>exact lf _ _ _ _)
  |cons o os =>
   have h1:1<=j:=by simp only[List.length_cons] at ho;omega
   generalize hO:o::os=O at *
   have hph:phV O=1:=by subst hO;rfl
   have w1:W ((j:Int)-1)=((j-1:Nat):Int):=by rw[qa7 (by omega) (by omega)];omega
   have i1:inB ((j-1:Nat):Int) j=true:=i5 (by omega)
   have r1:=if9 (l:=O) (m:=j-1) (by omega)
   have r1':=jf0 (l:=O) (m:=j-1) (by omega)
   have rr:=ae9 ho (by omega)
   have f2:∀{inst:Decidable ((j:Int)>0)},@decide ((j:Int)>0) inst=true:=decide_eq_true (by omega)
   show Nx (sel (Nat.beq (phV O) 1) (L8 Stp.next Stp.exit Stp.fail _ _) _) _ _;rw[hph];show Nx (L8 Stp.next Stp.exit Stp.fail _ _) _ _;by_cases h2:2<=j
   ·have w2:W ((j:Int)-2)=((j-2:Nat):Int):=by rw[qa7 (by omega) (by omega)];omega
    have i2:inB ((j-2:Nat):Int) j=true:=i5 (by omega)
    have r2:=if9 (l:=O) (m:=j-2) (by omega)
    simp only[L8,l5,j9,d1,d2,d3,d4,hn,ho,w1,w2,i1,i2,Int.toNat_natCast,r1,r1',r2,rr,mc6];rw[btD (j7 hj)];simp only[Qih,Qif,y7]
    repeat' (first | exact leaf _ _ _ _ | refine Nx.sl (λ_=>?_) (λ_=>?_))
   ·have hj1:j=1:=by omega
    subst hj1;simp only[L8,l5,j9,d1,d2,d3,d4,hn,ho,w1,i1,Int.toNat_natCast,r1,r1',rr,mc6];have f1:decide (((1:Nat):Int)>1)=false:=rfl;rw[btD (j7 hj)];simp only[f1,Kb2,Qih,Qif,y7]
    repeat' (first | exact leaf _ _ _ _ | refine Nx.sl (λ_=>?_) (λ_=>?_))
 ·obtain⟨at0,out⟩:=a;obtain⟨ho,ha1,ha2,hjN⟩:=ha
  simp only at ho ha1 ha2
  have hj':j=N:=by omega
  subst hj';cases out with
  |nil=>simp only[List.length_nil] at ho;omega
  |cons o os =>
   refine⟨2,?_,rfl,at0,o::os,by rw[ho];rfl,ho⟩
   show L8 Stp.next Stp.exit Stp.fail _ _=_;simp only[L8];rw[bfD (by omega)]
theorem Td2{l:List V3}{n:Nat}{r:List (List b7)}{P:List V3->Prop}(hn:n=l.length)(hr:r=bL tV l)(h:P l):Rd (one (r1L tV)) (some (.sl 0 0 n 0,[⟨25,3,r,true,false,0⟩])) P:=by
 subst hn hr;refine⟨_,l,rfl,?_,h⟩;show Bool.rec (motive:=λ_=>Option (List V3)) none (some (slR tV (bL tV l) 0 l.length)) (Bool.and true (okS tV (bL tV l) 0 l.length))=_
 rw[cc7,rc0];rfl
theorem kd1(x:List Int):Rd (one (r1L tV)) (Na0 x) (λr=>4<=r.length/\r.length<=8):=by
 obtain⟨v,j,e1,a1,b1,c1,d1⟩:=mc5 5 x 0 (by omega) (by omega) (by omega) (by omega)
 have hN:W (4+v)=(((4+v).toNat:Nat):Int):=by rw[qa7 (by omega) (by omega)];omega
 obtain⟨idx,out,e2,e3⟩:=Ke0 x (4+v).toNat (by omega) (by omega) j (by omega)
 unfold Na0;simp only[l5,j9,e1,hN,e2];have h4:4<=(4+v).toNat:=by omega
 have h8:(4+v).toNat<=8:=by omega
 generalize (4+v).toNat=N at *
 have s1:lsL tV N (λk=>f7 (bL tV out) (0+k))=out:=by rw[<- e3];exact cc7 tV out
 have s2:okL tV N (λk=>f7 (bL tV out) (0+k))=true:=by rw[<- e3];exact rc0 tV out
 have gf:Sa0 out=true:=Td0 out (by omega)
 rw[s1,s2,gf];simp only[Qih,Qif,y7,show Nat.beq 2 1=false from rfl,Kb2]
 refine Rd.sl (λ_=>?_) λ_=>Td2 e3.symm rfl ⟨by omega,by omega⟩
 have i0:inB 0 N=true:=i5 (j:=0) (by omega)
 have i1:inB 1 N=true:=i5 (j:=1) (by omega)
 have i2:inB 2 N=true:=i5 (j:=2) (by omega)
 have i3:inB 3 N=true:=i5 (j:=3) (by omega)
 have sp:∀(v:V3) (x1 x2 x3:Int),V5 (tV.row v) 0 [i x1,i x2,i x3]=tV.row ⟨x1,x2,x3⟩:=λ_ _ _ _=>rfl
 have rl:∀v:V3,Nat.ble (0+3) (len (tV.row v))=true:=λ_=>rfl
 have ck:∀v:V3,ea5 [CK.int .i64,CK.int .i64,CK.int .i64] (g8 (tV.row v) 0)=true:=λ_=>rfl
 have gr:∀(l:List V3) (k:Nat),l.length=N->k<4->f7 (bL tV l) k=tV.row (gL tV l k):=λl k hl hk=>V9 tV (by omega)
 have bl:∀(l:List V3) (k:Nat),l.length=N->k<4->Nat.blt k (len (bL tV l))=true:=λl k hl hk=>by rw[ia3,Nat.blt_eq];omega
 have ls:∀(l:List V3) (k:Nat) (v:V3),l.length=N->(l.set k v).length=N:=λl k v hl=>by rw[Qiah];exact hl
 rw[gr out 0 e3 (by omega),gr out 1 e3 (by omega)]
 simp only[sp,Kb3];rw[gr _ 2 (ls out 1 _ e3) (by omega)]
 simp only[sp,Kb3];rw[gr _ 3 (ls _ 2 _ (ls out 1 _ e3)) (by omega)]
 simp only[sp,Kb3,rl,ck,i0,i1,i2,i3,bl out 0 e3 (by omega),bl out 1 e3 (by omega),bl _ 2 (ls out 1 _ e3) (by omega),bl _ 3 (ls _ 2 _ (ls out 1 _ e3)) (by omega),Qif,y7]
 exact Td2 (by simp only[Qiah];omega) rfl (by simp only[Qiah];omega)
theorem ve9(x:List Int):bb2 x=true:=(kd1 x).g
theorem Tc9(x:List Int):4<=(A4 x).length/\(A4 x).length<=8:=(kd1 x).p
theorem Xe9{α:Type}(t:Ty α)(k:Nat)(l:List α):(one (r1L t)).rd (.sl 0 0 l.length 0,[⟨k,t.es,bL t l,true,false,0⟩])=some l:=by
 show Bool.rec (motive:=λ_=>Option (List α)) none (some (slR t (bL t l) 0 l.length)) (Bool.and (Nat.beq t.es t.es) (okS t (bL t l) 0 l.length))=_
 rw[cc7,rc0,Qih];rfl
theorem vc7(v:V3):ya1 v=inV v/\ya2 v=true:=by
 have h3:[v.x,v.y,v.z].length<=1000000000:=by simp
 have:hb7 v=some (b (inV v),[]):=by
  unfold hb7 inV;simp only[vc3 24 _ (by omega) h3,vc4 24 _ (by omega) h3,y7]
  simp only[List.all_cons,List.all_nil,Qif]
 unfold ya1 ya2;rw[this];exact⟨rfl,rfl⟩
noncomputable def has(c:List Pln)(v:V3):Bool:=(chk c==0)&&(inV v&&inn c ⟨v.x,v.y,v.z,1⟩)
noncomputable def apart(a c:List Pln):Bool:=!((chk a==0)&&(chk c==0))||!Je6 (a++c++ws)
noncomputable def Ye0(a c:List Pln):Bool:=ful a&&((chk c==0)&&(pts a).all (inn c))
noncomputable def onc(X:List Pt)(p:Pln):Nat:=X.countP λx=>rm p x==0
noncomputable def keep(X:List Pt)(p:Pln):Bool:=!decide ((onc X p:Int)<3)
theorem mc7{α:Type}(c:α->Bool):∀l:List α,(l.take (l.findIdx c)).filter (λx=>!c x)=l.take (l.findIdx c)
 |[]=>rfl
 |x::l=>by
  rw[Qiac];cases h:c x with
  |true=>rfl
  |false =>
   simp only[cond_false,List.take_succ_cons,List.filter_cons,h,Bool.not_false,if_true];rw[mc7 c l]
theorem Td3{α:Type}(l:List α)(j:Nat)(h:j<l.length):l.take (j+1)=l.take j++[l[j]]:=by rw[List.take_succ_eq_append_getElem h]
theorem Ca9{α:Type}(t:Ty α){l:List α}{j:Nat}(h:j<l.length):l.take (j+1)=l.take j++[gL t l j]:=by rw[Td3 l j h,ib9 t h]
theorem vc8{α:Type}(t:Ty α){l r:List α}{j:Nat}(h:l.drop j=r.drop j):gL t l j=gL t r j:=by
 have h1:=Jc5 t l j 0;have h2:=Jc5 t r j 0;rw[Nat.add_zero] at h1 h2;rw[<- h1,<- h2,h]
theorem mc8{α:Type}{l r:List α}{j:Nat}(h:l.drop j=r.drop j)(k:Nat):l.drop (j+k)=r.drop (j+k):=by rw[<- List.drop_drop,<- List.drop_drop,h]
structure Del(l:List Pln)(f:Pln->Bool)(cur:List Pln)(m j:Nat):Prop where
 len:cur.length=l.length
 t:cur.take m=(l.take j).filter f
 d:cur.drop j=l.drop j
 le:m<=j
 lm:m<=l.length
theorem Ke1(l:List Pln)(n:Nat):g8 (bL tP l) n=bL tP (l.drop n):=by unfold bL;rw[J7,k9,k9,List.map_drop]
def eqP(x y:Pln):Bool:=x.n.x==y.n.x&&(x.n.y==y.n.y&&(x.n.z==y.n.z&&(x.b==y.b&&true)))
theorem mc9(x y:Pln):eqP x y=true↔x=y:=by
 unfold eqP;simp only[Qif,Qie,beq_iff_eq];refine⟨λ⟨h1,h2,h3,h4⟩=>?_,λh=>by subst h;exact⟨rfl,rfl,rfl,rfl⟩⟩
 obtain⟨⟨x1,x2,x3⟩,x4⟩:=x;obtain⟨⟨y1,y2,y3⟩,y4⟩:=y
 simp only at h1 h2 h3 h4
 subst h1 h2 h3 h4;rfl
def ddF:Pln->List Pln->List Pln
 |_,[]=>[]
 |a,x::l=>if eqP x a then ddF x l else x::ddF x l
def dd:List Pln->List Pln
 |[]=>[]
 |x::l=>x::ddF x l
structure Cmp(l:List Pln)(n:Nat)(cur:List Pln)(m j:Nat)(R:List Pln):Prop where
 len:cur.length=l.length
 t:cur.take m++ddF (gL tP l (j-1)) ((l.take n).drop j)=R
 d:cur.drop (j-1)=l.drop (j-1)
 le:m+1<=j
theorem we0(l:List Pln)(n:Nat)(hn:n<=l.length):slR tP (bL tP l) 0 n=l.take n:=pb8 tP (by rw[Qiq];omega) λk hk=>by
 rw[Qio,V9 tP (by omega)]
 congr 1;simp[gL,Qir,List.getElem?_take,hk]
theorem we1(l:List Pln)(n:Nat)(hn:n<=l.length):okS tP (bL tP l) 0 n=true:=Ma0 tP (f:=λk=>gL tP l k) λk hk=>by rw[Qio,V9 tP (by omega)]
end Go.Ev.Ce
namespace Go.Ev.Ce
open Go Go.Ev Go.Ev.L Go.Proofs Go.Sort
theorem Uc0(l:List Pln):List.Perm (Wb8 l) l:=List.mergeSort_perm l _
theorem ke4(x y z:Pln)(h1:(!ltOf la6 y x)=true)(h2:(!ltOf la6 z y)=true):(!ltOf la6 z x)=true:=by
 simp only[Qiab,Ra7,decide_eq_false_iff_not] at *
 unfold LtP at *
 omega
theorem ke5(x y:Pln):((!ltOf la6 y x)||!ltOf la6 x y)=true:=by
 simp only[Bool.or_eq_true,Qiab,Ra7,decide_eq_false_iff_not];unfold LtP;omega
theorem td1(l:List Pln):(Wb8 l).Pairwise λx y=>(!ltOf la6 y x)=true:=List.pairwise_mergeSort ke4 ke5 l
instance:DecidableEq Pln:=λx y=>decidable_of_iff _ (mc9 x y)
def PC:List Pt:=[⟨0,0,0,1⟩,⟨0,0,1,4⟩,⟨0,1,0,3⟩,⟨1,0,0,2⟩]
end Go.Ev.Ce
namespace Go.Ev.Ce
open Go Go.Ev Go.Ev.L Go.Proofs
set_option maxRecDepth 100000
structure Vb2 where
structure Ob1 where
structure Ob2 where
structure Vb3 where
 alt:Nat
structure vc9 where
structure nc0 where
structure nc1 where
structure wc0 where
 alt:Nat
structure dd1 where
structure dd2 where
 alt:Nat
theorem Ke2(p q:Pln):na2 p q=some (i (la6 p q),[]):=by
 have key:∃t s,lp (H6 ⟨p.n.x,p.n.y,p.n.z,p.b,q.n.x,q.n.y,q.n.z,q.b⟩) ⟨0⟩=(t,s)/\((t=1/\la6 p q=-1)\/(t=2/\la6 p q=1)\/(t=3/\la6 p q=0)):=by
  refine F9 (step:=H6 ⟨p.n.x,p.n.y,p.n.z,p.b,q.n.x,q.n.y,q.n.z,q.b⟩) (mk:=λj (_:Unit)=>(⟨(j:Int)⟩:P0)) 4
   (λj _=>(1<=j->p.n.x=q.n.x)/\(2<=j->p.n.y=q.n.y)/\(3<=j->p.n.z=q.n.z)/\(4<=j->p.b=q.b))
   (λt s=>(t=1/\la6 p q=-1)\/(t=2/\la6 p q=1)\/(t=3/\la6 p q=0)) (by omega) (λj x hj hI=>?_) (λj x hj hI=>?_) 0 () ⟨by omega,by omega,by omega,by omega⟩
  ·have hn:=v8 hj (show 4<=4611686018427387904 by omega)
   simp only[H6,R3,Int.toNat_natCast,hn];have hlt:(j:Int)<4:=by omega
   have hin:=i5 hj;have g:∀x1 x2 x3 x4:Int,((Nat.ble ((0+(j*1))+1) 4)&&(ea5 [CK.int .i64] (g8 [i x1,i x2,i x3,i x4] (0+(j*1)))))=true:=by
    intro x1 x2 x3 x4
    match j,hj with
    |0,_=>rfl
    |1,_=>rfl
    |2,_=>rfl
    |3,_=>rfl
   rw[btD hlt];simp only[hin,g,y7];obtain⟨i1,i2,i3,i4⟩:=hI
   match j,hj with
   |0,_ =>
    show Nx (sl (decide (p.n.x<q.n.x)) _ (sl (decide (p.n.x>q.n.x)) _ _)) _ _;refine Nx.sl (λh=>.ex ?_) λh=>Nx.sl (λh'=>.ex ?_) λh'=>.nx ⟨(),rfl,?_⟩<;>simp only[decide_eq_true_eq,decide_eq_false_iff_not] at h
    ·left;exact⟨rfl,by simp[la6,Ka9,h]⟩
    ·right;left;simp only[decide_eq_true_eq] at h';exact⟨rfl,by simp[la6,Ka9,h,h']⟩
    ·simp only[decide_eq_false_iff_not] at h';exact⟨by omega,by omega,by omega,by omega⟩
   |1,_ =>
    have j1:=i1 (by omega)
    show Nx (sl (decide (p.n.y<q.n.y)) _ (sl (decide (p.n.y>q.n.y)) _ _)) _ _;refine Nx.sl (λh=>.ex ?_) λh=>Nx.sl (λh'=>.ex ?_) λh'=>.nx ⟨(),rfl,?_⟩<;>simp only[decide_eq_true_eq,decide_eq_false_iff_not] at h
    ·left;exact⟨rfl,by simp[la6,Ka9,h,j1]⟩
    ·right;left;simp only[decide_eq_true_eq] at h';exact⟨rfl,by simp[la6,Ka9,h,h',j1]⟩
    ·simp only[decide_eq_false_iff_not] at h';exact⟨λ_=>j1,by omega,by omega,by omega⟩
   |2,_ =>
    have j1:=i1 (by omega);have j2:=i2 (by omega)
    show Nx (sl (decide (p.n.z<q.n.z)) _ (sl (decide (p.n.z>q.n.z)) _ _)) _ _;refine Nx.sl (λh=>.ex ?_) λh=>Nx.sl (λh'=>.ex ?_) λh'=>.nx ⟨(),rfl,?_⟩<;>simp only[decide_eq_true_eq,decide_eq_false_iff_not] at h
    ·left;exact⟨rfl,by simp[la6,Ka9,h,j1,j2]⟩
    ·right;left;simp only[decide_eq_true_eq] at h';exact⟨rfl,by simp[la6,Ka9,h,h',j1,j2]⟩
    ·simp only[decide_eq_false_iff_not] at h';exact⟨λ_=>j1,λ_=>j2,by omega,by omega⟩
   |3,_ =>
    have j1:=i1 (by omega);have j2:=i2 (by omega);have j3:=i3 (by omega)
    show Nx (sl (decide (p.b<q.b)) _ (sl (decide (p.b>q.b)) _ _)) _ _;refine Nx.sl (λh=>.ex ?_) λh=>Nx.sl (λh'=>.ex ?_) λh'=>.nx ⟨(),rfl,?_⟩<;>simp only[decide_eq_true_eq,decide_eq_false_iff_not] at h
    ·left;exact⟨rfl,by simp[la6,Ka9,h,j1,j2,j3]⟩
    ·right;left;simp only[decide_eq_true_eq] at h';exact⟨rfl,by simp[la6,Ka9,h,h',j1,j2,j3]⟩
    ·simp only[decide_eq_false_iff_not] at h';exact⟨λ_=>j1,λ_=>j2,λ_=>j3,by omega⟩
  ·simp only[H6,R3];rw[bfD (by omega)]
   obtain⟨i1,i2,i3,i4⟩:=hI;have j1:=i1 (by omega);have j2:=i2 (by omega);have j3:=i3 (by omega);have j4:=i4 (by omega)
   exact⟨_,rfl,.inr (.inr ⟨rfl,by simp[la6,Ka9,j1,j2,j3,j4]⟩)⟩
 obtain⟨t,s,h1,h2⟩:=key;unfold na2
 simp only
 rw[h1]
 rcases h2 with⟨rfl,e⟩|⟨rfl,e⟩|⟨rfl,e⟩<;>rw[e]<;>rfl
theorem Ye1(p q:Pln):na3 p q=la6 p q:=by unfold na3;rw[Ke2];rfl
def atP(x:List Pln)(y:Pln):Nat:=x.findIdx λp=>!decide (la6 p y<0)
noncomputable def ins(x:List Pln)(y:Pln):List Pln:=if (atP x y<x.length/\eqP (gL tP x (atP x y)) y=true) then x else Vb1 x y (atP x y)
def Wa6(l:List Pln):Prop:=l.Pairwise LtP
theorem kd2{x y z:Pln}(h1:LtP x y)(h2:LtP y z):LtP x z:=by unfold LtP at *;omega
theorem Jc6(x:Pln):¬ LtP x x:=by unfold LtP;omega
theorem be0(x y:Pln):LtP x y\/x=y\/LtP y x:=by
 by_cases h1:LtP x y
 ·exact .inl h1
 ·by_cases h2:LtP y x
  ·exact .inr (.inr h2)
  ·refine .inr (.inl ?_);unfold LtP at h1 h2;have e1:x.n.x=y.n.x:=by omega
   have e2:x.n.y=y.n.y:=by omega
   have e3:x.n.z=y.n.z:=by omega
   have e4:x.b=y.b:=by omega
   cases x with | mk n b=>cases y with | mk m c=>cases n;cases m;simp_all
theorem wc1:∀{l r:List Pln},Wa6 l->Wa6 r->(∀p,p∈l↔p∈r)->l=r
 |[],[],_,_,_=>rfl
 |[],b::r,_,_,h=>by have:=(h b).2 Qic;cases this
 |a::l,[],_,_,h=>by have:=(h a).1 Qic;cases this
 |a::l,b::r,hl,hr,h=>by
  obtain⟨hl1,hl2⟩:=Qim.1 hl;obtain⟨hr1,hr2⟩:=Qim.1 hr;have hab:a=b:=by
   rcases Qia.1 ((h a).1 Qic) with e|h1
   ·exact e
   ·rcases Qia.1 ((h b).2 Qic) with e|h2
    ·exact e.symm
    ·exact absurd (kd2 (hr1 a h1) (hl1 b h2)) (Jc6 b)
  subst hab;rw[wc1 hl2 hr2 λp=>?_]
  constructor
  ·intro hp
   rcases Qia.1 ((h p).1 (Qib _ hp)) with e|h1
   ·subst e;exact absurd (hl1 p hp) (Jc6 p)
   ·exact h1
  ·intro hp
   rcases Qia.1 ((h p).2 (Qib _ hp)) with e|h1
   ·subst e;exact absurd (hr1 p hp) (Jc6 p)
   ·exact h1
def lb7:List Pln->Pln->List Pln
 |[],y=>[y]
 |a::l,y=>if la6 a y<0 then a::lb7 l y else if eqP a y then a::l else y::a::l
theorem we2(y:Pln):∀x,ins x y=lb7 x y
 |[]=>rfl
 |a::l=>by
  have ih:=we2 y l;unfold lb7;by_cases h:la6 a y<0
  ·rw[if_pos h,<- ih];have e:atP (a::l) y=atP l y+1:=by unfold atP;rw[Qiac];simp[h]
   unfold ins;rw[e];have e2:gL tP (a::l) (atP l y+1)=gL tP l (atP l y):=rfl;rw[e2];simp only[List.length_cons,Nat.add_lt_add_iff_right];split
   ·rfl
   ·rfl
  ·rw[if_neg h];have e:atP (a::l) y=0:=by unfold atP;rw[Qiac];simp[h]
   unfold ins;rw[e];have e2:gL tP (a::l) 0=a:=rfl;rw[e2];simp only[List.length_cons,Nat.zero_lt_succ,true_and];split
   ·rfl
   ·rfl
theorem wb5(y p:Pln):∀x,p∈lb7 x y↔p=y\/p∈x
 |[]=>by simp[lb7]
 |a::l=>by
  unfold lb7;have ih:=wb5 y p l;split
  ·simp only[Qia,ih];constructor
   ·rintro (h|h|h)
    ·exact .inr (.inl h)
    ·exact .inl h
    ·exact .inr (.inr h)
   ·rintro (h|h|h)
    ·exact .inr (.inl h)
    ·exact .inl h
    ·exact .inr (.inr h)
  ·split
   ·rename_i h;rw[mc9] at h;subst h;simp only[Qia];constructor
    ·exact λh=>.inr h
    ·rintro (h|h)
     ·exact .inl h
     ·exact h
   ·simp only[Qia]
theorem nc2(y:Pln):∀{x},Wa6 x->Wa6 (lb7 x y)
 |[],_=>List.pairwise_singleton _ _
 |a::l,h=>by
  obtain⟨h1,h2⟩:=Qim.1 h;unfold lb7;split
  ·rename_i hc;rw[rd6] at hc;refine Qim.2 ⟨λp hp=>?_,nc2 y h2⟩
   rcases (wb5 y p l).1 hp with e|hp
   ·subst e;exact hc
   ·exact h1 p hp
  ·rename_i hc;rw[rd6] at hc;split
   ·exact h
   ·rename_i hne;have hlt:LtP y a:=by
     rcases be0 y a with h|h|h
     ·exact h
     ·exact absurd ((mc9 _ _).2 h.symm) hne
     ·exact absurd h hc
    refine Qim.2 ⟨λp hp=>?_,h⟩
    rcases Qia.1 hp with e|hp
    ·subst e;exact hlt
    ·exact kd2 hlt (h1 p hp)
theorem td2{σ:Type}{step:σ->Stp σ}{s:σ}{t:Nat}(h:step s=.exit t):lp step s=(t,s):=by rw[qe0];exact Nc4 h
theorem ke6:Wb8 []=[]:=List.eq_nil_of_length_eq_zero (Sb4 [])
end Go.Ev.Ce
namespace Go.Ev.Ce
def rmZ(p:Pln)(x:Pt):Int:=p.b*x.pw-(p.n.x*x.px+p.n.y*x.py+p.n.z*x.pz)
structure Inr(r:List Pln)(x:Pt):Prop where
 w:0<x.pw
 h:∀p∈r,0<=rmZ p x
def X6(p:Pln):Pln:=⟨⟨-p.n.x,-p.n.y,-p.n.z⟩,-p.b⟩
theorem jb7(p:Pln)(x:Pt):rmZ (X6 p) x=-rmZ p x:=by unfold rmZ X6;grind
structure Cn(r:List Pln)(x:Pt):Prop extends Inr r x where
 c:∃p q s,p∈r/\q∈r/\s∈r/\mw p q s≠0/\rmZ p x=0/\rmZ q x=0/\rmZ s x=0
def Bdd(r:List Pln):Prop:=∀d:V3,d≠⟨0,0,0⟩->∃p∈r,0<dot p.n d
def go(x:Pt)(q:Pln)(d:V3):Pt:=⟨x.px*dot q.n d+rmZ q x*d.x,x.py*dot q.n d+rmZ q x*d.y,x.pz*dot q.n d+rmZ q x*d.z,x.pw*dot q.n d⟩
theorem Gd1(p q:Pln)(x:Pt)(d:V3):rmZ p (go x q d)=dot q.n d*rmZ p x-rmZ q x*dot p.n d:=by simp only[rmZ,go,dot];grind
theorem Ua6{a b c:Int}(hc:0<c)(h:a*c<=b*c):a<=b:=Int.le_of_mul_le_mul_right h hc
theorem first(x:Pt)(d:V3):∀r:List Pln,(∀p∈r,0<=rmZ p x)->(∃p∈r,0<dot p.n d)->∃q∈r,0<dot q.n d/\∀p∈r,0<dot p.n d->rmZ q x*dot p.n d<=rmZ p x*dot q.n d
 |[],_,h=>by obtain⟨p,hp,_⟩:=h;cases hp
 |a::r,hx,h=>by
  by_cases hr:∃p∈r,0<dot p.n d
  ·obtain⟨q,hq,h1,h2⟩:=first x d r (λp hp=>hx p (Qib _ hp)) hr
   by_cases ha:0<dot a.n d
   ·by_cases hc:rmZ q x*dot a.n d<=rmZ a x*dot q.n d
    ·refine⟨q,Qib _ hq,h1,λp hp h3=>?_⟩
     rcases Qia.1 hp with rfl|hp
     ·exact hc
     ·exact h2 p hp h3
    ·refine⟨a,Qic,ha,λp hp h3=>?_⟩
     rcases Qia.1 hp with rfl|hp
     ·exact Int.le_refl _
     ·have h4:=h2 p hp h3;have h5:rmZ a x*dot q.n d<rmZ q x*dot a.n d:=by omega
      have h6:=Qin h4 (Qid ha);have h7:=Int.mul_lt_mul_of_pos_right h5 h3;have e1:rmZ q x*dot p.n d*dot a.n d=rmZ q x*dot a.n d*dot p.n d:=by grind
      have e2:rmZ a x*dot q.n d*dot p.n d=rmZ a x*dot p.n d*dot q.n d:=by grind
      have e3:rmZ p x*dot q.n d*dot a.n d=rmZ p x*dot a.n d*dot q.n d:=by grind
      refine Ua6 h1 ?_;omega
   ·refine⟨q,Qib _ hq,h1,λp hp h3=>?_⟩
    rcases Qia.1 hp with rfl|hp
    ·exact absurd h3 ha
    ·exact h2 p hp h3
  ·have ha : 0 < dot a.n d := by
    obtain⟨p,hp,h3⟩:=h
    rcases Qia.1 hp with rfl|hp
    ·exact h3
    ·exact absurd ⟨p,hp,h3⟩ hr
   refine⟨a,Qic,ha,λp hp h3=>?_⟩
   rcases Qia.1 hp with rfl|hp
   ·exact Int.le_refl _
   ·exact absurd ⟨p,hp,h3⟩ hr
theorem step{r:List Pln}{x:Pt}(hx:Inr r x)(d:V3)(h:∃p∈r,0<dot p.n d):∃q∈r,0<dot q.n d/\Inr r (go x q d):=by
 obtain⟨q,hq,h1,h2⟩:=first x d r hx.h h;refine⟨q,hq,h1,⟨Qil hx.w h1,λp hp=>?_⟩⟩
 rw[Gd1];have h3:=hx.h p hp;have h4:=hx.h q hq;by_cases h5:0<dot p.n d
 ·have:=h2 p hp h5
  have e:rmZ p x*dot q.n d=dot q.n d*rmZ p x:=Int.mul_comm _ _;omega
 ·have h6:=Qig (Qid h1) h3;have h7:rmZ q x*dot p.n d<=0:=Int.mul_nonpos_of_nonneg_of_nonpos h4 (by omega)
  omega
theorem we3{h q:Pln}{x:Pt}{d:V3}(h1:0<=rmZ q x)(h2:0<=dot h.n d):rmZ h (go x q d)*x.pw<=rmZ h x*(go x q d).pw\/x.pw<=0:=by
 rcases Int.lt_or_le 0 x.pw with hw|hw
 ·left;rw[Gd1]
  have:=Qig h1 h2
  have h3:=Qig this (Qid hw);have e:rmZ h x*(go x q d).pw=dot q.n d*rmZ h x*x.pw:=by unfold go;grind
  have e2:(dot q.n d*rmZ h x-rmZ q x*dot h.n d)*x.pw=dot q.n d*rmZ h x*x.pw-rmZ q x*dot h.n d*x.pw:=by grind
  omega
 ·exact .inr hw
def neg(d:V3):V3:=⟨-d.x,-d.y,-d.z⟩
theorem Jc7(a d:V3):dot a (neg d)=-dot a d:=by unfold dot neg;grind
theorem td3{d:V3}(h:d≠⟨0,0,0⟩):neg d≠⟨0,0,0⟩:=λh'=>h (by
 cases d;unfold neg at h';simp only[V3.mk.injEq] at h' ⊢;omega)
theorem turn(h:Pln){d:V3}(hd:d≠⟨0,0,0⟩):∃e,e≠(⟨0,0,0⟩:V3)/\0<=dot h.n e/\∀a,dot a d=0->dot a e=0:=by
 by_cases h1:0<=dot h.n d
 ·exact⟨d,hd,h1,λ_ h=>h⟩
 ·exact⟨neg d,td3 hd,by rw[Jc7];omega,λa h=>by rw[Jc7,h];rfl⟩
theorem perp{n:V3}(hn:n≠⟨0,0,0⟩):∃d,d≠(⟨0,0,0⟩:V3)/\dot n d=0:=by
 by_cases h:n.x=0/\n.y=0
 ·exact⟨⟨1,0,0⟩,by simp,by unfold dot;simp[h.1]⟩
 ·refine⟨⟨n.y,-n.x,0⟩,λh'=>h ?_,by unfold dot;grind⟩
  simp only[V3.mk.injEq] at h';omega
theorem V3.ext'{a b:V3}(h1:a.x=b.x)(h2:a.y=b.y)(h3:a.z=b.z):a=b:=by cases a;cases b;simp_all
theorem Gd2{m n d:V3}(hm:m≠⟨0,0,0⟩)(h1:dot m d=0)(h2:dot n d≠0):c7 m n≠⟨0,0,0⟩:=λh=>by
 unfold c7 at h;simp only[V3.mk.injEq] at h;obtain⟨c1,c2,c3⟩:=h;unfold dot at h1 h2;have e1:m.x*(n.x*d.x+n.y*d.y+n.z*d.z)=0:=by grind
 have e2:m.y*(n.x*d.x+n.y*d.y+n.z*d.z)=0:=by grind
 have e3:m.z*(n.x*d.x+n.y*d.y+n.z*d.z)=0:=by grind
 have k:∀{a:Int},a*(n.x*d.x+n.y*d.y+n.z*d.z)=0->a=0:=λh=>(Qij.1 h).resolve_right h2
 exact hm (V3.ext' (k e1) (k e2) (k e3))
theorem Ac0(a b:V3):dot a (c7 a b)=0:=by unfold dot c7;grind
theorem Ac1(a b:V3):dot b (c7 a b)=0:=by unfold dot c7;grind
theorem we4{p q:Pln}{x:Pt}{d:V3}(h:rmZ p x=0)(h':dot p.n d=0):rmZ p (go x q d)=0:=by rw[Gd1,h,h'];simp
theorem we5(q:Pln)(x:Pt)(d:V3):rmZ q (go x q d)=0:=by rw[Gd1];grind
theorem jf1{q:Pln}{d:V3}(h:0<dot q.n d):q.n≠⟨0,0,0⟩:=λh'=>by rw[h'] at h;unfold dot at h;simp at h
theorem Qe9{a b c u v w:Int}(hu:0<u)(hv:0<v)(hw:0<w)(h1:a*v<=b*u)(h2:b*w<=c*v):a*w<=c*u:=by
 have h3:=Qin h1 (Qid hw);have h4:=Qin h2 (Qid hu);have e1:a*v*w=a*w*v:=by grind
 have e2:b*u*w=b*w*u:=by grind
 have e3:c*v*u=c*u*v:=by grind
 exact Ua6 hv (by omega)
theorem Td4{r:List Pln}(hb:Bdd r)(h:Pln){x:Pt}(hx:Inr r x):∃v,Cn r v/\rmZ h v*x.pw<=rmZ h x*v.pw:=by
 obtain⟨d0,n0,p0,_⟩:=turn h (d:=⟨1,0,0⟩) (by simp)
 obtain⟨q1,m1,k1,i1⟩:=step hx d0 (hb d0 n0);have l1:=(we3 (h:=h) (x:=x) (hx.h q1 m1) p0).resolve_right (by have:=hx.w;omega)
 obtain⟨e1,ne1,he1⟩:=perp (jf1 k1);obtain⟨d1,n1,p1,z1⟩:=turn h ne1;obtain⟨q2,m2,k2,i2⟩:=step i1 d1 (hb d1 n1);have l2:=(we3 (h:=h) (x:=go x q1 d0) (i1.h q2 m2) p1).resolve_right (by have:=i1.w;omega)
 have hc:=Gd2 (jf1 k1) (z1 _ he1) (n:=q2.n) (by omega)
 obtain⟨d2,n2,p2,z2⟩:=turn h hc;obtain⟨q3,m3,k3,i3⟩:=step i2 d2 (hb d2 n2);have l3:=(we3 (h:=h) (x:=go (go x q1 d0) q2 d1) (i2.h q3 m3) p2).resolve_right (by have:=i2.w;omega)
 have a1:rmZ q1 (go (go x q1 d0) q2 d1)=0:=we4 (we5 _ _ _) (z1 _ he1);refine⟨_,⟨i3,q3,q1,q2,m3,m1,m2,λh0=>?_,we5 _ _ _,we4 a1 (z2 _ (Ac0 _ _)),we4 (we5 _ _ _) (z2 _ (Ac1 _ _))⟩,?_⟩
 ·have:dot q3.n d2=0:=z2 _ h0
  omega
 ·exact Qe9 i3.w i2.w hx.w l3 (Qe9 i2.w i1.w hx.w l2 l1)
theorem ua2{r:List Pln}(hb:Bdd r){h:Pln}(hv:∀v,Cn r v->0<=rmZ h v){x:Pt}(hx:Inr r x):0<=rmZ h x:=by
 obtain⟨v,h1,h2⟩:=Td4 hb h hx;have h3:=Qig (hv v h1) (Qid hx.w);exact Ua6 h1.w (by rw[Qiaf];omega)
def mid(x y:Pt):Pt:=⟨x.px*y.pw+y.px*x.pw,x.py*y.pw+y.py*x.pw,x.pz*y.pw+y.pz*x.pw,2*(x.pw*y.pw)⟩
theorem we6(p:Pln)(x y:Pt):rmZ p (mid x y)=rmZ p x*y.pw+rmZ p y*x.pw:=by unfold rmZ mid;grind
theorem Inr.mid{r:List Pln}{x y:Pt}(hx:Inr r x)(hy:Inr r y):Inr r (mid x y):=⟨by unfold Ce.mid;exact Qil (by decide) (Qil hx.w hy.w),λp hp=>by
 rw[we6];exact Int.add_nonneg (Qig (hx.h p hp) (Qid hy.w)) (Qig (hy.h p hp) (Qid hx.w))⟩
def we7(r:List Pln):Prop:=∃x:Pt,0<x.pw/\∀p∈r,0<rmZ p x
theorem be1{r:List Pln}:∀(l:List Pln),(∀p∈l,p∈r)->(∃x,Inr r x)->(∀p∈l,∃v,Inr r v/\0<rmZ p v)->∃x,Inr r x/\∀p∈l,0<rmZ p x
 |[],_,h,_=>by obtain⟨x,h⟩:=h;exact⟨x,h,λp hp=>by cases hp⟩
 |a::l,hl,h,hv=>by
  obtain⟨x,h1,h2⟩:=be1 l (λp hp=>hl p (Qib _ hp)) h (λp hp=>hv p (Qib _ hp))
  obtain⟨y,h3,h4⟩:=hv a Qic;refine⟨mid x y,h1.mid h3,λp hp=>?_⟩
  rw[we6]
  rcases Qia.1 hp with rfl|hp
  ·have:=Qig (h1.h p (hl p Qic)) (Qid h3.w)
   have:=Qil h4 h1.w
   omega
  ·have:=Qil (h2 p hp) h3.w
   have:=Qig (h3.h p (hl p (Qib _ hp))) (Qid h1.w)
   omega
theorem we8{r:List Pln}(hb:Bdd r)(h0:r≠[]):we7 r↔∀p∈r,∃v,Cn r v/\0<rmZ p v:=by
 constructor
 ·intro ⟨x,hw,hx⟩ p hp;by_cases h:∃v,Cn r v/\0<rmZ p v
  ·exact h
  ·have hx':Inr r x:=⟨hw,λq hq=>Qid (hx q hq)⟩
   have:=ua2 hb (h:=X6 p) (λv hv=>by
    rw[jb7]
    have:¬ 0<rmZ p v:=λh'=>h ⟨v,hv,h'⟩
    omega) hx'
   rw[jb7] at this
   have:=hx p hp
   omega
 ·intro h;obtain⟨p,hp⟩:=List.exists_mem_of_ne_nil r h0;obtain⟨v,hv,_⟩:=h p hp;obtain⟨x,h1,h2⟩:=be1 r (λ_ h=>h) ⟨v,hv.toInr⟩ λp hp=>by
   obtain⟨v,hv,h⟩:=h p hp;exact⟨v,hv.toInr,h⟩
  exact⟨x,h1.w,h2⟩
structure Eqv(x v:Pt):Prop where
 e1:x.px*v.pw=v.px*x.pw
 e2:x.py*v.pw=v.py*x.pw
 e3:x.pz*v.pw=v.pz*x.pw
theorem Eqv.rm{x v:Pt}(h:Eqv x v)(p:Pln):rmZ p x*v.pw=rmZ p v*x.pw:=by
 obtain⟨e1,e2,e3⟩:=h;unfold rmZ
 grind
theorem Eqv.inr{r:List Pln}{x v:Pt}(h:Eqv x v)(hw:0<x.pw)(hv:Inr r v):Inr r x:=⟨hw,λp hp=>by
 have:=h.rm p
 have h2:=Qig (hv.h p hp) (Qid hw);exact Ua6 hv.w (by rw[Qiaf];omega)⟩
end Go.Ev.Ce
namespace Go.Ev.Ce
open Go Go.Ev Go.Ev.L Go.Proofs
theorem Ke3{p:Pln}{x:Pt}(hp:Bd p)(hx:Okx x):rm p x=rmZ p x:=by
 unfold rm rmZ;obtain⟨w1,w2,⟨a1,a2⟩,⟨a3,a4⟩,a5,a6⟩:=hx;have h0:=mb hp.b1 hp.b2 (show -600000000000<=x.pw by omega) w2
 have h1:=mb hp.x1 hp.x2 a1 a2;have h2:=mb hp.y1 hp.y2 a3 a4;have h3:=mb hp.z1 hp.z2 a5 a6;exact qa7 (by omega) (by omega)
theorem be2{r:List Pln}(hb:Bds r){x:Pt}(hx:Okx x):inn r x=true↔Inr r x:=by
 unfold inn;rw[Qip];constructor
 ·intro h;refine⟨hx.w1,λp hp=>?_⟩
  have:=h p hp
  rw[Ke3 (hb p hp) hx] at this;simpa using this
 ·intro h p hp;rw[Ke3 (hb p hp) hx];simpa using h.h p hp
theorem Re0{p q s:Pln}(h:(mpt p q s).2=true):mw p q s≠0/\∃k:Int,k≠0/\k*(mpt p q s).1.px=(mv p q s).x/\k*(mpt p q s).1.py=(mv p q s).y/\k*(mpt p q s).1.pz=(mv p q s).z/\k*(mpt p q s).1.pw=mw p q s:=by
 unfold mpt at h ⊢;by_cases h0:mw p q s=0
 ·rw[if_pos h0] at h;cases h
 refine⟨h0,?_⟩;have hg:=Sd7 (v:=mv p q s) h0;have dv:∀{x:Int},(gc (mv p q s) (mw p q s))∣x->gc (mv p q s) (mw p q s)*Int.tdiv x (gc (mv p q s) (mw p q s))=x:=λh=>Int.mul_tdiv_cancel' h
 have d1:gc (mv p q s) (mw p q s)∣(mv p q s).x:=by
  rw[<- Qit];exact Qii.2 (Qiu (Qiw _ _) (Qiw _ _))
 have d2:gc (mv p q s) (mw p q s)∣(mv p q s).y:=by
  rw[<- Qit];exact Qii.2 (Qiu (Qiw _ _) (Qik _ _))
 have d3:gc (mv p q s) (mw p q s)∣(mv p q s).z:=by
  rw[<- Qit];exact Qii.2 (Qiu (Qik _ _) (Qiw _ _))
 have d4:gc (mv p q s) (mw p q s)∣mw p q s:=by
  rw[<- Qit];exact Qii.2 (Qiu (Qik _ _) (Qik _ _))
 rw[if_neg h0];by_cases h1:mw p q s<0
 ·rw[if_pos h1];have e:∀{x:Int},(gc (mv p q s) (mw p q s))∣x->-(gc (mv p q s) (mw p q s))*Int.tdiv (-x) (gc (mv p q s) (mw p q s))=x:=λ{x} h=>by
   rw[Int.neg_mul,dv ((Int.dvd_neg).2 h),Int.neg_neg]
  exact⟨-(gc (mv p q s) (mw p q s)),by omega,e d1,e d2,e d3,e d4⟩
 ·rw[if_neg h1];exact⟨gc (mv p q s) (mw p q s),by omega,dv d1,dv d2,dv d3,dv d4⟩
theorem we9{p q s:Pln}(h:(mpt p q s).2=true):rmZ p (mpt p q s).1=0/\rmZ q (mpt p q s).1=0/\rmZ s (mpt p q s).1=0:=by
 obtain⟨_,k,hk,e1,e2,e3,e4⟩:=Re0 h;generalize (mpt p q s).1=x at *
 have f:∀a:Pln,a.b*mw p q s-(a.n.x*(mv p q s).x+a.n.y*(mv p q s).y+a.n.z*(mv p q s).z)=0->rmZ a x=0:=λa ha=>by
  rw[<- e1,<- e2,<- e3,<- e4] at ha
  have:k*rmZ a x=0:=by rw[<- ha];unfold rmZ;grind
  exact (Qij.1 this).resolve_left hk
 refine⟨f p ?_,f q ?_,f s ?_⟩<;>(simp only[mw,mv,dot,c7];grind)
theorem Ke4{p q s:Pln}(h:mw p q s≠0):(mpt p q s).2=true:=by
 unfold mpt;rw[if_neg h]
 split<;>rfl
theorem xe0{p q s:Pln}{x:Pt}(h1:rmZ p x=0)(h2:rmZ q x=0)(h3:rmZ s x=0):mw p q s*x.px=(mv p q s).x*x.pw/\mw p q s*x.py=(mv p q s).y*x.pw/\mw p q s*x.pz=(mv p q s).z*x.pw:=by
 have i1:(mv p q s).x*x.pw-mw p q s*x.px=(c7 q.n s.n).x*rmZ p x+(c7 s.n p.n).x*rmZ q x+(c7 p.n q.n).x*rmZ s x:=by simp only[mw,mv,dot,c7,rmZ];grind
 have i2:(mv p q s).y*x.pw-mw p q s*x.py=(c7 q.n s.n).y*rmZ p x+(c7 s.n p.n).y*rmZ q x+(c7 p.n q.n).y*rmZ s x:=by simp only[mw,mv,dot,c7,rmZ];grind
 have i3:(mv p q s).z*x.pw-mw p q s*x.pz=(c7 q.n s.n).z*rmZ p x+(c7 s.n p.n).z*rmZ q x+(c7 p.n q.n).z*rmZ s x:=by simp only[mw,mv,dot,c7,rmZ];grind
 rw[h1,h2,h3] at i1 i2 i3;simp only[Int.mul_zero,Int.add_zero] at i1 i2 i3;omega
theorem Ye2{p q s:Pln}{x v:Pt}(h:mw p q s≠0)(h1:rmZ p x=0)(h2:rmZ q x=0)(h3:rmZ s x=0)(k1:rmZ p v=0)(k2:rmZ q v=0)(k3:rmZ s v=0):Eqv x v:=by
 obtain⟨a1,a2,a3⟩:=xe0 h1 h2 h3;obtain⟨c1,c2,c3⟩:=xe0 k1 k2 k3;have f:∀{a c m:Int},mw p q s*a=m*x.pw->mw p q s*c=m*v.pw->a*v.pw=c*x.pw:=λ{a c m} ha hc=>by
  have:mw p q s*(a*v.pw-c*x.pw)=0:=by grind
  have:=(Qij.1 this).resolve_left h
  omega
 exact⟨f a1 c1,f a2 c2,f a3 c3⟩
theorem ke7{r:List Pln}{p q:Pln}{out:List Pt}{s:Pln}{x:Pt}(h:x∈out):x∈mc4 r p q out s:=by
 unfold mc4;split
 ·exact List.mem_append_left _ h
 ·exact h
theorem Uc1{r:List Pln}{p q:Pln}{x:Pt}:∀{l:List Pln} {out:List Pt},x∈out->x∈ke3 r p q l out
 |[],_,h=>h
 |s::l,out,h=>Uc1 (l:=l) (out:=mc4 r p q out s) (ke7 h)
theorem nc3{r:List Pln}{p:Pln}{x:Pt}:∀{l:List Pln} {out:List Pt},x∈out->x∈Fd4 r p l out
 |[],_,h=>h
 |_::l,_,h=>nc3 (l:=l) (Uc1 h)
theorem Gd3{r:List Pln}{x:Pt}:∀{l:List Pln} {out:List Pt},x∈out->x∈Sd9 r l out
 |[],_,h=>h
 |_::l,_,h=>Gd3 (l:=l) (nc3 h)
theorem ke8{r:List Pln}{p q:Pln}{out:List Pt}{s:Pln}(h1:(mpt p q s).2=true)(h2:inn r (mpt p q s).1=true):(mpt p q s).1∈mc4 r p q out s:=by
 unfold mc4;rw[h1,h2];cases h:Je3 out (mpt p q s).1 with
 |true=>simpa using (ue9 _ _).1 h
 |false=>simp
theorem Uc2{r:List Pln}{p q s:Pln}(h1:(mpt p q s).2=true)(h2:inn r (mpt p q s).1=true):∀{l:List Pln} {out:List Pt},s∈l->(mpt p q s).1∈ke3 r p q l out
 |[],_,h=>by cases h
 |t::l,out,h=>by
  show _∈ke3 r p q l (mc4 r p q out t)
  rcases Qia.1 h with rfl|h
  ·exact Uc1 (ke8 h1 h2)
  ·exact Uc2 h1 h2 h
structure Hit(r:List Pln)(Q:Pt->Prop)(p q s:Pln):Prop where
 h1:(mpt p q s).2=true
 h2:inn r (mpt p q s).1=true
 h3:Q (mpt p q s).1
theorem Gd4{r:List Pln}{Q:Pt->Prop}{p q s:Pln}(hq:Hit r Q p q s)(hs:Hit r Q p s q)(hne:q≠s):∀{l:List Pln} {out:List Pt},q∈l->s∈l->∃x∈Fd4 r p l out,Q x
 |[],_,h,_=>by cases h
 |t::l,out,hql,hsl=>by
  show ∃x∈Fd4 r p l (ke3 r p t l out),Q x
  rcases Qia.1 hql with rfl|h1
  ·have h2:=(Qia.1 hsl).resolve_left λh=>hne h.symm
   exact⟨_,nc3 (Uc2 hq.h1 hq.h2 h2),hq.h3⟩
  ·rcases Qia.1 hsl with rfl|h2
   ·exact⟨_,nc3 (Uc2 hs.h1 hs.h2 h1),hs.h3⟩
   ·exact Gd4 hq hs hne (l:=l) h1 h2
theorem Gd5 {r : List Pln} {Q : Pt → Prop} {p q s : Pln} (H : ∀ a c d, (a = p ∨ a = q ∨ a = s) → (c = p ∨ c = q ∨ c = s) → (d = p ∨ d = q ∨ d = s) → a ≠ c → c ≠ d → a ≠ d → Hit r Q a c d) (h1 : p ≠ q) (h2 : q ≠ s) (h3 : p ≠ s) :
  ∀{l:List Pln} {out:List Pt},p∈l->q∈l->s∈l->∃x∈Sd9 r l out,Q x
 |[],_,h,_,_=>by cases h
 |t::l,out,hp,hq,hs=>by
  have fin:∀{a c d:Pln} {out:List Pt},(a=p\/a=q\/a=s)->(c=p\/c=q\/c=s)->(d=p\/d=q\/d=s)->a≠c->c≠d->a≠d->c∈l->d∈l->∃x∈Sd9 r l (Fd4 r a l out),Q x:=λha hc hd n1 n2 n3 m1 m2=>by
   obtain⟨x,hx,hQ⟩:=Gd4 (H _ _ _ ha hc hd n1 n2 n3) (H _ _ _ ha hd hc n3 n2.symm n1) n2 (out:=_) m1 m2;exact⟨x,Gd3 hx,hQ⟩
  show ∃x∈Sd9 r l (Fd4 r t l out),Q x
  rcases Qia.1 hp with rfl|hp'
  ·exact fin (.inl rfl) (.inr (.inl rfl)) (.inr (.inr rfl)) h1 h2 h3 ((Qia.1 hq).resolve_left (Ne.symm h1)) ((Qia.1 hs).resolve_left (Ne.symm h3))
  ·rcases Qia.1 hq with rfl|hq'
   ·exact fin (.inr (.inl rfl)) (.inl rfl) (.inr (.inr rfl)) (Ne.symm h1) h3 h2 hp' ((Qia.1 hs).resolve_left (Ne.symm h2))
   ·rcases Qia.1 hs with rfl|hs'
    ·exact fin (.inr (.inr rfl)) (.inl rfl) (.inr (.inl rfl)) (Ne.symm h3) h1 (Ne.symm h2) hp' hq'
    ·exact Gd5 H h1 h2 h3 hp' hq' hs'
theorem jf2{p q s:Pln}(h:mw p q s≠0):p≠q/\q≠s/\p≠s:=by
 refine⟨λe=>h ?_,λe=>h ?_,λe=>h ?_⟩<;>(subst e;simp only[mw,dot,c7];grind)
theorem Ye3{r:List Pln}(hb:Bds r):∀x∈cor r,Cn r x:=ae6 λp hp q hq s hs h hi=>by
 obtain⟨w1,w2,w3,w4,w5⟩:=Sd8 (hb p hp) (hb q hq) (hb s hs) h;obtain⟨e1,e2,e3⟩:=we9 h;exact⟨(be2 hb ⟨w1,w5,w2,w3,w4⟩).1 hi,p,q,s,hp,hq,hs,(Re0 h).1,e1,e2,e3⟩
theorem Ye4{r:List Pln}(hb:Bds r){v:Pt}(hv:Cn r v):∃x∈cor r,Eqv x v:=by
 obtain⟨p,q,s,hp,hq,hs,hw,e1,e2,e3⟩:=hv.c;obtain⟨n1,n2,n3⟩:=jf2 hw;refine Gd5 (λa c d ha hc hd m1 m2 m3=>?_) n1 n2 n3 hp hq hs
 have hm:∀{a},(a=p\/a=q\/a=s)->a∈r/\rmZ a v=0:=λh=>by
  rcases h with rfl|rfl|rfl
  ·exact⟨hp,e1⟩
  ·exact⟨hq,e2⟩
  ·exact⟨hs,e3⟩
 have hw':mw a c d≠0:=by
  have k:mw a c d=mw p q s\/mw a c d=-mw p q s:=by
   rcases ha with rfl|rfl|rfl<;>rcases hc with rfl|rfl|rfl<;>rcases hd with rfl|rfl|rfl<;>first|exact absurd rfl m1|exact absurd rfl m2|exact absurd rfl m3|exact .inl rfl|(left;simp only[mw,dot,c7];grind;done)|(right;simp only[mw,dot,c7];grind;done)
  rcases k with k|k<;>omega
 have h:=Ke4 hw';obtain⟨w1,w2,w3,w4,w5⟩:=Sd8 (hb a (hm ha).1) (hb c (hm hc).1) (hb d (hm hd).1) h;obtain⟨f1,f2,f3⟩:=we9 h;have he:=Ye2 hw' f1 f2 f3 (hm ha).2 (hm hc).2 (hm hd).2;exact⟨h,(be2 hb ⟨w1,w5,w2,w3,w4⟩).2 (he.inr w1 hv.toInr),he⟩
theorem xe1(c:List Pln):Bdd (c++ws):=λd hd=>by
 have k:∀{n:V3} {m:Int},(⟨n,m⟩:Pln)∈ws->0<dot n d->∃p∈c++ws,0<dot p.n d:=λh h'=>⟨_,List.mem_append_right _ h,h'⟩
 by_cases h1:0<d.x
 ·exact k (n:=⟨1,0,0⟩) (m:=24) (by simp[ws]) (by unfold dot;simp;omega)
 by_cases h2:d.x<0
 ·exact k (n:=⟨-1,0,0⟩) (m:=24) (by simp[ws]) (by unfold dot;simp;omega)
 by_cases h3:0<d.y
 ·exact k (n:=⟨0,1,0⟩) (m:=24) (by simp[ws]) (by unfold dot;simp;omega)
 by_cases h4:d.y<0
 ·exact k (n:=⟨0,-1,0⟩) (m:=24) (by simp[ws]) (by unfold dot;simp;omega)
 by_cases h5:0<d.z
 ·exact k (n:=⟨0,0,1⟩) (m:=24) (by simp[ws]) (by unfold dot;simp;omega)
 by_cases h6:d.z<0
 ·exact k (n:=⟨0,0,-1⟩) (m:=24) (by simp[ws]) (by unfold dot;simp;omega)
 exact absurd (V3.ext' (by show d.x=0;omega) (by show d.y=0;omega) (by show d.z=0;omega)) hd
theorem be3{r:List Pln}(hb:Bds r){p:Pln}(hp:Bd p):pos (cor r) p=true↔∃v,Cn r v/\0<rmZ p v:=by
 unfold pos;rw[List.any_eq_true];constructor
 ·rintro⟨x,hx,h⟩;rw[Ke3 hp (sd9 hb x hx)] at h;exact⟨x,Ye3 hb x hx,by simpa using h⟩
 ·rintro⟨v,hv,h⟩;obtain⟨x,hx,he⟩:=Ye4 hb hv;refine⟨x,hx,?_⟩;rw[Ke3 hp (sd9 hb x hx)];have h1:=he.rm p;have h2:=Qil h (sd9 hb x hx).w1
  have:0<rmZ p x:=Int.lt_of_mul_lt_mul_right (by rw[Qiaf];omega:0*v.pw<rmZ p x*v.pw) (Qid hv.w)
  simpa using this
theorem ke9{r:List Pln}(hb:Bds r)(hd:Bdd r)(h0:r≠[]):Je6 r=true↔we7 r:=by
 rw[we8 hd h0];unfold Je6;rw[Qip];exact⟨λh p hp=>(be3 hb (hb p hp)).1 (h p hp),λh p hp=>(be3 hb (hb p hp)).2 (h p hp)⟩
end Go.Ev.Ce
namespace Go.Ev.Ce
def dv(z v:Pt):V3:=⟨v.px*z.pw-z.px*v.pw,v.py*z.pw-z.py*v.pw,v.pz*z.pw-z.pz*v.pw⟩
def thr(n:V3)(z:Pt):Pln:=⟨⟨z.pw*n.x,z.pw*n.y,z.pw*n.z⟩,n.x*z.px+n.y*z.py+n.z*z.pz⟩
theorem xe2(n:V3)(z x:Pt):rmZ (thr n z) x=-dot n (dv z x):=by simp only[rmZ,thr,dot,dv];grind
theorem xe3{p:Pln}{z v:Pt}(hz:rmZ p z≠0)(hv:rmZ p v=0)(hw:0<v.pw):dv z v≠⟨0,0,0⟩:=λh=>by
 unfold dv at h;simp only[V3.mk.injEq] at h;obtain⟨e1,e2,e3⟩:=h
 have:rmZ p z*v.pw=rmZ p v*z.pw:=by unfold rmZ;grind
 rw[hv,Qiaf] at this;exact (Qij.1 this).elim hz (by omega)
theorem Ye5{p:Pln}{z:Pt}(hz:rmZ p z≠0):∀l:List Pt,l.length<=2->(∀v∈l,rmZ p v=0/\0<v.pw)->∃n,n≠(⟨0,0,0⟩:V3)/\∀v∈l,dot n (dv z v)=0
 |[],_,_=>⟨⟨1,0,0⟩,by simp,λv h=>by cases h⟩
 |[v],_,h=>by
  obtain⟨h1,h2⟩:=h v (by simp)
  obtain⟨d,hd,he⟩:=perp (xe3 hz h1 h2);exact⟨d,hd,λu hu=>by rw[List.mem_singleton.1 hu,<- he];unfold dot;grind⟩
 |[v,u],_,h=>by
  obtain⟨h1,h2⟩:=h v (by simp)
  by_cases hc:c7 (dv z v) (dv z u)=⟨0,0,0⟩
  ·obtain⟨d,hd,he⟩:=perp (xe3 hz h1 h2);have hu:dot (dv z u) d=0:=by
    by_cases h0:dot (dv z u) d=0
    ·exact h0
    ·exact absurd hc (Gd2 (xe3 hz h1 h2) he h0)
   refine⟨d,hd,λx hx=>?_⟩
   simp only[Qia,Qiad,or_false] at hx
   rcases hx with rfl|rfl
   ·rw[<- he];unfold dot;grind
   ·rw[<- hu];unfold dot;grind
  ·refine⟨_,hc,λx hx=>?_⟩
   simp only[Qia,Qiad,or_false] at hx
   rcases hx with rfl|rfl
   ·rw[<- Ac0 (dv z x) (dv z u)];unfold dot;grind
   ·rw[<- Ac1 (dv z v) (dv z x)];unfold dot;grind
 |_::_::_::_,h,_=>by simp at h
def Ye6(p:Pln)(z v:Pt):Pt:=⟨rmZ p v*z.px-rmZ p z*v.px,rmZ p v*z.py-rmZ p z*v.py,rmZ p v*z.pz-rmZ p z*v.pz,rmZ p v*z.pw-rmZ p z*v.pw⟩
theorem td4(p q:Pln)(z v:Pt):rmZ q (Ye6 p z v)=rmZ p v*rmZ q z-rmZ p z*rmZ q v:=by
 generalize ha:rmZ p v=a;generalize hb:rmZ p z=c;simp only[rmZ,Ye6] at *
 rw[ha,hb]
 grind
theorem xe4{r:List Pln}(hb:Bdd r)(hB:we7 r){h:Pln}(hn:h.n≠⟨0,0,0⟩):¬ ∀x,Inr r x->rmZ h x=0:=λH=>by
 obtain⟨x,hw,hx⟩:=hB;have hi:Inr r x:=⟨hw,λp hp=>Qid (hx p hp)⟩
 obtain⟨q,hq,h1,h2⟩:=step hi h.n (hb h.n hn);have h3:=H _ h2;rw[Gd1,H _ hi] at h3;have h4:=hx q hq;have h5:0<dot h.n h.n:=by
  have k:∀a:Int,a≠0->0<a*a:=λa ha=>by
   rcases Int.lt_or_gt_of_ne ha with h|h
   ·exact Int.mul_pos_of_neg_of_neg h h
   ·exact Qil h h
  have k0:∀a:Int,0<=a*a:=λa=>by
   by_cases h:a=0
   ·subst h;decide
   ·exact Qid (k a h)
  have a1:=k0 h.n.x;have a2:=k0 h.n.y;have a3:=k0 h.n.z;unfold dot;by_cases c1:h.n.x=0
  ·by_cases c2:h.n.y=0
   ·have:=k h.n.z (λc3=>hn (V3.ext' c1 c2 c3));omega
   ·have:=k _ c2;omega
  ·have:=k _ c1;omega
 have:=Qil h4 h5
 omega
theorem jf3 {r r' : List Pln} {p : Pln} (hb : Bdd r) (hB : we7 r) (hp : p ∈ r) (hr : ∀ q ∈ r, q ∈ r' ∨ q = p)
  (l:List Pt) (hl:l.length<=2) (hl0:∀v∈l,rmZ p v=0/\0<v.pw) (hc:∀v,Cn r v->rmZ p v=0->∃x∈l,Eqv x v) {z:Pt} (hz:Inr r' z):Inr r z:=by
 by_cases h0:0<=rmZ p z
 ·exact⟨hz.w,λq hq=>(hr q hq).elim (hz.h q) λe=>e ▸ h0⟩
 exfalso;have hneg:rmZ p z<0:=by omega
 obtain⟨n,hn,hv⟩:=Ye5 (p:=p) (z:=z) (by omega) l hl hl0
 have hn':(thr n z).n≠⟨0,0,0⟩:=λe=>hn (by
  unfold thr at e;simp only[V3.mk.injEq] at e;have k:∀{a:Int},z.pw*a=0->a=0:=λh=>(Qij.1 h).resolve_left (by have:=hz.w;omega)
  exact V3.ext' (k e.1) (k e.2.1) (k e.2.2))
 -- the face lies in that plane
 have hface:∀u,Inr r u->rmZ p u=0->rmZ (thr n z) u=0:=λu hu hu0=>by
  have hbd:Bdd (X6 p::r):=λd hd=>by
   obtain⟨q,hq,h⟩:=hb d hd;exact⟨q,Qib _ hq,h⟩
  have hiu:Inr (X6 p::r) u:=⟨hu.w,λq hq=>by
   rcases Qia.1 hq with rfl|hq
   ·rw[jb7,hu0];decide
   ·exact hu.h q hq⟩
  have hvx:∀v,Cn (X6 p::r) v->rmZ (thr n z) v=0:=λv hcv=>by
   have hir:Inr r v:=⟨hcv.w,λq hq=>hcv.h q (Qib _ hq)⟩
   have hp0:rmZ p v=0:=by
    have h1:=hcv.h (X6 p) Qic;rw[jb7] at h1;have h2:=hir.h p hp;omega
   obtain⟨a,c,d,ha,hc',hd,hw,e1,e2,e3⟩:=hcv.c
   -- a plane that is turned round gives the same Td4
   have fl:∀{a c d:Pln},mw (X6 a) c d=-mw a c d/\mw c (X6 a) d=-mw c a d/\mw c d (X6 a)=-mw c d a:=λ{a c d}=>by
    refine⟨?_,?_,?_⟩<;>(simp only[mw,dot,c7,X6];grind)
   have hr0:∀{a:Pln},rmZ (X6 a) v=0->rmZ a v=0:=λh=>by rw[jb7] at h;omega
   have hcn:Cn r v:=by
    refine⟨hir,?_⟩
    rcases Qia.1 ha with rfl|ha<;>rcases Qia.1 hc' with rfl|hc'<;>rcases Qia.1 hd with rfl|hd
    ·exact absurd (by simp only[mw,dot,c7];grind) hw
    ·exact absurd (by simp only[mw,dot,c7];grind) hw
    ·exact absurd (by simp only[mw,dot,c7];grind) hw
    ·exact⟨p,c,d,hp,hc',hd,by have:=(fl (a:=p) (c:=c) (d:=d)).1;omega,hp0,e2,e3⟩
    ·exact absurd (by simp only[mw,dot,c7];grind) hw
    ·exact⟨a,p,d,ha,hp,hd,by have:=(fl (a:=p) (c:=a) (d:=d)).2.1;omega,e1,hp0,e3⟩
    ·exact⟨a,c,p,ha,hc',hp,by have:=(fl (a:=p) (c:=a) (d:=c)).2.2;omega,e1,e2,hp0⟩
    ·exact⟨a,c,d,ha,hc',hd,hw,e1,e2,e3⟩
   obtain⟨x,hx,he⟩:=hc v hcn hp0;have h1:=he.rm (thr n z);rw[xe2 n z x,hv x hx] at h1;have h1:rmZ (thr n z) v*x.pw=0:=by omega
   exact (Qij.1 h1).resolve_right (by have:=(hl0 x hx).2;omega)
  have a1:=ua2 hbd (h:=thr n z) (λv hv=>by rw[hvx v hv];decide) hiu
  have a2:=ua2 hbd (h:=X6 (thr n z)) (λv hv=>by rw[jb7,hvx v hv];decide) hiu
  rw[jb7] at a2;omega
 -- so do all vertices
 have hall:∀v,Inr r v->rmZ (thr n z) v=0:=λv hi=>by
  by_cases hv0:rmZ p v=0
  ·exact hface v hi hv0
  have hvp:0<rmZ p v:=by have:=hi.h p hp;omega
  have hu:Inr r (Ye6 p z v):=by
   have w1:=Qil hvp hz.w;have w2:rmZ p z*v.pw<0:=Int.mul_neg_of_neg_of_pos hneg hi.w;refine⟨by show 0<rmZ p v*z.pw-rmZ p z*v.pw;omega,λq hq=>?_⟩
   rw[td4]
   rcases hr q hq with h|rfl
   ·have b1:=Qig (Qid hvp) (hz.h q h);have b2:rmZ p z*rmZ q v<=0:=Int.mul_nonpos_of_nonpos_of_nonneg (Qid hneg) (hi.h q hq);omega
   ·have:=Int.mul_comm (rmZ q v) (rmZ q z);omega
  have h1:=hface _ hu (by rw[td4];have:=Int.mul_comm (rmZ p v) (rmZ p z);omega)
  rw[td4] at h1;have h2:rmZ (thr n z) z=0:=by rw[xe2];simp only[dot,dv];grind
  rw[h2] at h1;have h1:rmZ p z*rmZ (thr n z) v=0:=by omega
  exact (Qij.1 h1).resolve_left (by omega)
 exact xe4 hb hB hn' hall
end Go.Ev.Ce
namespace Go.Ev.Ce
open Go Go.Ev Go.Ev.L Go.Proofs
theorem Ke5(x:List Pln)(y:Pln):lb7 x y≠[]:=by
 intro h
 have:=(wb5 y y x).2 (.inl rfl)
 rw[h] at this;cases this
theorem wb6(y:Pln):∀x:List Pln,(lb7 x y).length<=x.length+1
 |[]=>Nat.le_refl _
 |a::l=>by
  have:=wb6 y l
  unfold lb7;split
  ·simp only[List.length_cons];omega
  ·split<;>simp only[List.length_cons]<;>omega
def phP(out:List Pln):Nat:=match out with
 |[]=>0
 |_::_=>1
end Go.Ev.Ce
