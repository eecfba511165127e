/- Own work. -/
import Derived.Test.YtkfaiccnekeklaaGreatEvOaDN
set_option linter.all false
def Qia:=@List.mem_cons
def Qib:=@List.mem_cons_of_mem
def Qic:=@List.mem_cons_self
def Qid:=@Bool.and_eq_true
def Qie:=@Int.le_of_lt
def Qif:=@Int.mul_eq_zero
def Qig:=@Bool.and_true
def Qih:=@Int.mul_nonneg
def Qii:=@List.mem_map
def Qij:=@Nat.gcd_dvd_right
def Qik:=@List.any_eq_true
def Qil:=@Nat.gcd_dvd_left
def Qim:=@Int.natCast_dvd_natCast
def Qin:=@Nat.dvd_trans
def Qio:=@List.all_eq_true
def Qip:=@Bool.and_self
def Qiq:=@Classical.byContradiction
def Qir:=@Int.mul_pos
def Qis:=@List.pairwise_cons
def Qit:=@Int.mul_le_mul_of_nonneg_right
def Qiu:=@Int.dvd_natAbs
def Qiv:=@Int.mul_tdiv_cancel'
def Qiw:=@Nat.lt_irrefl
def Qix:=@Nat.gcd_pos_of_pos_right
def Qiy:=@Int.zero_mul
def Qiz:=@Bool.not_eq_true'
def Qiaa:=@List.not_mem_nil
def Qiab:=@Nat.beq_refl
def Qiac:=@List.mem_append_left
def Qiad:=@Int.nonneg_of_mul_nonneg_right
def Qiae:=@Int.mul_le_mul_of_nonneg_left
def Qiaf:=@Eq.trans
def Qiag:=@Bool.false_eq_true
def Qiah:=@List.getD_eq_getElem?_getD
def Qiai:=@Int.eq_of_mul_eq_mul_left
def Qiaj:=@Nat.zero_add
def Qiak:=@Int.mul_zero
def Qial:=@List.length_set
def Qiam:=@List.drop_zero
def Qian:=@List.mem_range
namespace Go.Ev.Ce
open Go Go.Ev Go.Ev.L Go.Proofs
set_option maxRecDepth 100000
structure va6 where
 (da7 da8 da9 dd1 e8 e7 g8:Int)
noncomputable def Vb1:List (Nat×Sum):=[(35,na7)]
theorem Nb2:j9 prog G Vb1:=⟨qa7,trivial⟩
structure va7 where
 bs0:Bool
noncomputable def ca1{α:Type}(kk:va7->α)(x:va6):α:=let t1:=(w7 (⟨x.e8,x.e7,x.g8⟩:V3) (⟨x.da7,x.da8,x.da9⟩:V3));(kk ⟨t1 != 0⟩)
noncomputable def Ka4(x:va6):va7:=ca1 (λr=>r) x
noncomputable def Ea4(x:va6)(r:va7):DT (c7×List c9):=.ret (b r.bs0,[⟨0,3,[[i x.e8,i x.e7,i x.g8]],true,false,0⟩])
theorem ec3{α β:Type}(F:α->β)(kk:va7->α)(x:va6):F (ca1 kk x)=ca1 (λr=>F (kk r)) x:=by unfold ca1;(repeat' apply q9 (f:=F))<;>rfl
noncomputable def mb6:Sum:=Va7 ⟨[.agg (kLq 4),sPq 0],[⟨0,3,true,some [kLq 3]⟩],λa H=>(⟨cIq a 0 0,cIq a 0 1,cIq a 0 2,cIq a 0 3,hIq H 0 0 0,hIq H 0 0 1,hIq H 0 0 2⟩,())⟩ (λx=>Ea4 x (Ka4 x))
theorem Vb2:i6 prog G 87 mb6:=R2 (enc:=λx=>⟨[.agg [i x.da7,i x.da8,i x.da9,i x.dd1],.ptr 0 0 0 0],[⟨0,3,[[i x.e8,i x.e7,i x.g8]],true,false,0⟩]⟩) (λa H=>by kernel_rfl) (bd b87 Nb2) λx=>y5 (Qiaf (b:=ca1 (λr=>(Ea4 x r).run) x) (by kernel_rfl) (ec3 (λr=>(Ea4 x r).run) (λr=>r) x).symm)
structure O1 where
 I1:List Pln
 (e8 e7 g8:Int)
noncomputable def pa0:List (Nat×Sum):=[(87,mb6)]
theorem Na8:j9 prog G pa0:=⟨Vb2,trivial⟩
structure C5 where
 I1:List Pln
 (is7 e8 e7 g8:Int)
structure l6 where
 is8:Int
noncomputable def ja9(p:C5)(s:l6):St:=⟨eL tP p.I1::.fn 87 [.ptr 0 0 0 0]::ra 5 (i p.is7::i s.is8::ra 10 []),[⟨0,3,[[i p.e8,i p.e7,i p.g8]],true,false,0⟩]⟩
noncomputable def A5{α:Type}(k:l6->α)(e:Nat->α)(z:α)(p:C5)(s:l6):α:=let t1:=(Ka4 ⟨(gL tP p.I1 s.is8.toNat).n.x,(gL tP p.I1 s.is8.toNat).n.y,(gL tP p.I1 s.is8.toNat).n.z,(gL tP p.I1 s.is8.toNat).b,p.e8,p.e7,p.g8⟩);(sl (decide (s.is8<p.is7)) (sl (inB s.is8 (List.length p.I1)) (sl t1.bs0 (e 1) (k ⟨W (s.is8+1)⟩)) z) (e 2))
noncomputable def B6(p:C5)(s:l6):Stp l6:=A5 .next .exit .fail p s
noncomputable def X3:Lo C5 l6:=⟨En pa0,1,oe4,[1,0,1,4,4],[0,1,7,8],.p,[⟨sLq tP::.fn 87 [.o (.ptr 0 0 0 0)]::ru2 5 (sIq::sIq::ru2 10 []),[⟨0,3,true,some [kLq 3]⟩],λa H=>(⟨aLq tP a 0,aIq a 7,hIq H 0 0 0,hIq H 0 0 1,hIq H 0 0 2⟩,⟨aIq a 8⟩)⟩],B6,[(none,λp s=>⟨[i s.is8],[⟨0,3,[[i p.e8,i p.e7,i p.g8]],true,false,0⟩]⟩),(some 0,λp s=>upq (ja9 p s) [(9,b (decide (s.is8<p.is7)))])],ja9⟩
theorem Ka5:X3.Ok:=Lo.ok [] (by kernel_rfl) .nil rfl (.cons (λa H=>by kernel_rfl) .nil) λp s=>(.of @A5 (λF _ _ _ _ _=>by unfold A5;(repeat' apply q9 (f:=F))<;>rfl) (by kernel_rfl))
structure O2 where
 alt:Nat
 is0:Int
noncomputable def B1{α:Type}(kk:O2->α)(x:O1):α:=let t1:=(lp (B6 (⟨rt tP x.I1,(↑(List.length x.I1):Int),x.e8,x.e7,x.g8⟩:C5)) (⟨0⟩:l6));(sl ((cnE tP x.I1)&&true) (sl (Nat.beq t1.1 1) (kk ⟨1,t1.2.is8⟩) (sl (Nat.beq t1.1 2) (kk ⟨1,-1⟩) (kk ⟨0,0⟩))) (kk ⟨0,0⟩))
noncomputable def O3(x:O1):O2:=B1 (λr=>r) x
noncomputable def aa1(x:O1)(r:O2):DT (c7×List c9):=(.ite (Nat.beq r.alt 1) (.ret (i r.is0,[⟨0,3,[[i x.e8,i x.e7,i x.g8]],true,false,0⟩])) .fail)
theorem Wa1{α β:Type}(F:α->β)(kk:O2->α)(x:O1):F (B1 kk x)=B1 (λr=>F (kk r)) x:=by unfold B1;(repeat' apply q9 (f:=F))<;>rfl
noncomputable def sa3:Sum:=Va7 ⟨[sLq tP,.fn 87 [.o (.ptr 0 0 0 0)]],[⟨0,3,true,some [kLq 3]⟩],λa H=>(⟨aLq tP a 0,hIq H 0 0 0,hIq H 0 0 1,hIq H 0 0 2⟩,())⟩ (λx=>aa1 x (O3 x))
theorem Ua1:i6 prog G 82 sa3:=R2 (enc:=λx=>⟨[eL tP x.I1,.fn 87 [.ptr 0 0 0 0]],[⟨0,3,[[i x.e8,i x.e7,i x.g8]],true,false,0⟩]⟩) (λa H=>by kernel_rfl) (bd b82 Na8) λx=>ib8 (.s .p (.s (.s .p (.b (.u X3.ls))) .p)) [X3.pr] (by kernel_rfl) (.cons Ka5 .nil) (Qiaf (b:=B1 (λr=>(aa1 x r).run) x) (by kernel_rfl) (Wa1 (λr=>(aa1 x r).run) (λr=>r) x).symm)
structure J3 where
 I1:List Pln
 (e8 e7 g8:Int)
noncomputable def Ia1:List (Nat×Sum):=[(82,sa3)]
theorem Ea5:j9 prog G Ia1:=⟨Ua1,trivial⟩
structure J4 where
 alt:Nat
 bs0:Bool
noncomputable def r9{α:Type}(kk:J4->α)(x:J3):α:=let t1:=(O3 ⟨rt tP x.I1,x.e8,x.e7,x.g8⟩);(sl ((cnE tP x.I1)&&true) (sl (Nat.beq t1.alt 1) (kk ⟨1,decide (t1.is0>=0)⟩) (kk ⟨0,false⟩)) (kk ⟨0,false⟩))
noncomputable def J5(x:J3):J4:=r9 (λr=>r) x
noncomputable def S4(x:J3)(r:J4):DT (c7×List c9):=(.ite (Nat.beq r.alt 1) (.ret (b r.bs0,[⟨0,3,[[i x.e8,i x.e7,i x.g8]],true,false,0⟩])) .fail)
theorem Ka6{α β:Type}(F:α->β)(kk:J4->α)(x:J3):F (r9 kk x)=r9 (λr=>F (kk r)) x:=by unfold r9;(repeat' apply q9 (f:=F))<;>rfl
noncomputable def ka0:Sum:=Va7 ⟨[sLq tP,.fn 87 [.o (.ptr 0 0 0 0)]],[⟨0,3,true,some [kLq 3]⟩],λa H=>(⟨aLq tP a 0,hIq H 0 0 0,hIq H 0 0 1,hIq H 0 0 2⟩,())⟩ (λx=>S4 x (J5 x))
theorem Ia2:i6 prog G 50 ka0:=R2 (enc:=λx=>⟨[eL tP x.I1,.fn 87 [.ptr 0 0 0 0]],[⟨0,3,[[i x.e8,i x.e7,i x.g8]],true,false,0⟩]⟩) (λa H=>by kernel_rfl) (bd b50 Ea5) λx=>y5 (Qiaf (b:=r9 (λr=>(S4 x r).run) x) (by kernel_rfl) (Ka6 (λr=>(S4 x r).run) (λr=>r) x).symm)
noncomputable def Ua2:List (Nat×Sum):=[(36,la5),(50,ka0)]
theorem ec4:j9 prog G Ua2:=⟨na8,Ia2,trivial⟩
structure ka1 where
 (I1 ub6:List Pln)
 (is9 w6:Int)
 Be0:Nat
 Cd9:Nat->List c7
 (ue2 e8 e7 g8 m0:Int)
structure N8 where
 wc7:Int
noncomputable def fb4(p:ka1)(s:N8):St:=⟨eL tP p.I1::ra 3 (.ptr 0 0 0 0::ra 3 (eL tP p.ub6::i p.is9::i p.w6::ra 6 (.tree 4 p.Be0 p.Cd9::i p.ue2::i s.wc7::ra 18 []))),[⟨0,4,[[i p.e8,i p.e7,i p.g8,i p.m0]],true,false,0⟩]⟩
noncomputable def da1{α:Type}(k:N8->α)(e:Nat->α)(z:α)(p:ka1)(s:N8):α:=let t1:=(A1 (⟨p.e8,p.e7,p.g8⟩:V3) (⟨toI (hdA (p.Cd9 s.wc7.toNat)),toI (hdA (tlA (p.Cd9 s.wc7.toNat))),toI (hdA (tlA (tlA (p.Cd9 s.wc7.toNat))))⟩:V3));let t2:=(J5 ⟨rt tP p.I1,t1.x,t1.y,t1.z⟩);(sl (decide (s.wc7<p.ue2)) (sl (inB s.wc7 p.Be0) (sl ((Nat.ble 4 (len (p.Cd9 s.wc7.toNat)))&&(ma9 [CK.int .i64,CK.int .i64,CK.int .i64,CK.int .i64] (p.Cd9 s.wc7.toNat))) (sl (!((t1.x==0)&&((t1.y==0)&&((t1.z==0)&&true)))) (sl ((cnE tP p.I1)&&true) (sl (Nat.beq t2.alt 1) (sl t2.bs0 (e 1) (k ⟨W (s.wc7+1)⟩)) z) z) (k ⟨W (s.wc7+1)⟩)) z) z) (e 2))
noncomputable def Y4(p:ka1)(s:N8):Stp N8:=da1 .next .exit .fail p s
noncomputable def Ka7:Lo ka1 N8:=⟨En Ua2,0,oe2,[1,0,1,4,4,1,1,0,4,1,1,4,4],[0,4,8,9,10,17,18,19],.p,[⟨sLq tP::ru2 3 (sPq 0::ru2 3 (sLq tP::sIq::sIq::ru2 6 (sTq 4::sIq::sIq::ru2 18 []))),[⟨0,4,true,some [kLq 4]⟩],λa H=>(⟨aLq tP a 0,aLq tP a 8,aIq a 9,aIq a 10,aNq a 17,aGq a 17,aIq a 18,hIq H 0 0 0,hIq H 0 0 1,hIq H 0 0 2,hIq H 0 0 3⟩,⟨aIq a 19⟩)⟩],Y4,[(none,λp s=>⟨[b true],[]⟩),(some 2,λp s=>upq (fb4 p s) [(20,b (decide (s.wc7<p.ue2)))])],fb4⟩
theorem Vb3:Ka7.Ok:=Lo.ok [] (by kernel_rfl) .nil rfl (.cons (λa H=>by kernel_rfl) .nil) λp s=>(.of @da1 (λF _ _ _ _ _=>by unfold da1;(repeat' apply q9 (f:=F))<;>rfl) (by kernel_rfl))
structure ka2 where
 is9:Int
structure N9 where
 (I1 ub6:List Pln)
 w6:Int
noncomputable def fb5(p:ka2)(s:N9):St:=⟨eL tP s.I1::ra 7 (eL tP s.ub6::i p.is9::i s.w6::ra 27 []),[]⟩
noncomputable def da2{α:Type}(k:N9->α)(e:Nat->α)(z:α)(p:ka2)(s:N9):α:=let t1:=(lp (Y4 (⟨rt tP s.I1,rt tP s.ub6,p.is9,s.w6,s.w6.toNat-0,(λk=>(λk=>(tP).row (gL tP s.I1 k)) (0+k)),(↑(s.w6.toNat-0):Int),(gL tP s.ub6 s.w6.toNat).n.x,(gL tP s.ub6 s.w6.toNat).n.y,(gL tP s.ub6 s.w6.toNat).n.z,(gL tP s.ub6 s.w6.toNat).b⟩:ka1)) (⟨0⟩:N8));(sl (decide (s.w6<p.is9)) (sl (inB s.w6 (List.length s.ub6)) (sl (inB s.w6 ((List.length s.I1)+1)) (sl ((cnE tP s.I1)&&((cnE tP s.ub6)&&true)) (sl (Nat.beq t1.1 1) (e 1) (sl (Nat.beq t1.1 2) (k ⟨rt tP s.I1,rt tP s.ub6,W (s.w6+1)⟩) z)) z) z) z) (e 2))
noncomputable def Y5(p:ka2)(s:N9):Stp N9:=da2 .next .exit .fail p s
noncomputable def Ka8:Lo ka2 N9:=⟨En Ua2,0,oe2,[1,0,1,4,4],[0,8,9,10],.s .p (.s .p (.s (.b (.s .p (.s .p (.b (.u Ka7.ls))))) .p)),[⟨sLq tP::ru2 7 (sLq tP::sIq::sIq::ru2 27 []),[],λa H=>(⟨aIq a 9⟩,⟨aLq tP a 0,aLq tP a 8,aIq a 10⟩)⟩],Y5,[(none,λp s=>⟨[b true],[]⟩),(some 0,λp s=>upq (fb5 p s) [(11,b (decide (s.w6<p.is9)))])],fb5⟩
theorem Vb4:Ka8.Ok:=Lo.ok [Ka7.pr] (by kernel_rfl) (.cons Vb3 .nil) rfl (.cons (λa H=>by kernel_rfl) .nil) λp s=>(.of @da2 (λF _ _ _ _ _=>by unfold da2;(repeat' apply q9 (f:=F))<;>rfl) (by kernel_rfl))
noncomputable def ta9(x:List Pln):Option (c7×List c9):=let t1:=(lp (Y5 (⟨(↑(List.length x):Int)⟩:ka2)) (⟨rt tP x,rt tP x,0⟩:N9));(sl ((cnE tP x)&&((cnE tP x)&&true)) (sl (Nat.beq t1.1 1) (some (b true,[])) (sl (Nat.beq t1.1 2) (some (b false,[])) none)) none)
noncomputable def la7(x:List Pln):Bool:=V0 (one r1B) (ta9 x)
noncomputable def la8(x:List Pln):Bool:=okO (one r1B) (ta9 x)
noncomputable def Ab8:Sum:=L0 (ya3 tP) (λx=>.guard (la8 x) (.ret ((one r1B).enc (la7 x),[])))
theorem rc4:i6 prog G 56 Ab8:=Da4 (bd b56 ec4) (one r1B) (o:=ta9) λx=>ib8 (.s .p (.s (.s .p (.b (.u Ka8.ls))) .p)) [Ka8.pr] (by kernel_rfl) (.cons Vb4 .nil) (by kernel_rfl)
structure ra4 where
 (da7 da8 da9:Int)
 I4:List Pln
noncomputable def Ya6:List (Nat×Sum):=[(30,ra1),(56,Ab8)]
theorem Gb2:j9 prog G Ya6:=⟨ta3,rc4,trivial⟩
structure E5 where
 La8:List Pln
 is8:Int
 I4:List Pln
 (D7 D8 D9:Int)
structure l5 where
 ph:Nat
 is9:Int
 ns4:Nat
 eh2:List (List c7)
noncomputable def Ia3(p:E5)(s:l5):St:=⟨.unk::.unk::.ptr 1 0 0 0::.unk::.v (.slice none 0 0)::.unk::.unk::eL tP p.La8::i p.is8::i s.is9::ra 15 [],[⟨0,1,[[eL tP p.I4]],true,false,0⟩,⟨0,3,[[i p.D7,i p.D8,i p.D9]],true,false,0⟩]⟩
noncomputable def Ia4(p:E5)(s:l5):St:=⟨.unk::.unk::.ptr 1 0 0 0::.unk::.sl 2 0 s.ns4 0::.unk::.unk::eL tP p.La8::i p.is8::i s.is9::ra 15 [],[⟨0,1,[[eL tP p.I4]],true,false,0⟩,⟨0,3,[[i p.D7,i p.D8,i p.D9]],true,false,0⟩,⟨60,4,s.eh2,true,false,0⟩]⟩
noncomputable def yb2(p:E5)(s:l5):St:=(sel (Nat.beq s.ph 1) (Ia4 p s) (Ia3 p s))
noncomputable def E6{α:Type}(k:l5->α)(e:Nat->α)(z:α)(p:E5)(s:l5):α:=let t1:=(J2 (gL tP p.La8 s.is9.toNat) (⟨p.D7,p.D8,p.D9⟩:V3));(sl (decide (s.is9<p.is8)) (sl (inB s.is9 (List.length p.La8)) (sl (R3 (gL tP p.La8 s.is9.toNat) (⟨p.D7,p.D8,p.D9⟩:V3)) (sl (t1==0) (k ⟨1,W (s.is9+1),1,[[i (gL tP p.La8 s.is9.toNat).n.x,i (gL tP p.La8 s.is9.toNat).n.y,i (gL tP p.La8 s.is9.toNat).n.z,i (gL tP p.La8 s.is9.toNat).b]]⟩) (k ⟨0,W (s.is9+1),0,[]⟩)) z) z) (e 1))
noncomputable def E7{α:Type}(k:l5->α)(e:Nat->α)(z:α)(p:E5)(s:l5):α:=let t1:=(J2 (gL tP p.La8 s.is9.toNat) (⟨p.D7,p.D8,p.D9⟩:V3));(sl (decide (s.is9<p.is8)) (sl (inB s.is9 (List.length p.La8)) (sl (R3 (gL tP p.La8 s.is9.toNat) (⟨p.D7,p.D8,p.D9⟩:V3)) (sl (t1==0) (sl (Nat.beq s.ns4 (len s.eh2)&&Nat.ble ((s.ns4+1)*32) room) (k ⟨1,W (s.is9+1),s.ns4+1,app s.eh2 [[i (gL tP p.La8 s.is9.toNat).n.x,i (gL tP p.La8 s.is9.toNat).n.y,i (gL tP p.La8 s.is9.toNat).n.z,i (gL tP p.La8 s.is9.toNat).b]]⟩) z) (k ⟨1,W (s.is9+1),s.ns4,s.eh2⟩)) z) z) (e 2))
noncomputable def fa2(p:E5)(s:l5):Stp l5:=(sel (Nat.beq s.ph 1) (E7 .next .exit .fail p s) (E6 .next .exit .fail p s))
noncomputable def wa9:Lo E5 l5:=⟨En Ya6,1,xe0,[1,1,0,1,4,4],[2,4,7,8,9],.p,[⟨sUq::sUq::sPq 1::sUq::.s (.o .nil)::sUq::sUq::sLq tP::sIq::sIq::ru2 15 [],[⟨0,1,true,some [[.c 4 (nL tP)]]⟩,⟨0,3,true,some [kLq 3]⟩],λa H=>(⟨aLq tP a 7,aIq a 8,hLq tP H 0 0 0,hIq H 1 0 0,hIq H 1 0 1,hIq H 1 0 2⟩,⟨0,aIq a 9,0,[]⟩)⟩,⟨sUq::sUq::sPq 1::sUq::.s (.o (.sl 2 0 (some 0) none))::sUq::sUq::sLq tP::sIq::sIq::ru2 15 [],[⟨0,1,true,some [[.c 4 (nL tP)]]⟩,⟨0,3,true,some [kLq 3]⟩,⟨60,4,true,none⟩],λa H=>(⟨aLq tP a 7,aIq a 8,hLq tP H 0 0 0,hIq H 1 0 0,hIq H 1 0 1,hIq H 1 0 2⟩,⟨1,aIq a 9,slN (slT a 4),elT H 2⟩)⟩],fa2,[(some 0,λp s=>upq (Ia3 p s) [(10,b (decide (s.is9<p.is8)))]),(some 0,λp s=>upq (Ia4 p s) [(10,b (decide (s.is9<p.is8)))])],yb2⟩
theorem yb3:wa9.Ok:=Lo.ok [] (by kernel_rfl) .nil rfl (.cons (λa H=>by kernel_rfl) (.cons (λa H=>by kernel_rfl) .nil)) λp s=>(.sel (Nat.beq s.ph 1) (.of @E7 (λF _ _ _ _ _=>by unfold E7;(repeat' apply q9 (f:=F))<;>rfl) (by kernel_rfl)) (.of @E6 (λF _ _ _ _ _=>by unfold E6;(repeat' apply q9 (f:=F))<;>rfl) (by kernel_rfl)))
structure ra5 where
 alt:Nat
 bs0:Bool
 I4:List Pln
noncomputable def Y6{α:Type}(kk:ra5->α)(x:ra4):α:=let t1:=(lp (fa2 (⟨rt tP x.I4,(↑(List.length x.I4):Int),rt tP x.I4,x.da7,x.da8,x.da9⟩:E5)) (⟨0,0,0,[]⟩:l5));let t2:=(la7 []);let t3:=(la7 (slR tP t1.2.eh2 0 t1.2.ns4));(sl ((cnE tP x.I4)&&((cnE tP x.I4)&&true)) (sl (Nat.beq t1.1 1) (sl (la8 []) (kk ⟨1,!t2,rt tP x.I4⟩) (kk ⟨0,false,[]⟩)) (sl (Nat.beq t1.1 2) (sl (okS tP t1.2.eh2 0 t1.2.ns4) (sl (la8 (slR tP t1.2.eh2 0 t1.2.ns4)) (kk ⟨1,!t3,rt tP x.I4⟩) (kk ⟨0,false,[]⟩)) (kk ⟨0,false,[]⟩)) (kk ⟨0,false,[]⟩))) (kk ⟨0,false,[]⟩))
noncomputable def Q1(x:ra4):ra5:=Y6 (λr=>r) x
noncomputable def Ba1(x:ra4)(r:ra5):DT (c7×List c9):=(.ite (Nat.beq r.alt 1) (.ret (b r.bs0,[⟨0,1,[[eL tP r.I4]],true,false,0⟩])) .fail)
theorem Vb5{α β:Type}(F:α->β)(kk:ra5->α)(x:ra4):F (Y6 kk x)=Y6 (λr=>F (kk r)) x:=by unfold Y6;(repeat' apply q9 (f:=F))<;>rfl
noncomputable def Ea6:Sum:=Va7 ⟨[.agg (kLq 3),sPq 0],[⟨0,1,true,some [[.c 4 (nL tP)]]⟩],λa H=>(⟨cIq a 0 0,cIq a 0 1,cIq a 0 2,hLq tP H 0 0 0⟩,())⟩ (λx=>Ba1 x (Q1 x))
theorem Ya7:i6 prog G 55 Ea6:=R2 (enc:=λx=>⟨[.agg [i x.da7,i x.da8,i x.da9],.ptr 0 0 0 0],[⟨0,1,[[eL tP x.I4]],true,false,0⟩]⟩) (λa H=>by kernel_rfl) (bd b55 Gb2) λx=>ib8 (.s .p (.s .p (.s (.s .p (.b (.u wa9.ls))) .p))) [wa9.pr] (by kernel_rfl) (.cons yb3 .nil) (Qiaf (b:=Y6 (λr=>(Ba1 x r).run) x) (by kernel_rfl) (Vb5 (λr=>(Ba1 x r).run) (λr=>r) x).symm)
structure U2 where
 ns0:Nat
 eh0:List (List c7)
 r6:List Pln
noncomputable def ua0:List (Nat×Sum):=[(55,Ea6)]
theorem Wa2:j9 prog G ua0:=⟨Ya7,trivial⟩
structure H4 where
 ns0:Nat
 is7:Int
 eh0:List (List c7)
structure n7 where
 is8:Int
 r6:List Pln
noncomputable def pa1(p:H4)(s:n7):St:=⟨.sl 0 0 p.ns0 0::.fn 55 [.ptr 1 0 0 0]::ra 5 (i p.is7::i s.is8::ra 10 []),[⟨25,3,p.eh0,true,false,0⟩,⟨0,1,[[eL tP s.r6]],true,false,0⟩]⟩
noncomputable def C6{α:Type}(k:n7->α)(e:Nat->α)(z:α)(p:H4)(s:n7):α:=let t1:=(Q1 ⟨(rdR tV p.eh0 (0+s.is8.toNat)).x,(rdR tV p.eh0 (0+s.is8.toNat)).y,(rdR tV p.eh0 (0+s.is8.toNat)).z,rt tP s.r6⟩);(sl (decide (s.is8<p.is7)) (sl (inB s.is8 p.ns0) (sl (ldR tV p.eh0 (0+s.is8.toNat)) (sl ((cnE tP s.r6)&&true) (sl (Nat.beq t1.alt 1) (sl t1.bs0 (e 1) (k ⟨W (s.is8+1),t1.I4⟩)) z) z) z) z) (e 2))
noncomputable def E8(p:H4)(s:n7):Stp n7:=C6 .next .exit .fail p s
noncomputable def ba0:Lo H4 n7:=⟨En ua0,2,Jd6,[1,0,1,4,4],[0,1,7,8],.p,[⟨.s (.o (.sl 0 0 (some 0) none))::.fn 55 [.o (.ptr 1 0 0 0)]::ru2 5 (sIq::sIq::ru2 10 []),[⟨25,3,true,none⟩,⟨0,1,true,some [[.c 4 (nL tP)]]⟩],λa H=>(⟨slN (slT a 0),aIq a 7,elT H 0⟩,⟨aIq a 8,hLq tP H 1 0 0⟩)⟩],E8,[(none,λp s=>let t1:=(Q1 ⟨(rdR tV p.eh0 (0+s.is8.toNat)).x,(rdR tV p.eh0 (0+s.is8.toNat)).y,(rdR tV p.eh0 (0+s.is8.toNat)).z,rt tP s.r6⟩);⟨[i s.is8],[⟨25,3,p.eh0,true,false,0⟩,⟨0,1,[[eL tP t1.I4]],true,false,0⟩]⟩),(some 0,λp s=>upq (pa1 p s) [(9,b (decide (s.is8<p.is7)))])],pa1⟩
theorem Ua3:ba0.Ok:=Lo.ok [] (by kernel_rfl) .nil rfl (.cons (λa H=>by kernel_rfl) .nil) λp s=>(.of @C6 (λF _ _ _ _ _=>by unfold C6;(repeat' apply q9 (f:=F))<;>rfl) (by kernel_rfl))
structure U3 where
 alt:Nat
 is0:Int
 r6:List Pln
noncomputable def D5{α:Type}(kk:U3->α)(x:U2):α:=let t1:=(lp (E8 (⟨x.ns0,(↑x.ns0:Int),x.eh0⟩:H4)) (⟨0,rt tP x.r6⟩:n7));let t2:=(Q1 ⟨(rdR tV x.eh0 (0+t1.2.is8.toNat)).x,(rdR tV x.eh0 (0+t1.2.is8.toNat)).y,(rdR tV x.eh0 (0+t1.2.is8.toNat)).z,rt tP t1.2.r6⟩);(sl ((cnE tP x.r6)&&true) (sl (Nat.beq t1.1 1) (kk ⟨1,t1.2.is8,t2.I4⟩) (sl (Nat.beq t1.1 2) (kk ⟨1,-1,t1.2.r6⟩) (kk ⟨0,0,[]⟩))) (kk ⟨0,0,[]⟩))
noncomputable def U4(x:U2):U3:=D5 (λr=>r) x
noncomputable def ea6(x:U2)(r:U3):DT (c7×List c9):=(.ite (Nat.beq r.alt 1) (.ret (i r.is0,[⟨25,3,x.eh0,true,false,0⟩,⟨0,1,[[eL tP r.r6]],true,false,0⟩])) .fail)
theorem fb6{α β:Type}(F:α->β)(kk:U3->α)(x:U2):F (D5 kk x)=D5 (λr=>F (kk r)) x:=by unfold D5;(repeat' apply q9 (f:=F))<;>rfl
noncomputable def ya1:Sum:=Va7 ⟨[.s (.o (.sl 0 0 (some 0) none)),.fn 55 [.o (.ptr 1 0 0 0)]],[⟨25,3,true,none⟩,⟨0,1,true,some [[.c 4 (nL tP)]]⟩],λa H=>(⟨slN (slT a 0),elT H 0,hLq tP H 1 0 0⟩,())⟩ (λx=>ea6 x (U4 x))
theorem bb4:i6 prog G 88 ya1:=R2 (enc:=λx=>⟨[.sl 0 0 x.ns0 0,.fn 55 [.ptr 1 0 0 0]],[⟨25,3,x.eh0,true,false,0⟩,⟨0,1,[[eL tP x.r6]],true,false,0⟩]⟩) (λa H=>by kernel_rfl) (bd b88 Wa2) λx=>ib8 (.s .p (.s (.s .p (.b (.u ba0.ls))) .p)) [ba0.pr] (by kernel_rfl) (.cons Ua3 .nil) (Qiaf (b:=D5 (λr=>(ea6 x r).run) x) (by kernel_rfl) (fb6 (λr=>(ea6 x r).run) (λr=>r) x).symm)
structure U5 where
 ns0:Nat
 eh0:List (List c7)
 r6:List Pln
noncomputable def ua1:List (Nat×Sum):=[(88,ya1),(55,Ea6)]
theorem Wa3:j9 prog G ua1:=⟨bb4,Ya7,trivial⟩
structure H5 where
 ns0:Nat
structure o9 where
 (is5 is6:Int)
 eh0:List (List c7)
 r6:List Pln
noncomputable def pa2(p:H5)(s:o9):St:=⟨.sl 0 0 p.ns0 0::.fn 55 [.ptr 1 0 0 0]::ra 3 (i s.is5::i s.is6::ra 35 []),[⟨25,3,s.eh0,true,false,0⟩,⟨0,1,[[eL tP s.r6]],true,false,0⟩]⟩
noncomputable def C7{α:Type}(k:o9->α)(e:Nat->α)(z:α)(p:H5)(s:o9):α:=let t1:=(Q1 ⟨(rdR tV s.eh0 (0+s.is6.toNat)).x,(rdR tV s.eh0 (0+s.is6.toNat)).y,(rdR tV s.eh0 (0+s.is6.toNat)).z,rt tP s.r6⟩);(sl (decide (s.is6<(↑p.ns0:Int))) (sl (inB s.is6 p.ns0) (sl (ldR tV s.eh0 (0+s.is6.toNat)) (sl ((cnE tP s.r6)&&true) (sl (Nat.beq t1.alt 1) (sl (!t1.bs0) (sl (inB s.is5 p.ns0) (sl ((Nat.blt (0+s.is5.toNat) (len s.eh0))&&(Nat.ble (0+3) (len (i9 s.eh0 (0+s.is5.toNat))))) (k ⟨W (s.is5+1),W (s.is6+1),setAt s.eh0 (0+s.is5.toNat) (O0 (i9 s.eh0 (0+s.is5.toNat)) 0 [i (rdR tV s.eh0 (0+s.is6.toNat)).x,i (rdR tV s.eh0 (0+s.is6.toNat)).y,i (rdR tV s.eh0 (0+s.is6.toNat)).z]),t1.I4⟩) z) z) (k ⟨s.is5,W (s.is6+1),s.eh0,t1.I4⟩)) z) z) z) z) (e 1))
noncomputable def z7(p:H5)(s:o9):Stp o9:=C7 .next .exit .fail p s
noncomputable def ba3:Lo H5 o9:=⟨En ua1,2,xe1,[1,1,1,0,1,4,4],[0,1,5,6],.p,[⟨.s (.o (.sl 0 0 (some 0) none))::.fn 55 [.o (.ptr 1 0 0 0)]::ru2 3 (sIq::sIq::ru2 35 []),[⟨25,3,true,none⟩,⟨0,1,true,some [[.c 4 (nL tP)]]⟩],λa H=>(⟨slN (slT a 0)⟩,⟨aIq a 5,aIq a 6,elT H 0,hLq tP H 1 0 0⟩)⟩],z7,[(some 0,λp s=>upq (pa2 p s) [(16,i s.is6),(17,.sl 0 0 p.ns0 0),(18,i (↑p.ns0:Int)),(19,b (decide (s.is6<(↑p.ns0:Int))))])],pa2⟩
theorem Ua4:ba3.Ok:=Lo.ok [] (by kernel_rfl) .nil rfl (.cons (λa H=>by kernel_rfl) .nil) λp s=>(.of @C7 (λF _ _ _ _ _=>by unfold C7;(repeat' apply q9 (f:=F))<;>rfl) (by kernel_rfl))
structure U6 where
 (alt ns0:Nat)
 eh0:List (List c7)
 r6:List Pln
noncomputable def D6{α:Type}(kk:U6->α)(x:U5):α:=let t1:=(U4 ⟨x.ns0,x.eh0,rt tP x.r6⟩);let t2:=(lp (z7 (⟨x.ns0⟩:H5)) (⟨t1.is0,W (t1.is0+1),x.eh0,rt tP t1.r6⟩:o9));(sl ((cnE tP x.r6)&&true) (sl (Nat.beq t1.alt 1) (sl (t1.is0==(-1)) (kk ⟨1,x.ns0,x.eh0,t1.r6⟩) (sl ((cnE tP t1.r6)&&true) (sl (Nat.beq t2.1 1) (sl (inB t2.2.is5 (x.ns0+1)) (sl (inB t2.2.is5 (x.ns0+1)) (kk ⟨1,t2.2.is5.toNat-0,app (F6 t2.2.eh0 (0+t2.2.is5.toNat)) (app (List.replicate (x.ns0-t2.2.is5.toNat) [i 0,i 0,i 0]) (i7 t2.2.eh0 ((0+t2.2.is5.toNat)+(x.ns0-t2.2.is5.toNat)))),t2.2.r6⟩) (kk ⟨0,0,[],[]⟩)) (kk ⟨0,0,[],[]⟩)) (kk ⟨0,0,[],[]⟩)) (kk ⟨0,0,[],[]⟩))) (kk ⟨0,0,[],[]⟩)) (kk ⟨0,0,[],[]⟩))
noncomputable def U7(x:U5):U6:=D6 (λr=>r) x
noncomputable def ea7(x:U5)(r:U6):DT (c7×List c9):=(.ite (Nat.beq r.alt 1) (.ret (.sl 0 0 r.ns0 0,[⟨25,3,r.eh0,true,false,0⟩,⟨0,1,[[eL tP r.r6]],true,false,0⟩])) .fail)
theorem fb7{α β:Type}(F:α->β)(kk:U6->α)(x:U5):F (D6 kk x)=D6 (λr=>F (kk r)) x:=by unfold D6;(repeat' apply q9 (f:=F))<;>rfl
noncomputable def ya2:Sum:=Va7 ⟨[.s (.o (.sl 0 0 (some 0) none)),.fn 55 [.o (.ptr 1 0 0 0)]],[⟨25,3,true,none⟩,⟨0,1,true,some [[.c 4 (nL tP)]]⟩],λa H=>(⟨slN (slT a 0),elT H 0,hLq tP H 1 0 0⟩,())⟩ (λx=>ea7 x (U7 x))
theorem bb5:i6 prog G 57 ya2:=R2 (enc:=λx=>⟨[.sl 0 0 x.ns0 0,.fn 55 [.ptr 1 0 0 0]],[⟨25,3,x.eh0,true,false,0⟩,⟨0,1,[[eL tP x.r6]],true,false,0⟩]⟩) (λa H=>by kernel_rfl) (bd b57 Wa3) λx=>ib8 (.s .p (.s .p (.s .p (.s (.s .p (.b (.u ba3.ls))) .p)))) [ba3.pr] (by kernel_rfl) (.cons Ua4 .nil) (Qiaf (b:=D6 (λr=>(ea7 x r).run) x) (by kernel_rfl) (fb7 (λr=>(ea7 x r).run) (λr=>r) x).symm)
noncomputable def Nb3:List (Nat×Sum):=[(72,wa8),(73,ma5),(75,oa9)]
theorem Gb3:j9 prog G Nb3:=⟨La6,Ba0,Ca8,trivial⟩
structure ra6 where
 (alt ns0:Nat)
 eh0:List (List c7)
noncomputable def Y7{α:Type}(kk:ra6->α)(x:V3×List V3):α:=let t1:=(aa0 (hC tV (λk=>(tV).row (gL tV (x.1::x.2) k)),tC tV (List.length x.2) (λk=>(tV).row (gL tV (x.1::x.2) k))));let t2:=(K6 ⟨t1.ns0,app (bL tV (mb4 (slR tV t1.eh0 0 t1.ns0))) (i7 t1.eh0 t1.ns0)⟩);(sl (okL tV (List.length x.2+1) (λk=>(tV).row (gL tV (x.1::x.2) k))) (sl (Nat.beq t1.alt 1) (sl (Bool.and (Nat.ble t1.ns0 room) (Bool.and (Nat.ble t1.ns0 (len t1.eh0)) (okS tV t1.eh0 0 t1.ns0))) (sl (Nat.beq t2.alt 1) (kk ⟨1,t2.ns0,t2.eh0⟩) (kk ⟨0,0,[]⟩)) (kk ⟨0,0,[]⟩)) (kk ⟨0,0,[]⟩)) (kk ⟨0,0,[]⟩))
noncomputable def ra7(x:V3×List V3):ra6:=Y7 (λr=>r) x
noncomputable def Ba2(r:ra6):DT (c7×List c9):=(.ite (Nat.beq r.alt 1) (.ret (.sl 0 0 r.ns0 0,[⟨25,3,r.eh0,true,false,0⟩])) .fail)
theorem Vb6{α β:Type}(F:α->β)(kk:ra6->α)(x:V3×List V3):F (Y7 kk x)=Y7 (λr=>F (kk r)) x:=by unfold Y7;(repeat' apply q9 (f:=F))<;>rfl
noncomputable def ga8:Sum:=L0 (Uc8 tV) (λx=>Ba2 (ra7 x))
theorem na1:i6 prog G 45 ga8:=ib0 (bd b45 Gb3) λx=>y5 (Qiaf (b:=Y7 (λr=>(Ba2 r).run) x) (by kernel_rfl) (Vb6 (λr=>(Ba2 r).run) (λr=>r) x).symm)
noncomputable def ec5:List (Nat×Sum):=[(22,Nb1),(45,ga8),(57,ya2)]
theorem Vb7:j9 prog G ec5:=⟨Ab7,na1,bb5,trivial⟩
noncomputable def pa3(x:V3×List V3):Option (c7×List c9):=let t1:=(Na6 (hC tV (λk=>(tV).row (gL tV (x.1::x.2) k)),tC tV (List.length x.2) (λk=>(tV).row (gL tV (x.1::x.2) k))));let t2:=(ra7 (hC tV (λk=>(tV).row (gL tV (x.1::x.2) k)),tC tV (List.length x.2) (λk=>(tV).row (gL tV (x.1::x.2) k))));let t3:=(U7 ⟨t2.ns0,t2.eh0,rt tP t1.1⟩);(sl (okL tV (List.length x.2+1) (λk=>(tV).row (gL tV (x.1::x.2) k))) (sl (Na7 (hC tV (λk=>(tV).row (gL tV (x.1::x.2) k)),tC tV (List.length x.2) (λk=>(tV).row (gL tV (x.1::x.2) k)))) (sl (t1.2 != 0) (some (.tup [.v (.slice none 0 0),i t1.2],[])) (sl (okL tV (List.length x.2+1) (λk=>(tV).row (gL tV (x.1::x.2) k))) (sl (Nat.beq t2.alt 1) (sl ((cnE tP t1.1)&&true) (sl (Nat.beq t3.alt 1) (some (.tup [.sl 0 0 t3.ns0 0,i 0],[⟨25,3,t3.eh0,true,false,0⟩])) none) none) none) none)) none) none)
noncomputable def sb3(x:V3×List V3):List V3×Int:=V0 (two (r1L tV) r1I) (pa3 x)
noncomputable def sb4(x:V3×List V3):Bool:=okO (two (r1L tV) r1I) (pa3 x)
noncomputable def rc5:Sum:=L0 (Uc8 tV) (λx=>.guard (sb4 x) (.ret ((two (r1L tV) r1I).enc (sb3 x),[])))
theorem ec6:i6 prog G 32 rc5:=Da4 (bd b32 Vb7) (two (r1L tV) r1I) (o:=pa3) λx=>y5 (by kernel_rfl)
end Go.Ev.Ce
namespace Go.Ev.L
open Go Go.Ev
noncomputable def pe4:Cod Unit where
 enc _:=.v (.slice none 0 0)
 dec x:=match x with
  |.v (.slice none 0 0)=>some ()
  |_=>none
 grd _:=true
 ok x a hx _:=by
  split at hx
  ·exact .refl _
  ·cases hx
noncomputable def cE0:Cod (Addr×Nat) where
 enc z:=.v (.slice (some z.1) 0 z.2)
 dec x:=match x with
  |.v (.slice (some a) 0 c)=>some (a,c)
  |_=>none
 grd _:=true
 ok x a hx _:=by
  split at hx
  ·cases hx;exact .refl _
  ·cases hx
section
variable{α:Type}{t:Ty α}{P:Program}{G:Nat->List Value}{f:FuncId}
theorem wb7{β:Type}{c:Cod β}{k k':β->DT (c7×List c9)}(h:i6 P G f (L0 c k))(hk:∀a r,(k' a).run=some r->(k a).run=some r):i6 P G f (L0 c k'):=h.le λargs blks r hr=>by
 unfold L0 at hr ⊢
 split at hr
 ·obtain⟨a,h1,hr⟩:=G6 hr;obtain⟨g,hr⟩:=DT.run_guard_some hr;simp only[h1,onO,g];exact hk a r hr
 ·cases hr
theorem Kd2{k:List α->DT (c7×List c9)}(hA:i6 P G f (L0 (Uc8 t) λz=>k (z.1::z.2)))(hN:i6 P G f (L0 pe4 λ_=>k []))(hE:i6 P G f (L0 cE0 λ_=>k [])):i6 P G f (L0 (ya3 t) k):=by
 intro args blks r out he W ρ F w args' hH hlen hargs hG;unfold L0 at he
 split at he
 ·rename_i x;obtain⟨a,h1,he⟩:=G6 he;obtain⟨g1,hk⟩:=DT.run_guard_some he;have nilCase:∀v',args'[0]?=some v'->v'=.slice none 0 0->a=[]->Qa4 P f/\Calls P f args'.toArray w λe w'=>∃r',e=.returned r'/\G5 W ρ [] F w r out r' w':=λv' hv e ha=>by
   subst ha;refine hN [.v (.slice none 0 0)] [] r out ?_ W ρ F w args' hH hlen (λi x' y' hx hy=>?_) hG
   ·exact hk
   ·match i with
    |0=>cases hx;rw[hv] at hy;cases hy;rw[e];exact .val (.cell (.v _))
    |i+1=>cases hx
  have emptyCase:∀v' ad c,args'[0]?=some v'->v'=.slice (some ad) 0 c->a=[]->Qa4 P f/\Calls P f args'.toArray w λe w'=>∃r',e=.returned r'/\G5 W ρ [] F w r out r' w':=λv' ad c hv e ha=>by
   subst ha;refine hE [.v (.slice (some ad) 0 c)] [] r out ?_ W ρ F w args' hH hlen (λi x' y' hx hy=>?_) hG
   ·exact hk
   ·match i with
    |0=>cases hx;rw[hv] at hy;cases hy;rw[e];exact .val (.cell (.v _))
    |i+1=>cases hx
  obtain⟨v',hv⟩:∃v',args'[0]?=some v':=by
   cases args' with
   |nil=>simp at hlen
   |cons v' r'=>exact⟨v',rfl⟩
  cases x with
  |tree e n get =>
   have hb:Nat.beq e t.es=true/\a=lsL t n get:=by
    have h1:(Bool.rec none (some (lsL t n get)) (Nat.beq e t.es):Option (List α))=some a:=h1;cases hb:Nat.beq e t.es with
    |false=>rw[hb] at h1;cases h1
    |true =>
     rw[hb] at h1;have h1:some (lsL t n get)=some a:=h1;injection h1 with h1;exact⟨rfl,h1.symm⟩
   cases n with
   |zero =>
    have ha:a=[]:=hb.2;have hm:=ia9 (hargs 0 _ v' rfl hv);cases hm with
    |tree _ _ _ ad cap cs hs hcap hes hF hw hr=>exact emptyCase _ ad cap hv rfl ha
    |nil=>exact nilCase _ hv rfl ha
   |succ m =>
    have ha:a=hC t get::tC t m get:=hb.2.trans (Uc7 t m get);subst ha;refine hA [.tree e (m+1) get] [] r out ?_ W ρ F w args' hH hlen hargs hG;have hc:(Uc8 t).dec (.tree e (m+1) get)=some (hC t get,tC t m get):=by
     show (Bool.rec none (some (hC t get,tC t m get)) (Nat.beq e t.es):Option (α×List α))=_;rw[hb.1]
    have hg:(Uc8 t).grd (.tree e (m+1) get)=true:=g1;simp only[L0,hc,onO,hg];exact hk
  |v q =>
   have hq:=Z3 (hargs 0 _ v' rfl hv);unfold ya3 at h1
   simp only at h1
   split at h1
   ·rename_i heq;cases heq
   ·rename_i heq;injection heq with heq;injection h1 with h1;exact nilCase v' hv (hq.trans heq) h1.symm
   ·rename_i ad c heq;injection heq with heq;injection h1 with h1;exact emptyCase v' _ _ hv (hq.trans heq) h1.symm
   ·cases h1
  |_=>cases h1
 ·cases he
end
end Go.Ev.L
namespace Go.Ev.Ce
open Go Go.Ev Go.Ev.L Go.Proofs
set_option maxRecDepth 100000
noncomputable def rc6:List (Nat×Sum):=[(44,Na2),(45,ga8),(46,ga6)]
theorem ec7:j9 prog G rc6:=⟨bb2,na1,ja4,trivial⟩
noncomputable def bb6(x:Unit):Option (c7×List c9):=let t1:=(ra2 []);(sl (ra3 []) (sl (t1 != 0) (some (.tup [.v (.slice none 0 0),i t1],[])) none) none)
noncomputable def Ab9(x:Unit):List Pln×Int:=V0 (two (r1L tP) r1I) (bb6 x)
noncomputable def Bb0(x:Unit):Bool:=okO (two (r1L tP) r1I) (bb6 x)
noncomputable def bb7:Sum:=L0 pe4 (λx=>.guard (Bb0 x) (.ret ((two (r1L tP) r1I).enc (Ab9 x),[])))
theorem Ua5:i6 prog G 22 bb7:=Da4 (bd b22 ec7) (two (r1L tP) r1I) (o:=bb6) λx=>Ec6 .p [] (by kernel_rfl) .nil (by kernel_rfl)
noncomputable def Vb8:List (Nat×Sum):=[(22,bb7),(45,ga8)]
theorem Nb4:j9 prog G Vb8:=⟨Ua5,na1,trivial⟩
noncomputable def Ka9(x:Unit):Option (c7×List c9):=let t1:=(Ab9 ());(sl (Bb0 ()) (sl (t1.2 != 0) (some (.tup [.v (.slice none 0 0),i t1.2],[])) none) none)
noncomputable def ec8(x:Unit):List V3×Int:=V0 (two (r1L tV) r1I) (Ka9 x)
noncomputable def ec9(x:Unit):Bool:=okO (two (r1L tV) r1I) (Ka9 x)
noncomputable def fc0:Sum:=L0 pe4 (λx=>.guard (ec9 x) (.ret ((two (r1L tV) r1I).enc (ec8 x),[])))
theorem Vb9:i6 prog G 32 fc0:=Da4 (bd b32 Nb4) (two (r1L tV) r1I) (o:=Ka9) λx=>y5 (by kernel_rfl)
noncomputable def rc7:List (Nat×Sum):=[(46,ga6)]
theorem fc1:j9 prog G rc7:=⟨ja4,trivial⟩
noncomputable def bb8(x:Addr×Nat):Option (c7×List c9):=none
noncomputable def Bb1(x:Addr×Nat):List Pln×Int:=V0 (two (r1L tP) r1I) (bb8 x)
noncomputable def Bb2(x:Addr×Nat):Bool:=okO (two (r1L tP) r1I) (bb8 x)
noncomputable def Bb3:Sum:=L0 cE0 (λx=>.guard (Bb2 x) (.ret ((two (r1L tP) r1I).enc (Bb1 x),[])))
theorem sb5:i6 prog G 22 Bb3:=Da4 (bd b22 fc1) (two (r1L tP) r1I) (o:=bb8) λx=>Ec6 .p [] (by kernel_rfl) .nil (by kernel_rfl)
noncomputable def Wb0:List (Nat×Sum):=[(22,Bb3),(45,ga8)]
theorem Nb5:j9 prog G Wb0:=⟨sb5,na1,trivial⟩
noncomputable def La0(x:Addr×Nat):Option (c7×List c9):=let t1:=(Bb1 x);(sl (Bb2 x) (sl (t1.2 != 0) (some (.tup [.v (.slice none 0 0),i t1.2],[])) none) none)
noncomputable def fc2(x:Addr×Nat):List V3×Int:=V0 (two (r1L tV) r1I) (La0 x)
noncomputable def fc3(x:Addr×Nat):Bool:=okO (two (r1L tV) r1I) (La0 x)
noncomputable def fc4:Sum:=L0 cE0 (λx=>.guard (fc3 x) (.ret ((two (r1L tV) r1I).enc (fc2 x),[])))
theorem Wb1:i6 prog G 32 fc4:=Da4 (bd b32 Nb5) (two (r1L tV) r1I) (o:=La0) λx=>y5 (by kernel_rfl)
noncomputable def rc8:List (Nat×Sum):=[(44,Na2),(46,ga6)]
theorem fc5:j9 prog G rc8:=⟨bb2,ja4,trivial⟩
noncomputable def ua2(x:List V3):Option (c7×List c9):=let t1:=(ra2 (rt tV x));(sl (okE tV x) (sl (ra3 (rt tV x)) (sl (t1 != 0) (some (.tup [.v (.slice none 0 0),i t1],[])) none) none) none)
noncomputable def Ga5(x:List V3):List Pln×Int:=V0 (two (r1L tP) r1I) (ua2 x)
noncomputable def Ga6(x:List V3):Bool:=okO (two (r1L tP) r1I) (ua2 x)
noncomputable def Bb4:Sum:=L0 (ya3 tV) (λx=>.guard (Ga6 x) (.ret ((two (r1L tP) r1I).enc (Ga5 x),[])))
theorem sb6:i6 prog G 22 Bb4:=Da4 (bd b22 fc5) (two (r1L tP) r1I) (o:=ua2) λx=>Ec6 .p [] (by kernel_rfl) .nil (by kernel_rfl)
noncomputable def Wb2:List (Nat×Sum):=[(22,Bb4)]
theorem Nb6:j9 prog G Wb2:=⟨sb6,trivial⟩
noncomputable def ka3(x:List V3):Option (c7×List c9):=let t1:=(Ga5 (rt tV x));(sl (okE tV x) (sl (Ga6 (rt tV x)) (sl (t1.2 != 0) (some (.tup [.v (.slice none 0 0),i t1.2],[])) none) none) none)
noncomputable def La1(x:List V3):List V3×Int:=V0 (two (r1L tV) r1I) (ka3 x)
noncomputable def La2(x:List V3):Bool:=okO (two (r1L tV) r1I) (ka3 x)
noncomputable def fc6:Sum:=L0 (ya3 tV) (λx=>.guard (La2 x) (.ret ((two (r1L tV) r1I).enc (La1 x),[])))
theorem Wb3:i6 prog G 32 fc6:=Da4 (bd b32 Nb6) (two (r1L tV) r1I) (o:=ka3) λx=>y5 (by kernel_rfl)
noncomputable def rm(p:Pln)(x:Pt):Int:=W (p.b*x.pw-(p.n.x*x.px+p.n.y*x.py+p.n.z*x.pz))
structure Bd(p:Pln):Prop where
 x1:-4608<=p.n.x
 x2:p.n.x<=4608
 y1:-4608<=p.n.y
 y2:p.n.y<=4608
 z1:-4608<=p.n.z
 z2:p.n.z<=4608
 b1:-2097152<=p.b
 b2:p.b<=2097152
def mv(p q r:Pln):V3 :=
 ⟨(c8 q.n r.n).x*p.b+(c8 r.n p.n).x*q.b+(c8 p.n q.n).x*r.b,
  (c8 q.n r.n).y*p.b+(c8 r.n p.n).y*q.b+(c8 p.n q.n).y*r.b,
  (c8 q.n r.n).z*p.b+(c8 r.n p.n).z*q.b+(c8 p.n q.n).z*r.b⟩
def gc(v:V3)(w:Int):Int:=(Nat.gcd (Nat.gcd v.x.natAbs v.y.natAbs) (Nat.gcd v.z.natAbs w.natAbs):Nat)
def mpt(p q r:Pln):Pt×Bool :=
 if mw p q r=0 then (⟨0,0,0,0⟩,false)
 else if mw p q r<0 then (⟨Int.tdiv (-(mv p q r).x) (gc (mv p q r) (mw p q r)),Int.tdiv (-(mv p q r).y) (gc (mv p q r) (mw p q r)),Int.tdiv (-(mv p q r).z) (gc (mv p q r) (mw p q r)),Int.tdiv (-(mw p q r)) (gc (mv p q r) (mw p q r))⟩,true)
 else (⟨Int.tdiv (mv p q r).x (gc (mv p q r) (mw p q r)),Int.tdiv (mv p q r).y (gc (mv p q r) (mw p q r)),Int.tdiv (mv p q r).z (gc (mv p q r) (mw p q r)),Int.tdiv (mw p q r) (gc (mv p q r) (mw p q r))⟩,true)
def Sm(n:Int)(x:Int):Prop:=-n<=x/\x<=n
theorem sb7{a b:V3}(ha:Sm 4608 a.x/\Sm 4608 a.y/\Sm 4608 a.z)(hb:Sm 4608 b.x/\Sm 4608 b.y/\Sm 4608 b.z):Sm 42467328 (c8 a b).x/\Sm 42467328 (c8 a b).y/\Sm 42467328 (c8 a b).z:=by
 obtain⟨⟨a1,a2⟩,⟨a3,a4⟩,a5,a6⟩:=ha;obtain⟨⟨b1,b2⟩,⟨b3,b4⟩,b5,b6⟩:=hb;have h1:=mb a3 a4 b5 b6;have h2:=mb a5 a6 b3 b4;have h3:=mb a5 a6 b1 b2;have h4:=mb a1 a2 b5 b6;have h5:=mb a1 a2 b3 b4;have h6:=mb a3 a4 b1 b2;unfold Sm c8
 simp only
 omega
theorem Bd.n{p:Pln}(h:Bd p):Sm 4608 p.n.x/\Sm 4608 p.n.y/\Sm 4608 p.n.z:=⟨⟨h.x1,h.x2⟩,⟨h.y1,h.y2⟩,h.z1,h.z2⟩
theorem ye3{p q r:Pln}(hp:Bd p)(hq:Bd q)(hr:Bd r):Sm 600000000000 (mw p q r):=by
 obtain⟨⟨c1,c2⟩,⟨c3,c4⟩,c5,c6⟩:=sb7 hq.n hr.n;have h1:=mb hp.x1 hp.x2 c1 c2;have h2:=mb hp.y1 hp.y2 c3 c4;have h3:=mb hp.z1 hp.z2 c5 c6;unfold Sm mw dot;omega
theorem ye4{p q r:Pln}(hp:Bd p)(hq:Bd q)(hr:Bd r):Sm 300000000000000 (mv p q r).x/\Sm 300000000000000 (mv p q r).y/\Sm 300000000000000 (mv p q r).z:=by
 obtain⟨⟨c1,c2⟩,⟨c3,c4⟩,c5,c6⟩:=sb7 hq.n hr.n;obtain⟨⟨d1,d2⟩,⟨d3,d4⟩,d5,d6⟩:=sb7 hr.n hp.n;obtain⟨⟨e1,e2⟩,⟨e3,e4⟩,e5,e6⟩:=sb7 hp.n hq.n;have a1:=mb c1 c2 hp.b1 hp.b2;have a2:=mb c3 c4 hp.b1 hp.b2;have a3:=mb c5 c6 hp.b1 hp.b2;have b1:=mb d1 d2 hq.b1 hq.b2;have b2:=mb d3 d4 hq.b1 hq.b2;have b3:=mb d5 d6 hq.b1 hq.b2;have f1:=mb e1 e2 hr.b1 hr.b2;have f2:=mb e3 e4 hr.b1 hr.b2;have f3:=mb e5 e6 hr.b1 hr.b2;unfold Sm mv
 simp only
 omega
theorem ae5(a b:V3):A1 a b=⟨W (c8 a b).x,W (c8 a b).y,W (c8 a b).z⟩:=by
 unfold A1 c8;simp only[Nc3,kd1]
theorem ae6(a b:V3):Ha7 a b=⟨W (c8 a b).x,W (c8 a b).y,W (c8 a b).z⟩:=by
 unfold Ha7 c8;simp only[Nc3,kd1]
theorem kd2{v:V3}{w:Int}(h:w≠0):0<gc v w:=by
 unfold gc
 have:0<Nat.gcd v.z.natAbs w.natAbs:=Qix _ (by omega)
 have:=Qix (Nat.gcd v.x.natAbs v.y.natAbs) this
 omega
theorem ye5{v:V3}{w:Int}(h:w≠0):gc v w<=w.natAbs:=by
 unfold gc;have h1:Nat.gcd v.z.natAbs w.natAbs<=w.natAbs:=Nat.gcd_le_right _ (by omega)
 have h2:0<Nat.gcd v.z.natAbs w.natAbs:=Qix _ (by omega)
 have h3:=Nat.gcd_le_right (m:=Nat.gcd v.x.natAbs v.y.natAbs) (n:=Nat.gcd v.z.natAbs w.natAbs) h2;omega
theorem nb3{x:Int}(h:Sm 1000000000000000000 x):W x=x:=ca8 (by have:=h.1;omega) (by have:=h.2;omega)
theorem Sm.mono{n m x:Int}(h:Sm n x)(hn:n<=m):Sm m x:=⟨by have:=h.1;omega,by have:=h.2;omega⟩
theorem da3{n x g:Int}(h:Sm n x)(hg:0<g):Sm n (Int.tdiv x g):=by
 have h1:(Int.tdiv x g).natAbs<=x.natAbs:=by rw[Int.natAbs_tdiv];exact Nat.div_le_self _ _
 have:=h.1;have:=h.2
 constructor<;>omega
theorem kd3{p q r:Pln}(hp:Bd p)(hq:Bd q)(hr:Bd r)(h:(mpt p q r).2=true):0<(mpt p q r).1.pw/\Sm 300000000000000 (mpt p q r).1.px/\Sm 300000000000000 (mpt p q r).1.py/\Sm 300000000000000 (mpt p q r).1.pz/\(mpt p q r).1.pw<=600000000000:=by
 have hw:=ye3 hp hq hr;obtain⟨v1,v2,v3⟩:=ye4 hp hq hr;have neg:∀{n x:Int},Sm n x->Sm n (-x):=λh=>⟨by have:=h.2;omega,by have:=h.1;omega⟩
 have pos:∀{x:Int},0<x->x.natAbs=(mw p q r).natAbs->0<Int.tdiv x (gc (mv p q r) (mw p q r)):=λ{x} hx he=>by
  have h0:mw p q r≠0:=by omega
  have h1:=kd2 (v:=mv p q r) h0;have h2:=ye5 (v:=mv p q r) h0;rw[Int.tdiv_eq_ediv_of_nonneg (by omega)]
  exact Int.ediv_pos_of_pos_of_dvd hx (by omega) (by
   rw[<- Qiu,he];exact Qim.2 (Qin (Qij _ _) (Qij _ _)))
 unfold mpt at h ⊢;by_cases h0:mw p q r=0
 ·rw[if_pos h0] at h;cases h
 ·rw[if_neg h0];have hg:=kd2 (v:=mv p q r) h0;by_cases h1:mw p q r<0
  ·rw[if_pos h1];exact⟨pos (by omega) (by omega),da3 (neg v1) hg,da3 (neg v2) hg,da3 (neg v3) hg,(da3 (neg hw) hg).2⟩
  ·rw[if_neg h1];exact⟨pos (by omega) rfl,da3 v1 hg,da3 v2 hg,da3 v3 hg,(da3 hw hg).2⟩
noncomputable def inn(l:List Pln)(x:Pt):Bool:=l.all λp=>!decide (rm p x<0)
def eqX(x q:Pt):Bool:=q.px==x.px&&(q.py==x.py&&(q.pz==x.pz&&(q.pw==x.pw&&true)))
theorem qd2(x q:Pt):eqX x q=true↔q=x:=by
 unfold eqX;simp only[Qig,Qid,beq_iff_eq];exact⟨λ⟨h1,h2,h3,h4⟩=>by cases q;cases x;simp_all,λh=>by subst h;exact⟨rfl,rfl,rfl,rfl⟩⟩
def ae7(l:List Pt)(x:Pt):Bool:=l.any (eqX x)
theorem Kd3(l:List Pt)(x:Pt):ae7 l x=true↔x∈l:=by
 unfold ae7;rw[Qik];exact⟨λ⟨q,h,e⟩=>(qd2 x q).1 e ▸ h,λh=>⟨x,h,(qd2 x x).2 rfl⟩⟩
def smb(n x:Int):Bool:=!decide (x < -n)&&!decide (x>n)
theorem jb8(n x:Int):smb n x=true↔Sm n x:=by unfold smb Sm;simp only[Qid,Qiz,decide_eq_false_iff_not];omega
theorem rc9(n:Int)(l:List Int)(hn:0<=n/\n<=1000000000)(hl:l.length<=1000000000):na9 n l=some (b (l.all (smb n)),[]):=by
 have hW:W (0-n)=-n:=by rw[ca8 (by omega) (by omega)];omega
 have h:=Kd0 (step:=ca5 ⟨n,l,(l.length:Int)⟩) (mk:=λj=>(⟨(j:Int)⟩:F7)) (c:=λx=>!smb n x) (u:=1) (fin:=2) tI l hl
  (λj hj=>by
   simp only[ca5,Z5,Int.toNat_natCast,D0 hj (by omega),hW]
   rw[bt (rc1 hj),bt (i8 hj)];unfold smb;cases decide (gL tI l j < -n)<;>cases decide (gL tI l j>n)<;>rfl)
  (by simp only[ca5,Z5];rw[bf (Mb8 (Qiw _))]) 0 (Nat.zero_le _)
 rw[Qiam] at h;unfold na9;simp only[o6,l9];rw[show (⟨0⟩:F7)=⟨((0:Nat):Int)⟩ from rfl,h]
 have e:(l.any λx=>!smb n x)=!l.all (smb n):=by rw[List.not_all_eq_any_not]
 rw[e];cases l.all (smb n)<;>rfl
theorem Wb4(n:Int)(l:List Int)(hn:0<=n/\n<=1000000000)(hl:l.length<=1000000000):ga4 n l=l.all (smb n):=by unfold ga4;rw[rc9 n l hn hl];rfl
theorem Wb5(n:Int)(l:List Int)(hn:0<=n/\n<=1000000000)(hl:l.length<=1000000000):ga5 n l=true:=by unfold ga5;rw[rc9 n l hn hl];rfl
theorem Yc4{n:Int}(h:Sm 1000000000000000000 n):qa8 n=(n.natAbs:Int):=by
 unfold qa8;obtain⟨h1,h2⟩:=h;rw[ca8 (by omega) (by omega)]
 split<;>omega
theorem Nb7{n:Int}(h:Sm 1000000000000000000 n):na5 n=some (i (n.natAbs:Int),[]):=by
 unfold na5;obtain⟨h1,h2⟩:=h;rw[ca8 (by omega) (by omega)]
 by_cases h:n<0
 ·rw[bt (decide_eq_true h)];congr 3;omega
 ·rw[bf (decide_eq_false h)];congr 3;omega
theorem sb8{n:Int}(h:Sm 1000000000000000000 n):ga1 n=(n.natAbs:Int):=by unfold ga1;rw[Nb7 h];rfl
theorem sb9{n:Int}(h:Sm 1000000000000000000 n):ga2 n=true:=by unfold ga2;rw[Nb7 h];rfl
def g3(v:V3):Int:=(Nat.gcd (Nat.gcd v.x.natAbs v.y.natAbs) v.z.natAbs:Nat)
theorem Kd4(g n:Nat):eu (g:Int) (n:Int)=(Nat.gcd g n:Nat):=by rw[oe8 (by omega) (by omega)];rfl
theorem zc6(P:T0)(g n:Nat)(hn:n<=1000000000000000000):lp (P1 P) ⟨(g:Int),(n:Int)⟩=(1,⟨(Nat.gcd g n:Nat),0⟩):=by
 have:=Zb7 (step:=P1 P) (mk:=λg n=>(⟨g,n⟩:I0)) (λg n h=>by
  have h0:n≠0:=by omega
  simp[P1,V8,Eb8,h,h0]) (λg=>by simp[P1,V8,Eb8]) (g:Int) (n:Int) (by omega) (by omega) (by omega)
 rw[this,Kd4]
theorem sc0(l:List Int)(hl:l.length<=1000000000)(hb:∀x∈l,Sm 1000000000000000000 x):ja1 l=some (i (l.foldl (λg x=>Nat.gcd g x.natAbs) 0:Nat),[]):=by
 have h := ae2 (step := Z6 ⟨(l.length : Int)⟩) (mk := fun j (a : Nat) => (⟨(a : Int), l, (j : Int)⟩ : C0)) (f := fun g x => Nat.gcd g x.natAbs) (fin := 2) tI l (fun _ _ => True) hl (fun j a hj _ => ⟨by
   have hm:=hb _ (Ta7 tI hj);have hne:(gL tI l j==(-9223372036854775808:Int))=false:=by
    have:=hm.1
    rw[beq_eq_false_iff_ne];omega
   have hs:(gL tI l j).natAbs<=1000000000000000000:=by obtain⟨h1,h2⟩:=hm;omega
   simp only[Z6,V9,Int.toNat_natCast,o6,l9,Yc4 hm,zc6 _ _ _ hs,D0 hj (by omega)]
   rw[bt (rc1 hj),bt (i8 hj),bf hne]
   rfl,trivial⟩) (λa _=>by simp only[Z6,V9];rw[bf (Mb8 (Qiw _))]) 0 (Nat.zero_le _) 0 trivial
 have h:=h.1;rw[Qiam] at h;unfold ja1;simp only[o6,l9];rw[show (⟨0,l,0⟩:C0)=⟨((0:Nat):Int),l,((0:Nat):Int)⟩ from rfl,h]
 rfl
def okp(p:Pln):Bool:=[p.n.x,p.n.y,p.n.z].all (smb 4608)&&(g3 p.n==1&&[p.b].all (smb 2097152))
theorem pe5(p:Pln):Bd p↔[p.n.x,p.n.y,p.n.z].all (smb 4608)=true/\[p.b].all (smb 2097152)=true:=by
 simp only[List.all_cons,List.all_nil,Qig,Qid,jb8,Sm];exact⟨λh=>⟨⟨⟨h.x1,h.x2⟩,⟨h.y1,h.y2⟩,h.z1,h.z2⟩,h.b1,h.b2⟩,λ⟨⟨⟨a,b⟩,⟨c,d⟩,e,f⟩,g,h⟩=>⟨a,b,c,d,e,f,g,h⟩⟩
theorem Gb4{p:Pln}(h:okp p=true):Bd p:=by
 unfold okp at h;rw[Qid,Qid] at h;exact (pe5 p).2 ⟨h.1,h.2.2⟩
theorem sm3{v:V3}(h:[v.x,v.y,v.z].all (smb 4608)=true):Sm 4608 v.x/\Sm 4608 v.y/\Sm 4608 v.z:=by
 simpa only[List.all_cons,List.all_nil,Qig,Qid,jb8] using h
theorem Yc5(p:Pln):ta0 p=some (b (okp p),[]):=by
 unfold ta0 okp;have l3:[p.n.x,p.n.y,p.n.z].length<=1000000000:=by simp
 have l1:[p.b].length<=1000000000:=by simp
 simp only[Wb4 4608 _ (by omega) l3,Wb5 4608 _ (by omega) l3,Wb4 2097152 _ (by omega) l1,Wb5 2097152 _ (by omega) l1]
 cases hw:[p.n.x,p.n.y,p.n.z].all (smb 4608) with
 |false=>rfl
 |true =>
  obtain⟨h1,h2,h3⟩:=sm3 hw;have hd:=sc0 [p.n.x,p.n.y,p.n.z] l3 (by
   intro x hx;simp only[Qia,Qiaa,or_false] at hx
   rcases hx with rfl|rfl|rfl
   ·exact h1.mono (by omega)
   ·exact h2.mono (by omega)
   ·exact h3.mono (by omega))
  have hg:([p.n.x,p.n.y,p.n.z].foldl (λg x=>Nat.gcd g x.natAbs) 0:Nat)=Nat.gcd (Nat.gcd p.n.x.natAbs p.n.y.natAbs) p.n.z.natAbs:=by
   simp only[List.foldl_cons,List.foldl_nil,Nat.gcd_zero_left]
  have hp:V1 [p.n.x,p.n.y,p.n.z]=g3 p.n:=by unfold V1;rw[hd,hg];rfl
  have hgd:V2 [p.n.x,p.n.y,p.n.z]=true:=by unfold V2;rw[hd];rfl
  rw[hp,hgd];cases g3 p.n==1<;>rfl
theorem ae8(p:Pln):Fa7 p=okp p:=by unfold Fa7;rw[Yc5 p];rfl
theorem ae9(p:Pln):Fa8 p=true:=by unfold Fa8;rw[Yc5 p];rfl
theorem Wb6(P:ca4)(g n:Nat)(hn:n<=1000000000000000000):lp (X9 P) ⟨(g:Int),(n:Int)⟩=(1,⟨(Nat.gcd g n:Nat),0⟩):=by
 have:=Zb7 (step:=X9 P) (mk:=λg n=>(⟨g,n⟩:L6)) (λg n h=>by
  have h0:n≠0:=by omega
  simp[X9,na6,Eb8,h,h0]) (λg=>by simp[X9,na6,Eb8]) (g:Int) (n:Int) (by omega) (by omega) (by omega)
 rw[this,Kd4]
theorem Nc5 {v : V3} (h1 : Sm 1000000000000000000 v.x) (h2 : Sm 1000000000000000000 v.y) (h3 : Sm 1000000000000000000 v.z) :
  Ra7 v=if g3 v=0 then some (.tup [.agg (tV.row ⟨0,0,0⟩),i 0],[]) else some (.tup [.agg (tV.row ⟨W (Int.tdiv v.x (g3 v)),W (Int.tdiv v.y (g3 v)),W (Int.tdiv v.z (g3 v))⟩),i (g3 v)],[]):=by
 have ne:∀{x:Int},Sm 1000000000000000000 x->(x==(-9223372036854775808:Int))=false:=λ{x} h=>by
  have:=h.1
  rw[beq_eq_false_iff_ne];omega
 have bd:∀{x:Int},Sm 1000000000000000000 x->x.natAbs<=1000000000000000000:=λ{x} h=>by obtain⟨h1,h2⟩:=h;omega
 have l1:=Wb6 ⟨0,v.x,v.y,v.z,v.x,v.y,v.z⟩ 0 v.x.natAbs (bd h1);rw[Nat.gcd_zero_left] at l1;have l2:=Wb6 ⟨1,v.x,v.y,v.z,v.x,v.y,v.z⟩ v.x.natAbs v.y.natAbs (bd h2);have l3:=Wb6 ⟨2,v.x,v.y,v.z,v.x,v.y,v.z⟩ (Nat.gcd v.x.natAbs v.y.natAbs) v.z.natAbs (bd h3);unfold Ra7;simp only[sb8 h1,sb8 h2,sb8 h3,sb9 h1,sb9 h2,sb9 h3];rw[show (⟨0,(v.x.natAbs:Int)⟩:L6)=⟨((0:Nat):Int),(v.x.natAbs:Int)⟩ from rfl]
 simp only[l1,l2,l3,ne h1,ne h2,ne h3];rw[show ((Nat.gcd (Nat.gcd v.x.natAbs v.y.natAbs) v.z.natAbs:Nat):Int)=g3 v from rfl]
 by_cases h:g3 v=0
 ·rw[if_pos h,show (g3 v==0)=true from by rw[h];rfl];rfl
 ·rw[if_neg h,show (g3 v==0)=false from by rw[beq_eq_false_iff_ne];exact h];rfl
theorem sc1{v:V3}(h1:Sm 1000000000000000000 v.x)(h2:Sm 1000000000000000000 v.y)(h3:Sm 1000000000000000000 v.z):(wa5 v).2=g3 v:=by
 unfold wa5;rw[Nc5 h1 h2 h3];split
 ·rename_i h;rw[h];rfl
 ·rfl
theorem pe6{v:V3}(h1:Sm 1000000000000000000 v.x)(h2:Sm 1000000000000000000 v.y)(h3:Sm 1000000000000000000 v.z)(h:g3 v≠0):wa5 v=(⟨W (Int.tdiv v.x (g3 v)),W (Int.tdiv v.y (g3 v)),W (Int.tdiv v.z (g3 v))⟩,g3 v):=by
 unfold wa5;rw[Nc5 h1 h2 h3,if_neg h];rfl
theorem Kd5{v:V3}(h1:Sm 1000000000000000000 v.x)(h2:Sm 1000000000000000000 v.y)(h3:Sm 1000000000000000000 v.z):Ra8 v=true:=by
 unfold Ra8;rw[Nc5 h1 h2 h3]
 split<;>rfl
theorem Fc2(p:Pln):Ha8 p=some (b (okp p),[]):=by
 unfold Ha8 okp;cases hw:[p.n.x,p.n.y,p.n.z].all (smb 4608) with
 |false =>
  simp only[List.all_cons,List.all_nil,Qig,smb] at hw;cases h1:decide (p.n.x < -4608)<;>cases h2:decide (p.n.x>4608)<;>cases h3:decide (p.n.y < -4608)<;>cases h4:decide (p.n.y>4608)<;>cases h5:decide (p.n.z < -4608)<;>cases h6:decide (p.n.z>4608)<;>simp only[h1,h2,h3,h4,h5,h6] at hw ⊢<;>first | rfl | cases hw
 |true =>
  obtain⟨h1,h2,h3⟩:=sm3 hw;rw[bf (decide_eq_false (by have:=h1.1;omega)),bf (decide_eq_false (by have:=h1.2;omega)),bf (decide_eq_false (by have:=h2.1;omega)),bf (decide_eq_false (by have:=h2.2;omega)),bf (decide_eq_false (by have:=h3.1;omega)),bf (decide_eq_false (by have:=h3.2;omega))]
  have k1:=h1.mono (m:=1000000000000000000) (by omega)
  have k2:=h2.mono (m:=1000000000000000000) (by omega)
  have k3:=h3.mono (m:=1000000000000000000) (by omega)
  rw[bt (Kd5 k1 k2 k3),sc1 k1 k2 k3];cases g3 p.n==1 with
  |false=>rfl
  |true =>
   simp only[List.all_cons,List.all_nil,Qig,smb,Bool.true_and];rw[u9];by_cases ha:p.b < -2097152
   ·rw[bf (decide_eq_false (by omega)),show decide (p.b < -2097152)=true from decide_eq_true ha];rfl
   ·rw[bt (decide_eq_true (by omega)),show decide (p.b < -2097152)=false from decide_eq_false ha]
    congr 3;by_cases hc:p.b<=2097152
    ·rw[decide_eq_true hc,decide_eq_false (by omega)];rfl
    ·rw[decide_eq_false hc,decide_eq_true (by omega)];rfl
theorem Kd6(p:Pln):Xa8 p=okp p:=by unfold Xa8;rw[Fc2 p];rfl
theorem Yc6(p:Pln):Xa9 p=true:=by unfold Xa9;rw[Fc2 p];rfl
def chk(l:List Pln):Int:=if (l.length:Int)>48 then 2 else if l.all okp then 0 else 12
theorem sc2{l:List Pln}:chk l=0↔l.length<=48/\∀p∈l,okp p=true:=by
 unfold chk;by_cases hn:(l.length:Int)>48
 ·rw[if_pos hn];exact⟨λh=>absurd h (by decide),λh=>by omega⟩
 ·rw[if_neg hn];cases h:l.all okp with
  |true=>exact⟨λ_=>⟨by omega,Qio.1 h⟩,λ_=>rfl⟩
  |false=>exact⟨λh=>absurd h (by decide),λh'=>by rw[Qio.2 h'.2] at h;cases h⟩
theorem btD{p:Prop}{inst:Decidable p}(h:p){α:Type}(t e:α):sl (@decide p inst) t e=t:=bt (decide_eq_true h) t e
theorem bfD{p:Prop}{inst:Decidable p}(h:¬ p){α:Type}(t e:α):sl (@decide p inst) t e=e:=bf (decide_eq_false h) t e
theorem q7{j n:Nat}(h:j<n):(j:Int)<(n:Int):=Int.ofNat_lt.2 h
theorem A6{j n:Nat}(h:¬ j<n):¬ (j:Int)<(n:Int):=λh'=>h (Int.ofNat_lt.1 h')
noncomputable def Nb8(r:List Pln)(p q:Pln)(out:List Pt)(s:Pln):List Pt :=
 if (mpt p q s).2&&(!ae7 out (mpt p q s).1&&inn r (mpt p q s).1) then out++[(mpt p q s).1] else out
noncomputable def zd6(r:List Pln)(p q:Pln)(l:List Pln)(out:List Pt):List Pt:=l.foldl (Nb8 r p q) out
noncomputable def Yc7(r:List Pln)(p:Pln):List Pln->List Pt->List Pt
 |[],out=>out
 |q::l,out=>Yc7 r p l (zd6 r p q l out)
noncomputable def kd4(r:List Pln):List Pln->List Pt->List Pt
 |[],out=>out
 |p::l,out=>kd4 r l (Yc7 r p l out)
noncomputable def cor(r:List Pln):List Pt:=kd4 r r []
def Bds(r:List Pln):Prop:=∀p∈r,Bd p
noncomputable def ph(out:List Pt):Nat:=match out with
 |[]=>0
 |_::_=>1
theorem Nc6{α:Type}(t:Ty α)(l:List α)(n k:Nat):gL t (l.drop n) k=gL t l (n+k):=by simp[gL,Qiah,List.getElem?_drop]
theorem Fc3{ρ:Type}(R:RR ρ){x:c7×List c9}{r:ρ}(h:R.rd x=some r):V0 R (some x)=r:=by
 show Option.rec (motive:=λ_=>ρ) R.d (λx=>x) (R.rd x)=r
 rw[h]
theorem Yc8{ρ:Type}(R:RR ρ){x:c7×List c9}{r:ρ}(h:R.rd x=some r):okO R (some x)=true:=by
 show Option.rec (motive:=λ_=>Bool) false (λ_=>true) (R.rd x)=true
 rw[h]
@[reducible] noncomputable def flK:List (Nat×CK):=[(0,.int .i64),(1,.int .i64),(2,.int .i64),(3,.int .i64)]
theorem pe7(s:Pln):((Nat.ble 4 (len (tP.row s)))&&(ma9 [CK.int .i64,CK.int .i64,CK.int .i64,CK.int .i64] (tP.row s)))=true:=rfl
noncomputable def ws:List Pln:=[⟨⟨1,0,0⟩,24⟩,⟨⟨-1,0,0⟩,24⟩,⟨⟨0,1,0⟩,24⟩,⟨⟨0,-1,0⟩,24⟩,⟨⟨0,0,1⟩,24⟩,⟨⟨0,0,-1⟩,24⟩]
theorem ye6:Bds ws:=by
 intro p hp
 have:okp p=true:=by
  have h:ws.all okp=true:=by decide
  exact Qio.1 h p hp
 exact Gb4 this
noncomputable def pos(X:List Pt)(p:Pln):Bool:=X.any λx=>decide (rm p x>0)
noncomputable def be0(r:List Pln):Bool:=r.all (pos (cor r))
theorem be1{c:List Pln}(h:(chk c==0)=true):Bds (c++ws)/\(c++ws).length<=200:=by
 rw[beq_iff_eq,sc2] at h;refine⟨λp hp=>?_,by rw[List.length_append,show ws.length=6 from rfl];omega⟩
 rcases List.mem_append.1 hp with hp|hp
 ·exact Gb4 (h.2 p hp)
 ·exact ye6 p hp
noncomputable def pts(c:List Pln):List Pt:=if chk c==0 then cor (c++ws) else []
noncomputable def ful(c:List Pln):Bool:=(chk c==0)&&be0 (c++ws)
theorem Yc9{Q:Pt->Prop}(r:List Pln)(p q:Pln):∀(l:List Pln) (out:List Pt),(∀s∈l,(mpt p q s).2=true->inn r (mpt p q s).1=true->Q (mpt p q s).1)->(∀x∈out,Q x)->∀x∈zd6 r p q l out,Q x
 |[],out,_,h=>h
 |s::l,out,hs,h=>Yc9 r p q l (Nb8 r p q out s) (λt ht=>hs t (Qib _ ht)) λx hx=>by
  unfold Nb8 at hx
  split at hx
  ·rename_i hc;rw[Qid,Qid] at hc
   rcases List.mem_append.1 hx with hx|hx
   ·exact h x hx
   ·rw[List.mem_singleton] at hx;subst hx;exact hs s Qic hc.1 hc.2.2
  ·exact h x hx
theorem Zc0{Q:Pt->Prop}(r:List Pln)(p:Pln):∀(l:List Pln) (out:List Pt),(∀q∈l,∀s∈l,(mpt p q s).2=true->inn r (mpt p q s).1=true->Q (mpt p q s).1)->(∀x∈out,Q x)->∀x∈Yc7 r p l out,Q x
 |[],out,_,h=>h
 |q::l,out,hs,h=>Zc0 r p l _ (λa ha t ht=>hs a (Qib _ ha) t (Qib _ ht)) (Yc9 r p q l out (λt ht=>hs q Qic t (Qib _ ht)) h)
theorem Zc1{Q:Pt->Prop}(r:List Pln):∀(l:List Pln) (out:List Pt),(∀p∈l,∀q∈l,∀s∈l,(mpt p q s).2=true->inn r (mpt p q s).1=true->Q (mpt p q s).1)->(∀x∈out,Q x)->∀x∈kd4 r l out,Q x
 |[],out,_,h=>h
 |p::l,out,hs,h=>Zc1 r l _ (λa ha c hc t ht=>hs a (Qib _ ha) c (Qib _ hc) t (Qib _ ht)) (Zc0 r p l out (λc hc t ht=>hs p Qic c (Qib _ hc) t (Qib _ ht)) h)
theorem qd3{Q:Pt->Prop}{r:List Pln}(hs:∀p∈r,∀q∈r,∀s∈r,(mpt p q s).2=true->inn r (mpt p q s).1=true->Q (mpt p q s).1):∀x∈cor r,Q x :=
 Zc1 r r [] hs λx hx=>by cases hx
structure Okx(x:Pt):Prop where
 w1:0<x.pw
 w2:x.pw<=600000000000
 c1:Sm 300000000000000 x.px
 c2:Sm 300000000000000 x.py
 c3:Sm 300000000000000 x.pz
theorem Nc7{r:List Pln}(hb:Bds r):∀x∈cor r,Okx x:=qd3 λp hp q hq s hs h _=>by
 obtain⟨h1,h2,h3,h4,h5⟩:=kd3 (hb p hp) (hb q hq) (hb s hs) h;exact⟨h1,h5,h2,h3,h4⟩
theorem Zc2{x y:Int}(hy:0<y):Int.tmod x y+y*Int.tdiv x y=x/\-y<Int.tmod x y/\Int.tmod x y<y:=by
 refine⟨Int.tmod_add_mul_tdiv x y,?_,Int.tmod_lt_of_pos x hy⟩
 have:=Int.lt_tmod_of_pos x hy
 omega
theorem Kd7(x:Int){y:Int}(hy:0<y)(hy2:y<=4000000000000000000):db7 x y=some (i (x % y),[]):=by
 have hz:(y==0)=false:=by rw[beq_eq_false_iff_ne];omega
 obtain⟨h1,h2,h3⟩:=Zc2 (x:=x) hy;unfold db7;rw[bfD (by omega),bf hz,bf hz,ca8 (by omega) (by omega),Int.tmod_eq_emod_of_nonneg (by omega)]
 congr 3;rw[Int.add_emod_right]
 conv=>rhs;rw[<- h1]
 rw[Int.add_mul_emod_self_left]
theorem ye7(x:Int){y:Int}(hy:0<y)(hy2:y<=4000000000000000000):wb4 x y=x % y:=by unfold wb4;rw[Kd7 x hy hy2];rfl
theorem ye8(x:Int){y:Int}(hy:0<y)(hy2:y<=4000000000000000000):wb5 x y=true:=by unfold wb5;rw[Kd7 x hy hy2];rfl
theorem Sm.neg{n x:Int}(h:Sm n x):Sm n (-x):=⟨by have:=h.2;omega,by have:=h.1;omega⟩
def Nx{σ:Type}(x:Stp σ)(E:Nat->Prop)(N:σ->Prop):Prop:=(∃t,x=.exit t/\E t)\/∃s,x=.next s/\N s
theorem Nx.sl{σ:Type}{c:Bool}{t e:Stp σ}{E:Nat->Prop}{N:σ->Prop}(h1:c=true->Nx t E N)(h2:c=false->Nx e E N):Nx (sl c t e) E N:=by cases c;exact h2 rfl;exact h1 rfl
theorem Nx.ex{σ:Type}{t:Nat}{E:Nat->Prop}{N:σ->Prop}(h:E t):Nx (.exit t) E N:=.inl ⟨t,rfl,h⟩
theorem Nx.nx{σ:Type}{s:σ}{E:Nat->Prop}{N:σ->Prop}(h:N s):Nx (.next s) E N:=.inr ⟨s,rfl,h⟩
theorem X4 {σ τ : Type} {step : σ → Stp σ} {mk : Nat → τ → σ} (n : Nat) (I : Nat → τ → Prop) (E : Nat → σ → Prop) (hn : n ≤ 1000000000)
  (h:∀j a,j<n->I j a->Nx (step (mk j a)) (λt=>E t (mk j a)) (λs=>∃a',s=mk (j+1) a'/\I (j+1) a'))
  (hf:∀j a,n<=j->I j a->∃t,step (mk j a)=.exit t/\E t (mk j a)) (j0:Nat) (a:τ) (hi:I j0 a):∃t s,lp step (mk j0 a)=(t,s)/\E t s:=by
 have key:=Ub8 (step:=step) (I:=λm s=>∃j a,m=n-j/\s=mk j a/\I j a) (Q:=E) (λm s ⟨j,a,hm,hs,ha⟩=>by
  subst hs;by_cases hlt:j<n
  ·rcases h j a hlt ha with h1|⟨s',h1,a',h2,h3⟩
   ·exact .inl h1
   ·subst h2;exact .inr ⟨_,n-(j+1),by omega,h1,j+1,a',rfl,rfl,h3⟩
  ·exact .inl (hf j a (by omega) ha)) (n-j0) (mk j0 a) (by omega) ⟨j0,a,rfl,rfl,hi⟩
 exact⟨_,_,rfl,key⟩
def Rd{ρ:Type}(R:RR ρ)(o:Option (c7×List c9))(P:ρ->Prop):Prop:=∃x r,o=some x/\R.rd x=some r/\P r
theorem Rd.p{ρ:Type}{R:RR ρ}{o:Option (c7×List c9)}{P:ρ->Prop}(h:Rd R o P):P (V0 R o):=by
 obtain⟨x,r,h1,h2,h3⟩:=h;rw[h1,Fc3 R h2];exact h3
theorem Rd.g{ρ:Type}{R:RR ρ}{o:Option (c7×List c9)}{P:ρ->Prop}(h:Rd R o P):okO R o=true:=by
 obtain⟨x,r,h1,h2,h3⟩:=h;rw[h1];exact Yc8 R h2
theorem Rd.sl{ρ:Type}{R:RR ρ}{c:Bool}{t e:Option (c7×List c9)}{P:ρ->Prop}(h1:c=true->Rd R t P)(h2:c=false->Rd R e P):Rd R (sl c t e) P:=by cases c;exact h2 rfl;exact h1 rfl
theorem Ga7 (n : Int) (l : List Int) (j : Int) (h1 : 0 ≤ j) (h2 : j ≤ 1000000) (hn : 0 < n) (hn2 : n ≤ 1000000) :
  ∃v j',w8 ⟨n,l,j⟩=⟨1,v,j'⟩/\0<=v/\v<n/\j<=j'/\j'<=j+1:=by
 unfold w8 ba7
 simp only
 by_cases h:j>=(l.length:Int)
 ·rw[btD h];exact⟨0,j,rfl,by omega,hn,by omega,by omega⟩
 ·rw[bfD h];have hW:W (W (j+1)-1)=j:=by rw[Nc3,ca8 (by omega) (by omega)];omega
  have hW2:W (j+1)=j+1:=ca8 (by omega) (by omega)
  have hin:inB j l.length=true:=by rw[ae0];exact decide_eq_true (by omega)
  rw[hW,hW2,hin,ye8 _ hn (by omega),ye7 _ hn (by omega)]
  exact⟨_,_,rfl,Int.emod_nonneg _ (by omega),Int.emod_lt_of_pos _ hn,by omega,by omega⟩
def inV(v:V3):Bool:=smb 24 v.x&&(smb 24 v.y&&smb 24 v.z)
theorem ra8(v:V3):inV v=true↔Sm 24 v.x/\Sm 24 v.y/\Sm 24 v.z:=by unfold inV;rw[Qid,Qid,jb8,jb8,jb8]
theorem Kd8(v:V3):rb6 v=some (b (inV v),[]):=by
 unfold rb6 inV smb;cases h1:decide (v.x < -24)<;>cases h2:decide (v.x>24)<;>cases h3:decide (v.y < -24)<;>cases h4:decide (v.y>24)<;>cases h5:decide (v.z < -24)<;>cases h6:decide (v.z>24)<;>rfl
theorem ie7(v:V3):Sa4 v=inV v:=by unfold Sa4;rw[Kd8];rfl
theorem Kd9(v:V3):Sa5 v=true:=by unfold Sa5;rw[Kd8];rfl
def sub(a b:V3):V3:=⟨a.x-b.x,a.y-b.y,a.z-b.z⟩
theorem qd4{a b:V3}(ha:inV a=true)(hb:inV b=true):Ea0 a b=sub a b/\Sm 48 (sub a b).x/\Sm 48 (sub a b).y/\Sm 48 (sub a b).z:=by
 rw[ra8] at ha hb;obtain⟨⟨a1,a2⟩,⟨a3,a4⟩,a5,a6⟩:=ha;obtain⟨⟨b1,b2⟩,⟨b3,b4⟩,b5,b6⟩:=hb;unfold Ea0 sub;rw[ca8 (by omega) (by omega),ca8 (by omega) (by omega),ca8 (by omega) (by omega)]
 exact⟨rfl,⟨by show _<=a.x-b.x;omega,by show a.x-b.x<=_;omega⟩,⟨by show _<=a.y-b.y;omega,by show a.y-b.y<=_;omega⟩,⟨by show _<=a.z-b.z;omega,by show a.z-b.z<=_;omega⟩⟩
theorem bb9 {a b c : V3} (ha : inV a = true) (hb : inV b = true) (hc : inV c = true) :
  Ha7 (Ea0 b a) (Ea0 c a)=c8 (sub b a) (sub c a)/\Sm 4608 (c8 (sub b a) (sub c a)).x/\Sm 4608 (c8 (sub b a) (sub c a)).y/\Sm 4608 (c8 (sub b a) (sub c a)).z:=by
 obtain⟨e1,⟨u1,u2⟩,⟨u3,u4⟩,u5,u6⟩:=qd4 hb ha;obtain⟨e2,⟨v1,v2⟩,⟨v3,v4⟩,v5,v6⟩:=qd4 hc ha;rw[e1,e2,ae6];generalize sub b a=p at *
 generalize sub c a=q at *
 have h1:=mb u3 u4 v5 v6;have h2:=mb u5 u6 v3 v4;have h3:=mb u5 u6 v1 v2;have h4:=mb u1 u2 v5 v6;have h5:=mb u1 u2 v3 v4;have h6:=mb u3 u4 v1 v2;have k:Sm 4608 (c8 p q).x/\Sm 4608 (c8 p q).y/\Sm 4608 (c8 p q).z:=by unfold Sm c8;simp only;omega
 obtain⟨k1,k2,k3⟩:=k;rw[nb3 (k1.mono (by omega)),nb3 (k2.mono (by omega)),nb3 (k3.mono (by omega))]
 exact⟨rfl,k1,k2,k3⟩
def A7(a b c:V3):Pln×Bool :=
 if inV a&&(inV b&&inV c) then
  if g3 (c8 (sub b a) (sub c a))=0 then (⟨⟨0,0,0⟩,0⟩,false)
  else (⟨⟨Int.tdiv (c8 (sub b a) (sub c a)).x (g3 (c8 (sub b a) (sub c a))),Int.tdiv (c8 (sub b a) (sub c a)).y (g3 (c8 (sub b a) (sub c a))),Int.tdiv (c8 (sub b a) (sub c a)).z (g3 (c8 (sub b a) (sub c a)))⟩,
   dot ⟨Int.tdiv (c8 (sub b a) (sub c a)).x (g3 (c8 (sub b a) (sub c a))),Int.tdiv (c8 (sub b a) (sub c a)).y (g3 (c8 (sub b a) (sub c a))),Int.tdiv (c8 (sub b a) (sub c a)).z (g3 (c8 (sub b a) (sub c a)))⟩ a⟩,true)
 else (⟨⟨0,0,0⟩,0⟩,false)
theorem wb8(v:V3):0<=g3 v:=by unfold g3;omega
theorem sc3(a c d:V3):ta2 a c d=some (.tup [.agg (tP.row (A7 a c d).1),b (A7 a c d).2],[]):=by
 unfold ta2 A7;simp only[ie7,Kd9];cases ha:inV a with
 |false=>rfl
 |true =>
  cases hc:inV c with
  |false=>rfl
  |true =>
   cases hd:inV d with
   |false=>rfl
   |true =>
    obtain⟨e,k1,k2,k3⟩:=bb9 ha hc hd;rw[e];generalize c8 (sub c a) (sub d a)=n at *
    have m1:=k1.mono (m:=1000000000000000000) (by omega)
    have m2:=k2.mono (m:=1000000000000000000) (by omega)
    have m3:=k3.mono (m:=1000000000000000000) (by omega)
    rw[Kd5 m1 m2 m3,sc1 m1 m2 m3];by_cases h0:g3 n=0
    ·rw[show (g3 n==0)=true from by rw[h0];rfl]
     simp only[Qip,if_true,h0];rfl
    ·have hp:=wb8 n;have q1:=da3 (g:=g3 n) k1 (by omega)
     have q2:=da3 (g:=g3 n) k2 (by omega)
     have q3:=da3 (g:=g3 n) k3 (by omega)
     rw[show (g3 n==0)=false from by rw[beq_eq_false_iff_ne];exact h0,pe6 m1 m2 m3 h0]
     simp only[Qip,if_true,h0,if_false];rw[nb3 (q1.mono (by omega)),nb3 (q2.mono (by omega)),nb3 (q3.mono (by omega))]
     have hdot:Da5 ⟨Int.tdiv n.x (g3 n),Int.tdiv n.y (g3 n),Int.tdiv n.z (g3 n)⟩ a=dot ⟨Int.tdiv n.x (g3 n),Int.tdiv n.y (g3 n),Int.tdiv n.z (g3 n)⟩ a:=by
      unfold Da5;simp only[Gb0,Ub7];obtain⟨⟨a1,a2⟩,⟨a3,a4⟩,a5,a6⟩:=(ra8 a).1 ha;have r1:=mb q1.1 q1.2 a1 a2;have r2:=mb q2.1 q2.2 a3 a4;have r3:=mb q3.1 q3.2 a5 a6;rw[ca8 (by omega) (by omega)]
      rfl
     rw[hdot];rfl
theorem zd7(a b c:V3):Fa9 a b c=A7 a b c:=by unfold Fa9;rw[sc3];rfl
theorem Fc4(a b c:V3):Ga0 a b c=true:=by unfold Ga0;rw[sc3];rfl
theorem be2(p:Pln)(v:V3):Rd (one r1I) (wa6 p v) (λ_=>True):=by
 unfold wa6;simp only[Yc6,Kd9,u9];exact Rd.sl (λ_=>⟨_,_,rfl,rfl,trivial⟩) λ_=>Rd.sl (λ_=>⟨_,_,rfl,rfl,trivial⟩) λ_=>Rd.sl (λ_=>⟨_,_,rfl,rfl,trivial⟩) λ_=>Rd.sl (λ_=>⟨_,_,rfl,rfl,trivial⟩) λ_=>⟨_,_,rfl,rfl,trivial⟩
theorem Ld0(p:Pln)(v:V3):Fb7 p v=true:=(be2 p v).g
theorem ye9(P:ha9)(hl:P.j6.length<=1000000000):∃t s,lp (s9 P) ⟨0⟩=(t,s)/\(t=1\/t=2\/t=3):=by
 obtain⟨l,x1,x2,x3,x4,x5,x6,x7,x8⟩:=P;refine X4 (step:=s9 ⟨l,x1,x2,x3,x4,x5,x6,x7,x8⟩) (mk:=λj (_:Unit)=>(⟨(j:Int)⟩:W6)) l.length (λ_ _=>True) (λt _=>t=1\/t=2\/t=3) hl (λj a hj _=>?_) (λj a hj _=>?_) 0 () trivial
 ·simp only[s9,R8,Ld0,Int.toNat_natCast,D0 hj (show l.length<=4611686018427387904 from Nat.le_trans hl (by omega))]
  rw[btD (q7 hj),bt (i8 hj),u9];exact Nx.sl (λ_=>Nx.sl (λ_=>.ex (by simp)) λ_=>.nx ⟨(),rfl,trivial⟩) λ_=>.ex (by simp)
 ·simp only[s9,R8];rw[bfD (by omega)]
  exact⟨_,rfl,by simp⟩
theorem ze0(l:List V3)(hl:l.length<=1000000000)(a c:Nat)(ha:a<l.length)(hc:c<a):∃t s,lp (L1 ⟨(a:Int),(c:Int)⟩) ⟨l,0⟩=(t,s)/\((t=1\/t=2)/\s.j6=l):=by
 refine X4 (step:=L1 ⟨(a:Int),(c:Int)⟩) (mk:=λj (_:Unit)=>(⟨l,(j:Int)⟩:W7)) c (λ_ _=>True) (λt s=>(t=1\/t=2)/\s.j6=l) (by omega) (λj x hj _=>?_) (λj x hj _=>?_) 0 () trivial
 ·simp only[L1,Z7,Fc4,Int.toNat_natCast,o6,l9,D0 hj (show c<=4611686018427387904 by omega)]
  rw[btD (q7 hj),bt (i8 ha),bt (i8 (show c<l.length by omega)),bt (i8 (show j<l.length by omega)),u9]
  generalize hP:ha9.mk _ _ _ _ _ _ _ _ _=P3;obtain⟨t,s,h1,h2⟩:=ye9 P3 (by subst hP;exact hl)
  rw[h1]
  rcases h2 with rfl|rfl|rfl
  ·exact .ex (by simp)
  ·exact .nx ⟨(),rfl,trivial⟩
  ·exact .nx ⟨(),rfl,trivial⟩
 ·simp only[L1,Z7];rw[bfD (by omega)]
  exact⟨_,rfl,by simp⟩
theorem ze1(l:List V3)(hl:l.length<=1000000000)(a:Nat)(ha:a<l.length):∃t s,lp (L2 ⟨(a:Int)⟩) ⟨l,0⟩=(t,s)/\((t=1\/t=2)/\s.j6=l):=by
 refine X4 (step:=L2 ⟨(a:Int)⟩) (mk:=λj (_:Unit)=>(⟨l,(j:Int)⟩:W8)) a (λ_ _=>True) (λt s=>(t=1\/t=2)/\s.j6=l) (by omega) (λj x hj _=>?_) (λj x hj _=>?_) 0 () trivial
 ·simp only[L2,Z8,o6,l9,D0 hj (show a<=4611686018427387904 by omega)]
  obtain⟨t,s,h1,h2,h3⟩:=ze0 l hl a j ha hj;rw[btD (q7 hj),h1]
  rcases h2 with rfl|rfl
  ·exact .ex (by simp)
  ·exact .nx ⟨(),by rw[h3],trivial⟩
 ·simp only[L2,Z8];rw[bfD (by omega)]
  exact⟨_,rfl,by simp⟩
theorem Xa1(l:List V3)(hl:l.length<=1000000000):Rd (one r1B) (wa7 l) (λ_=>True):=by
 have key:∃t s,lp (L3 ⟨⟩) ⟨l,0⟩=(t,s)/\(t=1\/t=2):=by
  refine X4 (step:=L3 ⟨⟩) (mk:=λj (_:Unit)=>(⟨l,(j:Int)⟩:W9)) l.length (λ_ _=>True) (λt s=>t=1\/t=2) hl (λj x hj _=>?_) (λj x hj _=>?_) 0 () trivial
  ·simp only[L3,Z9,o6,l9,D0 hj (show l.length<=4611686018427387904 by omega)]
   obtain⟨t,s,h1,h2,h3⟩:=ze1 l hl j hj;rw[btD (q7 hj),h1]
   rcases h2 with rfl|rfl
   ·exact .ex (by simp)
   ·exact .nx ⟨(),by rw[h3],trivial⟩
  ·simp only[L3,Z9];rw[bfD (by omega)]
   exact⟨_,rfl,by simp⟩
 obtain⟨t,s,h1,h2⟩:=key;unfold wa7;simp only[o6,l9];rw[h1]
 rcases h2 with rfl|rfl<;>exact⟨_,_,rfl,rfl,trivial⟩
theorem Ld1(l:List V3)(hl:l.length<=1000000000):Ea1 l=true:=(Xa1 l hl).g
structure Fc(ph:Nat)(out:List Pln)(m:Nat):Prop where
 h:(ph=0/\out=[])\/ph=1
 l:out.length<=m
theorem Fc.more{ph m m':Nat}{out:List Pln}(h:Fc ph out m)(hm:m<=m'):Fc ph out m':=⟨h.h,Nat.le_trans h.l hm⟩
def phV(out:List V3):Nat:=match out with
 |[]=>0
 |_::_=>1
theorem Nc8(out:List V3)(x:V3):phV (out++[x])=1:=by cases out<;>rfl
theorem tb0(l:List V3)(x1 x2 x3:Int):app (bL tV l) [[i x1,i x2,i x3]]=bL tV (l++[⟨x1,x2,x3⟩]):=Ra1 tV l [⟨x1,x2,x3⟩]
theorem be3{l:List V3}{m:Nat}(h:m<l.length):(((Nat.blt (0+m) (len (bL tV l)))&&(Nat.ble (0+3) (len (i9 (bL tV l) (0+m)))))&&(ma9 [CK.int .i64,CK.int .i64,CK.int .i64] (i7 (i9 (bL tV l) (0+m)) 0)))=true:=by
 rw[Qiaj,N2 tV h,wa3,show Nat.blt m l.length=true from by rw[Nat.blt_eq];exact h]
 rfl
theorem ie8{l:List V3}{m:Nat}(h:m<l.length):(((Nat.blt (0+m) (len (bL tV l)))&&(Nat.ble (2+1) (len (i9 (bL tV l) (0+m)))))&&(ma9 [CK.int .i64] (i7 (i9 (bL tV l) (0+m)) 2)))=true:=by
 rw[Qiaj,N2 tV h,wa3,show Nat.blt m l.length=true from by rw[Nat.blt_eq];exact h]
 rfl
theorem Ld2{n:Nat}{l:List V3}(hn:l.length=n)(h:n<=1000000000):(Nat.beq n (len (bL tV l))&&Nat.ble ((n+1)*24) room)=true:=by
 subst hn;rw[wa3,Qiab,Bool.true_and,Nat.ble_eq];unfold room;omega
theorem be4 (x : List Int) (N : Nat) (h4 : 4 ≤ N) (h8 : N ≤ 8) (j0 : Int) (hj0 : 0 ≤ j0 ∧ j0 ≤ 10) :
  ∃idx out,lp (ba8 ⟨(N:Int)⟩) ⟨0,0,x,j0,0,[]⟩=(2,⟨1,(N:Int),x,idx,N,bL tV out⟩)/\out.length=N:=by
 have key:=X4 (step:=ba8 ⟨(N:Int)⟩) (mk:=λj (a:Int×List V3)=>(⟨phV a.2,(j:Int),x,a.1,a.2.length,bL tV a.2⟩:o2)) N
  (λj a=>a.2.length=j/\0<=a.1/\a.1<=10+4*j/\j<=N) (λt s=>t=2/\∃idx out,s=⟨1,(N:Int),x,idx,N,bL tV out⟩/\out.length=N) (by omega) (λj a hj ha=>?_) (λj a hj ha=>?_) 0 (j0,[]) ⟨rfl,hj0.1,by omega,by omega⟩
 ·obtain⟨t,s,e1,rfl,idx,out,e2,e3⟩:=key;exact⟨idx,out,by rw[<- e2];exact e1,e3⟩
 ·obtain⟨at0,out⟩:=a;obtain⟨ho,ha1,ha2,_⟩:=ha
  simp only at ho ha1 ha2
  have hn:=D0 hj (show N<=4611686018427387904 by omega)
  obtain⟨v1,j1,d1,_,_,c1,b1⟩:=Ga7 17 x at0 ha1 (by omega) (by omega) (by omega)
  obtain⟨v2,j2,d2,_,_,c2,b2⟩:=Ga7 17 x j1 (by omega) (by omega) (by omega) (by omega)
  obtain⟨v3,j3,d3,_,_,c3,b3⟩:=Ga7 17 x j2 (by omega) (by omega) (by omega) (by omega)
  obtain⟨v4,j4,d4,_,_,c4,b4⟩:=Ga7 6 x j3 (by omega) (by omega) (by omega) (by omega)
  have leaf : ∀ (E : Nat → Prop) (x1 x2 x3 : Int), Nx (.next (⟨1, ((j + 1 : Nat) : Int), x, j4, j + 1, bL tV (out ++ [⟨x1, x2, x3⟩])⟩ : o2)) E
    (λs=>∃a':Int×List V3,s=⟨phV a'.2,((j+1:Nat):Int),x,a'.1,a'.2.length,bL tV a'.2⟩/\a'.2.length=j+1/\0<=a'.1/\a'.1<=10+4*((j+1:Nat):Int)/\j+1<=N):=λE x1 x2 x3=>by
   have hl:(out++[(⟨x1,x2,x3⟩:V3)]).length=j+1:=by simp[ho]
   exact .nx ⟨(j4,out++[⟨x1,x2,x3⟩]),by simp only[Nc8,hl],hl,by show 0<=j4;omega,by show j4<=_;omega,by omega⟩
  cases out with
  |nil =>
   have hj0':j=0:=by simpa using ho.symm
   subst hj0';show Nx (P2 Stp.next Stp.exit Stp.fail _ _) _ _;simp only[P2,o6,l9,d1,d2,d3,d4,hn];rw[btD (q7 hj)];have f1:decide (((0:Nat):Int)>1)=false:=rfl;have f2:decide (((0:Nat):Int)>0)=false:=rfl;have f3:decide (((0:Nat):Int)>2)=false:=rfl;have lf:∀(E:Nat->Prop) (x1 x2 x3:Int),Nx (.next (⟨1,((0+1:Nat):Int),x,j4,1,[[i x1,i x2,i x3]]⟩:o2)) E _:=leaf;simp only[f1,f2,f3,Ra0,Qiab,Qig,u9];refine Nx.sl (λ_=>?_) (λ_=>?_)<;>refine Nx.sl (λ_=>?_) (λ_=>?_)
   all_goals first
    |exact lf _ _ _ _
    |(refine Nx.sl (λ_=>?_) (λ_=>?_)<;>exact lf _ _ _ _)
  |cons o os =>
   have h1:1<=j:=by simp only[List.length_cons] at ho;omega
   generalize hO:o::os=O at *
   have hph:phV O=1:=by subst hO;rfl
   have w1:W ((j:Int)-1)=((j-1:Nat):Int):=by rw[ca8 (by omega) (by omega)];omega
   have i1:inB ((j-1:Nat):Int) j=true:=i8 (by omega)
   have r1:=be3 (l:=O) (m:=j-1) (by omega)
   have r1':=ie8 (l:=O) (m:=j-1) (by omega)
   have rr:=Ld2 ho (by omega)
   have f2:∀{inst:Decidable ((j:Int)>0)},@decide ((j:Int)>0) inst=true:=decide_eq_true (by omega)
   show Nx (sel (Nat.beq (phV O) 1) (n9 Stp.next Stp.exit Stp.fail _ _) _) _ _;rw[hph];show Nx (n9 Stp.next Stp.exit Stp.fail _ _) _ _;by_cases h2:2<=j
   ·have w2:W ((j:Int)-2)=((j-2:Nat):Int):=by rw[ca8 (by omega) (by omega)];omega
    have i2:inB ((j-2:Nat):Int) j=true:=i8 (by omega)
    have r2:=be3 (l:=O) (m:=j-2) (by omega)
    simp only[n9,o6,l9,d1,d2,d3,d4,hn,ho,w1,w2,i1,i2,Int.toNat_natCast,r1,r1',r2,rr,tb0];rw[btD (q7 hj)];simp only[Qiab,Qig,u9]
    repeat' (first | exact leaf _ _ _ _ | refine Nx.sl (λ_=>?_) (λ_=>?_))
   ·have hj1:j=1:=by omega
    subst hj1;simp only[n9,o6,l9,d1,d2,d3,d4,hn,ho,w1,i1,Int.toNat_natCast,r1,r1',rr,tb0];have f1:decide (((1:Nat):Int)>1)=false:=rfl;rw[btD (q7 hj)];simp only[f1,Ra0,Qiab,Qig,u9]
    repeat' (first | exact leaf _ _ _ _ | refine Nx.sl (λ_=>?_) (λ_=>?_))
 ·obtain⟨at0,out⟩:=a;obtain⟨ho,ha1,ha2,hjN⟩:=ha
  simp only at ho ha1 ha2
  have hj':j=N:=by omega
  subst hj';cases out with
  |nil=>simp only[List.length_nil] at ho;omega
  |cons o os =>
   refine⟨2,?_,rfl,at0,o::os,by rw[ho];rfl,ho⟩
   show n9 Stp.next Stp.exit Stp.fail _ _=_;simp only[n9];rw[bfD (by omega)]
theorem Nc9{l:List V3}{n:Nat}{r:List (List c7)}{P:List V3->Prop}(hn:n=l.length)(hr:r=bL tV l)(h:P l):Rd (one (r1L tV)) (some (.sl 0 0 n 0,[⟨25,3,r,true,false,0⟩])) P:=by
 subst hn hr;refine⟨_,l,rfl,?_,h⟩;show Bool.rec (motive:=λ_=>Option (List V3)) none (some (slR tV (bL tV l) 0 l.length)) (Bool.and true (okS tV (bL tV l) 0 l.length))=_
 rw[Eb9,Sb0];rfl
theorem Fc5(x:List Int):Rd (one (r1L tV)) (ia0 x) (λr=>4<=r.length/\r.length<=8):=by
 obtain⟨v,j,e1,a1,b1,c1,d1⟩:=Ga7 5 x 0 (by omega) (by omega) (by omega) (by omega)
 have hN:W (4+v)=(((4+v).toNat:Nat):Int):=by rw[ca8 (by omega) (by omega)];omega
 obtain⟨idx,out,e2,e3⟩:=be4 x (4+v).toNat (by omega) (by omega) j (by omega)
 unfold ia0;simp only[o6,l9,e1,hN,e2];have h4:4<=(4+v).toNat:=by omega
 have h8:(4+v).toNat<=8:=by omega
 generalize (4+v).toNat=N at *
 have s1:lsL tV N (λk=>i9 (bL tV out) (0+k))=out:=by rw[<- e3];exact Eb9 tV out
 have s2:okL tV N (λk=>i9 (bL tV out) (0+k))=true:=by rw[<- e3];exact Sb0 tV out
 have gf:Ea1 out=true:=Ld1 out (by omega)
 rw[s1,s2,gf];simp only[Qiab,Qig,u9,show Nat.beq 2 1=false from rfl,Ra0]
 refine Rd.sl (λ_=>?_) λ_=>Nc9 e3.symm rfl ⟨by omega,by omega⟩
 have i0:inB 0 N=true:=i8 (j:=0) (by omega)
 have i1:inB 1 N=true:=i8 (j:=1) (by omega)
 have i2:inB 2 N=true:=i8 (j:=2) (by omega)
 have i3:inB 3 N=true:=i8 (j:=3) (by omega)
 have sp:∀(v:V3) (x1 x2 x3:Int),O0 (tV.row v) 0 [i x1,i x2,i x3]=tV.row ⟨x1,x2,x3⟩:=λ_ _ _ _=>rfl
 have rl:∀v:V3,Nat.ble (0+3) (len (tV.row v))=true:=λ_=>rfl
 have ck:∀v:V3,ma9 [CK.int .i64,CK.int .i64,CK.int .i64] (i7 (tV.row v) 0)=true:=λ_=>rfl
 have gr:∀(l:List V3) (k:Nat),l.length=N->k<4->i9 (bL tV l) k=tV.row (gL tV l k):=λl k hl hk=>N2 tV (by omega)
 have bl:∀(l:List V3) (k:Nat),l.length=N->k<4->Nat.blt k (len (bL tV l))=true:=λl k hl hk=>by rw[wa3,Nat.blt_eq];omega
 have ls:∀(l:List V3) (k:Nat) (v:V3),l.length=N->(l.set k v).length=N:=λl k v hl=>by rw[Qial];exact hl
 rw[gr out 0 e3 (by omega),gr out 1 e3 (by omega)]
 simp only[sp,Ha6];rw[gr _ 2 (ls out 1 _ e3) (by omega)]
 simp only[sp,Ha6];rw[gr _ 3 (ls _ 2 _ (ls out 1 _ e3)) (by omega)]
 simp only[sp,Ha6,rl,ck,i0,i1,i2,i3,bl out 0 e3 (by omega),bl out 1 e3 (by omega),bl _ 2 (ls out 1 _ e3) (by omega),bl _ 3 (ls _ 2 _ (ls out 1 _ e3)) (by omega),Qig,u9]
 exact Nc9 (by simp only[Qial];omega) rfl (by simp only[Qial];omega)
theorem Ld3(x:List Int):Ma3 x=true:=(Fc5 x).g
theorem Zc3(x:List Int):4<=(o7 x).length/\(o7 x).length<=8:=(Fc5 x).p
theorem cb0(v:V3):ha7 v=inV v/\ha8 v=true:=by
 have h3:[v.x,v.y,v.z].length<=1000000000:=by simp
 have:Sa2 v=some (b (inV v),[]):=by
  unfold Sa2 inV;simp only[Wb4 24 _ (by omega) h3,Wb5 24 _ (by omega) h3,u9]
  simp only[List.all_cons,List.all_nil,Qig]
 unfold ha7 ha8;rw[this];exact⟨rfl,rfl⟩
noncomputable def has(c:List Pln)(v:V3):Bool:=(chk c==0)&&(inV v&&inn c ⟨v.x,v.y,v.z,1⟩)
noncomputable def apart(a c:List Pln):Bool:=!((chk a==0)&&(chk c==0))||!be0 (a++c++ws)
noncomputable def pe8(a c:List Pln):Bool:=ful a&&((chk c==0)&&(pts a).all (inn c))
noncomputable def onc(X:List Pt)(p:Pln):Nat:=X.countP λx=>rm p x==0
noncomputable def keep(X:List Pt)(p:Pln):Bool:=!decide ((onc X p:Int)<3)
theorem Nb9{α:Type}(c:α->Bool):∀l:List α,(l.take (l.findIdx c)).filter (λx=>!c x)=l.take (l.findIdx c)
 |[]=>rfl
 |x::l=>by
  rw[List.findIdx_cons];cases h:c x with
  |true=>rfl
  |false =>
   simp only[cond_false,List.take_succ_cons,List.filter_cons,h,Bool.not_false,if_true];rw[Nb9 c l]
theorem kd5{α:Type}(l:List α)(j:Nat)(h:j<l.length):l.take (j+1)=l.take j++[l[j]]:=by rw[List.take_succ_eq_append_getElem h]
theorem jb9{α:Type}(t:Ty α){l:List α}{j:Nat}(h:j<l.length):l.take (j+1)=l.take j++[gL t l j]:=by rw[kd5 l j h,mb3 t h]
theorem Wb7{α:Type}(t:Ty α){l r:List α}{j:Nat}(h:l.drop j=r.drop j):gL t l j=gL t r j:=by
 have h1:=Nc6 t l j 0;have h2:=Nc6 t r j 0;rw[Nat.add_zero] at h1 h2;rw[<- h1,<- h2,h]
theorem Ob0{α:Type}{l r:List α}{j:Nat}(h:l.drop j=r.drop j)(k:Nat):l.drop (j+k)=r.drop (j+k):=by rw[<- List.drop_drop,<- List.drop_drop,h]
structure Del(l:List Pln)(f:Pln->Bool)(cur:List Pln)(m j:Nat):Prop where
 len:cur.length=l.length
 t:cur.take m=(l.take j).filter f
 d:cur.drop j=l.drop j
 le:m<=j
 lm:m<=l.length
theorem be5(l:List Pln)(n:Nat):i7 (bL tP l) n=bL tP (l.drop n):=by unfold bL;rw[E0,k9,k9,List.map_drop]
def eqP(x y:Pln):Bool:=x.n.x==y.n.x&&(x.n.y==y.n.y&&(x.n.z==y.n.z&&(x.b==y.b&&true)))
theorem Ob1(x y:Pln):eqP x y=true↔x=y:=by
 unfold eqP;simp only[Qig,Qid,beq_iff_eq];refine⟨λ⟨h1,h2,h3,h4⟩=>?_,λh=>by subst h;exact⟨rfl,rfl,rfl,rfl⟩⟩
 obtain⟨⟨x1,x2,x3⟩,x4⟩:=x;obtain⟨⟨y1,y2,y3⟩,y4⟩:=y
 simp only at h1 h2 h3 h4
 subst h1 h2 h3 h4;rfl
def ddF:Pln->List Pln->List Pln
 |_,[]=>[]
 |a,x::l=>if eqP x a then ddF x l else x::ddF x l
def dd:List Pln->List Pln
 |[]=>[]
 |x::l=>x::ddF x l
structure Cmp(l:List Pln)(n:Nat)(cur:List Pln)(m j:Nat)(R:List Pln):Prop where
 len:cur.length=l.length
 t:cur.take m++ddF (gL tP l (j-1)) ((l.take n).drop j)=R
 d:cur.drop (j-1)=l.drop (j-1)
 le:m+1<=j
theorem Ld4(l:List Pln)(n:Nat)(hn:n<=l.length):slR tP (bL tP l) 0 n=l.take n:=Rb9 tP (by rw[List.length_take];omega) λk hk=>by
 rw[Qiaj,N2 tP (by omega)]
 congr 1;simp[gL,Qiah,List.getElem?_take,hk]
theorem Ld5(l:List Pln)(n:Nat)(hn:n<=l.length):okS tP (bL tP l) 0 n=true:=ab0 tP (f:=λk=>gL tP l k) λk hk=>by rw[Qiaj,N2 tP (by omega)]
end Go.Ev.Ce
namespace Go.Ev.Ce
open Go Go.Ev Go.Ev.L Go.Proofs Go.Sort
theorem sc4(l:List Pln):List.Perm (zb8 l) l:=List.mergeSort_perm l _
theorem zd8(x y z:Pln)(h1:(!ltOf ab3 y x)=true)(h2:(!ltOf ab3 z y)=true):(!ltOf ab3 z x)=true:=by
 simp only[Qiz,Da8,decide_eq_false_iff_not] at *
 unfold LtP at *
 omega
theorem zd9(x y:Pln):((!ltOf ab3 y x)||!ltOf ab3 x y)=true:=by
 simp only[Bool.or_eq_true,Qiz,Da8,decide_eq_false_iff_not];unfold LtP;omega
theorem Oc0(l:List Pln):(zb8 l).Pairwise λx y=>(!ltOf ab3 y x)=true:=List.pairwise_mergeSort zd8 zd9 l
instance:DecidableEq Pln:=λx y=>decidable_of_iff _ (Ob1 x y)
def PC:List Pt:=[⟨0,0,0,1⟩,⟨0,0,1,4⟩,⟨0,1,0,3⟩,⟨1,0,0,2⟩]
end Go.Ev.Ce
namespace Go.Ev.Ce
open Go Go.Ev Go.Ev.L Go.Proofs
set_option maxRecDepth 100000
structure yb4 where
structure tb1 where
structure tb2 where
structure yb5 where
 alt:Nat
structure Wb8 where
structure Ob2 where
structure Ob3 where
structure Wb9 where
 alt:Nat
structure zc7 where
structure zc8 where
 alt:Nat
def Ia5(l:List Pln):Prop:=l.Pairwise LtP
theorem Fc6{x y z:Pln}(h1:LtP x y)(h2:LtP y z):LtP x z:=by unfold LtP at *;omega
theorem ic8(x:Pln):¬ LtP x x:=by unfold LtP;omega
theorem qd5(x y:Pln):LtP x y\/x=y\/LtP y x:=by
 by_cases h1:LtP x y
 ·exact .inl h1
 ·by_cases h2:LtP y x
  ·exact .inr (.inr h2)
  ·refine .inr (.inl ?_);unfold LtP at h1 h2;have e1:x.n.x=y.n.x:=by omega
   have e2:x.n.y=y.n.y:=by omega
   have e3:x.n.z=y.n.z:=by omega
   have e4:x.b=y.b:=by omega
   cases x with | mk n b=>cases y with | mk m c=>cases n;cases m;simp_all
theorem wb9:∀{l r:List Pln},Ia5 l->Ia5 r->(∀p,p∈l↔p∈r)->l=r
 |[],[],_,_,_=>rfl
 |[],b::r,_,_,h=>by have:=(h b).2 Qic;cases this
 |a::l,[],_,_,h=>by have:=(h a).1 Qic;cases this
 |a::l,b::r,hl,hr,h=>by
  obtain⟨hl1,hl2⟩:=Qis.1 hl;obtain⟨hr1,hr2⟩:=Qis.1 hr;have hab:a=b:=by
   rcases Qia.1 ((h a).1 Qic) with e|h1
   ·exact e
   ·rcases Qia.1 ((h b).2 Qic) with e|h2
    ·exact e.symm
    ·exact absurd (Fc6 (hr1 a h1) (hl1 b h2)) (ic8 b)
  subst hab;rw[wb9 hl2 hr2 λp=>?_]
  constructor
  ·intro hp
   rcases Qia.1 ((h p).1 (Qib _ hp)) with e|h1
   ·subst e;exact absurd (hl1 p hp) (ic8 p)
   ·exact h1
  ·intro hp
   rcases Qia.1 ((h p).2 (Qib _ hp)) with e|h1
   ·subst e;exact absurd (hr1 p hp) (ic8 p)
   ·exact h1
def Oc1:List Pln->Pln->List Pln
 |[],y=>[y]
 |a::l,y=>if ab3 a y<0 then a::Oc1 l y else if eqP a y then a::l else y::a::l
theorem tb3(y p:Pln):∀x,p∈Oc1 x y↔p=y\/p∈x
 |[]=>by simp[Oc1]
 |a::l=>by
  unfold Oc1;have ih:=tb3 y p l;split
  ·simp only[Qia,ih];constructor
   ·rintro (h|h|h)
    ·exact .inr (.inl h)
    ·exact .inl h
    ·exact .inr (.inr h)
   ·rintro (h|h|h)
    ·exact .inr (.inl h)
    ·exact .inl h
    ·exact .inr (.inr h)
  ·split
   ·rename_i h;rw[Ob1] at h;subst h;simp only[Qia];constructor
    ·exact λh=>.inr h
    ·rintro (h|h)
     ·exact .inl h
     ·exact h
   ·simp only[Qia]
theorem Ob4(y:Pln):∀{x},Ia5 x->Ia5 (Oc1 x y)
 |[],_=>List.pairwise_singleton _ _
 |a::l,h=>by
  obtain⟨h1,h2⟩:=Qis.1 h;unfold Oc1;split
  ·rename_i hc;rw[Mc7] at hc;refine Qis.2 ⟨λp hp=>?_,Ob4 y h2⟩
   rcases (tb3 y p l).1 hp with e|hp
   ·subst e;exact hc
   ·exact h1 p hp
  ·rename_i hc;rw[Mc7] at hc;split
   ·exact h
   ·rename_i hne;have hlt:LtP y a:=by
     rcases qd5 y a with h|h|h
     ·exact h
     ·exact absurd ((Ob1 _ _).2 h.symm) hne
     ·exact absurd h hc
    refine Qis.2 ⟨λp hp=>?_,h⟩
    rcases Qia.1 hp with e|hp
    ·subst e;exact hlt
    ·exact Fc6 hlt (h1 p hp)
theorem qd6{σ:Type}{step:σ->Stp σ}{s:σ}{t:Nat}(h:step s=.exit t):lp step s=(t,s):=by rw[Fd5];exact mc6 h
theorem Ad0:zb8 []=[]:=List.eq_nil_of_length_eq_zero (wb6 [])
end Go.Ev.Ce
namespace Go.Ev.Ce
def rmZ(p:Pln)(x:Pt):Int:=p.b*x.pw-(p.n.x*x.px+p.n.y*x.py+p.n.z*x.pz)
structure Inr(r:List Pln)(x:Pt):Prop where
 w:0<x.pw
 h:∀p∈r,0<=rmZ p x
def Y8(p:Pln):Pln:=⟨⟨-p.n.x,-p.n.y,-p.n.z⟩,-p.b⟩
theorem Ua6(p:Pln)(x:Pt):rmZ (Y8 p) x=-rmZ p x:=by unfold rmZ Y8;grind
structure Cn(r:List Pln)(x:Pt):Prop extends Inr r x where
 c:∃p q s,p∈r/\q∈r/\s∈r/\mw p q s≠0/\rmZ p x=0/\rmZ q x=0/\rmZ s x=0
def Bdd(r:List Pln):Prop:=∀d:V3,d≠⟨0,0,0⟩->∃p∈r,0<dot p.n d
def go(x:Pt)(q:Pln)(d:V3):Pt:=⟨x.px*dot q.n d+rmZ q x*d.x,x.py*dot q.n d+rmZ q x*d.y,x.pz*dot q.n d+rmZ q x*d.z,x.pw*dot q.n d⟩
theorem Zc4(p q:Pln)(x:Pt)(d:V3):rmZ p (go x q d)=dot q.n d*rmZ p x-rmZ q x*dot p.n d:=by simp only[rmZ,go,dot];grind
theorem Ga8{a b c:Int}(hc:0<c)(h:a*c<=b*c):a<=b:=Int.le_of_mul_le_mul_right h hc
theorem first(x:Pt)(d:V3):∀r:List Pln,(∀p∈r,0<=rmZ p x)->(∃p∈r,0<dot p.n d)->∃q∈r,0<dot q.n d/\∀p∈r,0<dot p.n d->rmZ q x*dot p.n d<=rmZ p x*dot q.n d
 |[],_,h=>by obtain⟨p,hp,_⟩:=h;cases hp
 |a::r,hx,h=>by
  by_cases hr:∃p∈r,0<dot p.n d
  ·obtain⟨q,hq,h1,h2⟩:=first x d r (λp hp=>hx p (Qib _ hp)) hr
   by_cases ha:0<dot a.n d
   ·by_cases hc:rmZ q x*dot a.n d<=rmZ a x*dot q.n d
    ·refine⟨q,Qib _ hq,h1,λp hp h3=>?_⟩
     rcases Qia.1 hp with rfl|hp
     ·exact hc
     ·exact h2 p hp h3
    ·refine⟨a,Qic,ha,λp hp h3=>?_⟩
     rcases Qia.1 hp with rfl|hp
     ·exact Int.le_refl _
     ·have h4:=h2 p hp h3;have h5:rmZ a x*dot q.n d<rmZ q x*dot a.n d:=by omega
      have h6:=Qit h4 (Qie ha);have h7:=Int.mul_lt_mul_of_pos_right h5 h3;have e1:rmZ q x*dot p.n d*dot a.n d=rmZ q x*dot a.n d*dot p.n d:=by grind
      have e2:rmZ a x*dot q.n d*dot p.n d=rmZ a x*dot p.n d*dot q.n d:=by grind
      have e3:rmZ p x*dot q.n d*dot a.n d=rmZ p x*dot a.n d*dot q.n d:=by grind
      refine Ga8 h1 ?_;omega
   ·refine⟨q,Qib _ hq,h1,λp hp h3=>?_⟩
    rcases Qia.1 hp with rfl|hp
    ·exact absurd h3 ha
    ·exact h2 p hp h3
  ·have ha : 0 < dot a.n d := by
    obtain⟨p,hp,h3⟩:=h
    rcases Qia.1 hp with rfl|hp
    ·exact h3
    ·exact absurd ⟨p,hp,h3⟩ hr
   refine⟨a,Qic,ha,λp hp h3=>?_⟩
   rcases Qia.1 hp with rfl|hp
   ·exact Int.le_refl _
   ·exact absurd ⟨p,hp,h3⟩ hr
theorem step{r:List Pln}{x:Pt}(hx:Inr r x)(d:V3)(h:∃p∈r,0<dot p.n d):∃q∈r,0<dot q.n d/\Inr r (go x q d):=by
 obtain⟨q,hq,h1,h2⟩:=first x d r hx.h h;refine⟨q,hq,h1,⟨Qir hx.w h1,λp hp=>?_⟩⟩
 rw[Zc4];have h3:=hx.h p hp;have h4:=hx.h q hq;by_cases h5:0<dot p.n d
 ·have:=h2 p hp h5
  have e:rmZ p x*dot q.n d=dot q.n d*rmZ p x:=Int.mul_comm _ _;omega
 ·have h6:=Qih (Qie h1) h3;have h7:rmZ q x*dot p.n d<=0:=Int.mul_nonpos_of_nonneg_of_nonpos h4 (by omega)
  omega
theorem Ld6{h q:Pln}{x:Pt}{d:V3}(h1:0<=rmZ q x)(h2:0<=dot h.n d):rmZ h (go x q d)*x.pw<=rmZ h x*(go x q d).pw\/x.pw<=0:=by
 rcases Int.lt_or_le 0 x.pw with hw|hw
 ·left;rw[Zc4]
  have:=Qih h1 h2
  have h3:=Qih this (Qie hw);have e:rmZ h x*(go x q d).pw=dot q.n d*rmZ h x*x.pw:=by unfold go;grind
  have e2:(dot q.n d*rmZ h x-rmZ q x*dot h.n d)*x.pw=dot q.n d*rmZ h x*x.pw-rmZ q x*dot h.n d*x.pw:=by grind
  omega
 ·exact .inr hw
def neg(d:V3):V3:=⟨-d.x,-d.y,-d.z⟩
theorem ic9(a d:V3):dot a (neg d)=-dot a d:=by unfold dot neg;grind
theorem Oc2{d:V3}(h:d≠⟨0,0,0⟩):neg d≠⟨0,0,0⟩:=λh'=>h (by
 cases d;unfold neg at h';simp only[V3.mk.injEq] at h' ⊢;omega)
theorem turn(h:Pln){d:V3}(hd:d≠⟨0,0,0⟩):∃e,e≠(⟨0,0,0⟩:V3)/\0<=dot h.n e/\∀a,dot a d=0->dot a e=0:=by
 by_cases h1:0<=dot h.n d
 ·exact⟨d,hd,h1,λ_ h=>h⟩
 ·exact⟨neg d,Oc2 hd,by rw[ic9];omega,λa h=>by rw[ic9,h];rfl⟩
theorem perp{n:V3}(hn:n≠⟨0,0,0⟩):∃d,d≠(⟨0,0,0⟩:V3)/\dot n d=0:=by
 by_cases h:n.x=0/\n.y=0
 ·exact⟨⟨1,0,0⟩,by simp,by unfold dot;simp[h.1]⟩
 ·refine⟨⟨n.y,-n.x,0⟩,λh'=>h ?_,by unfold dot;grind⟩
  simp only[V3.mk.injEq] at h';omega
theorem V3.ext'{a b:V3}(h1:a.x=b.x)(h2:a.y=b.y)(h3:a.z=b.z):a=b:=by cases a;cases b;simp_all
theorem Zc5{m n d:V3}(hm:m≠⟨0,0,0⟩)(h1:dot m d=0)(h2:dot n d≠0):c8 m n≠⟨0,0,0⟩:=λh=>by
 unfold c8 at h;simp only[V3.mk.injEq] at h;obtain⟨c1,c2,c3⟩:=h;unfold dot at h1 h2;have e1:m.x*(n.x*d.x+n.y*d.y+n.z*d.z)=0:=by grind
 have e2:m.y*(n.x*d.x+n.y*d.y+n.z*d.z)=0:=by grind
 have e3:m.z*(n.x*d.x+n.y*d.y+n.z*d.z)=0:=by grind
 have k:∀{a:Int},a*(n.x*d.x+n.y*d.y+n.z*d.z)=0->a=0:=λh=>(Qif.1 h).resolve_right h2
 exact hm (V3.ext' (k e1) (k e2) (k e3))
theorem Zb9(a b:V3):dot a (c8 a b)=0:=by unfold dot c8;grind
theorem ac0(a b:V3):dot b (c8 a b)=0:=by unfold dot c8;grind
theorem Ld7{p q:Pln}{x:Pt}{d:V3}(h:rmZ p x=0)(h':dot p.n d=0):rmZ p (go x q d)=0:=by rw[Zc4,h,h'];simp
theorem Ld8(q:Pln)(x:Pt)(d:V3):rmZ q (go x q d)=0:=by rw[Zc4];grind
theorem ze2{q:Pln}{d:V3}(h:0<dot q.n d):q.n≠⟨0,0,0⟩:=λh'=>by rw[h'] at h;unfold dot at h;simp at h
theorem ie9{a b c u v w:Int}(hu:0<u)(hv:0<v)(hw:0<w)(h1:a*v<=b*u)(h2:b*w<=c*v):a*w<=c*u:=by
 have h3:=Qit h1 (Qie hw);have h4:=Qit h2 (Qie hu);have e1:a*v*w=a*w*v:=by grind
 have e2:b*u*w=b*w*u:=by grind
 have e3:c*v*u=c*u*v:=by grind
 exact Ga8 hv (by omega)
theorem kd6{r:List Pln}(hb:Bdd r)(h:Pln){x:Pt}(hx:Inr r x):∃v,Cn r v/\rmZ h v*x.pw<=rmZ h x*v.pw:=by
 obtain⟨d0,n0,p0,_⟩:=turn h (d:=⟨1,0,0⟩) (by simp)
 obtain⟨q1,m1,k1,i1⟩:=step hx d0 (hb d0 n0);have l1:=(Ld6 (h:=h) (x:=x) (hx.h q1 m1) p0).resolve_right (by have:=hx.w;omega)
 obtain⟨e1,ne1,he1⟩:=perp (ze2 k1);obtain⟨d1,n1,p1,z1⟩:=turn h ne1;obtain⟨q2,m2,k2,i2⟩:=step i1 d1 (hb d1 n1);have l2:=(Ld6 (h:=h) (x:=go x q1 d0) (i1.h q2 m2) p1).resolve_right (by have:=i1.w;omega)
 have hc:=Zc5 (ze2 k1) (z1 _ he1) (n:=q2.n) (by omega)
 obtain⟨d2,n2,p2,z2⟩:=turn h hc;obtain⟨q3,m3,k3,i3⟩:=step i2 d2 (hb d2 n2);have l3:=(Ld6 (h:=h) (x:=go (go x q1 d0) q2 d1) (i2.h q3 m3) p2).resolve_right (by have:=i2.w;omega)
 have a1:rmZ q1 (go (go x q1 d0) q2 d1)=0:=Ld7 (Ld8 _ _ _) (z1 _ he1);refine⟨_,⟨i3,q3,q1,q2,m3,m1,m2,λh0=>?_,Ld8 _ _ _,Ld7 a1 (z2 _ (Zb9 _ _)),Ld7 (Ld8 _ _ _) (z2 _ (ac0 _ _))⟩,?_⟩
 ·have:dot q3.n d2=0:=z2 _ h0
  omega
 ·exact ie9 i3.w i2.w hx.w l3 (ie9 i2.w i1.w hx.w l2 l1)
theorem ka4{r:List Pln}(hb:Bdd r){h:Pln}(hv:∀v,Cn r v->0<=rmZ h v){x:Pt}(hx:Inr r x):0<=rmZ h x:=by
 obtain⟨v,h1,h2⟩:=kd6 hb h hx;have h3:=Qih (hv v h1) (Qie hx.w);exact Ga8 h1.w (by rw[Qiy];omega)
def mid(x y:Pt):Pt:=⟨x.px*y.pw+y.px*x.pw,x.py*y.pw+y.py*x.pw,x.pz*y.pw+y.pz*x.pw,2*(x.pw*y.pw)⟩
theorem Ld9(p:Pln)(x y:Pt):rmZ p (mid x y)=rmZ p x*y.pw+rmZ p y*x.pw:=by unfold rmZ mid;grind
theorem Inr.mid{r:List Pln}{x y:Pt}(hx:Inr r x)(hy:Inr r y):Inr r (mid x y):=⟨by unfold Ce.mid;exact Qir (by decide) (Qir hx.w hy.w),λp hp=>by
 rw[Ld9];exact Int.add_nonneg (Qih (hx.h p hp) (Qie hy.w)) (Qih (hy.h p hp) (Qie hx.w))⟩
def Md0(r:List Pln):Prop:=∃x:Pt,0<x.pw/\∀p∈r,0<rmZ p x
theorem qd7{r:List Pln}:∀(l:List Pln),(∀p∈l,p∈r)->(∃x,Inr r x)->(∀p∈l,∃v,Inr r v/\0<rmZ p v)->∃x,Inr r x/\∀p∈l,0<rmZ p x
 |[],_,h,_=>by obtain⟨x,h⟩:=h;exact⟨x,h,λp hp=>by cases hp⟩
 |a::l,hl,h,hv=>by
  obtain⟨x,h1,h2⟩:=qd7 l (λp hp=>hl p (Qib _ hp)) h (λp hp=>hv p (Qib _ hp))
  obtain⟨y,h3,h4⟩:=hv a Qic;refine⟨mid x y,h1.mid h3,λp hp=>?_⟩
  rw[Ld9]
  rcases Qia.1 hp with rfl|hp
  ·have:=Qih (h1.h p (hl p Qic)) (Qie h3.w)
   have:=Qir h4 h1.w
   omega
  ·have:=Qir (h2 p hp) h3.w
   have:=Qih (h3.h p (hl p (Qib _ hp))) (Qie h1.w)
   omega
theorem Md1{r:List Pln}(hb:Bdd r)(h0:r≠[]):Md0 r↔∀p∈r,∃v,Cn r v/\0<rmZ p v:=by
 constructor
 ·intro ⟨x,hw,hx⟩ p hp;by_cases h:∃v,Cn r v/\0<rmZ p v
  ·exact h
  ·have hx':Inr r x:=⟨hw,λq hq=>Qie (hx q hq)⟩
   have:=ka4 hb (h:=Y8 p) (λv hv=>by
    rw[Ua6]
    have:¬ 0<rmZ p v:=λh'=>h ⟨v,hv,h'⟩
    omega) hx'
   rw[Ua6] at this
   have:=hx p hp
   omega
 ·intro h;obtain⟨p,hp⟩:=List.exists_mem_of_ne_nil r h0;obtain⟨v,hv,_⟩:=h p hp;obtain⟨x,h1,h2⟩:=qd7 r (λ_ h=>h) ⟨v,hv.toInr⟩ λp hp=>by
   obtain⟨v,hv,h⟩:=h p hp;exact⟨v,hv.toInr,h⟩
  exact⟨x,h1.w,h2⟩
structure Eqv(x v:Pt):Prop where
 e1:x.px*v.pw=v.px*x.pw
 e2:x.py*v.pw=v.py*x.pw
 e3:x.pz*v.pw=v.pz*x.pw
theorem Eqv.rm{x v:Pt}(h:Eqv x v)(p:Pln):rmZ p x*v.pw=rmZ p v*x.pw:=by
 obtain⟨e1,e2,e3⟩:=h;unfold rmZ
 grind
theorem Eqv.inr{r:List Pln}{x v:Pt}(h:Eqv x v)(hw:0<x.pw)(hv:Inr r v):Inr r x:=⟨hw,λp hp=>by
 have:=h.rm p
 have h2:=Qih (hv.h p hp) (Qie hw);exact Ga8 hv.w (by rw[Qiy];omega)⟩
end Go.Ev.Ce
namespace Go.Ev.Ce
open Go Go.Ev Go.Ev.L Go.Proofs
theorem be6{p:Pln}{x:Pt}(hp:Bd p)(hx:Okx x):rm p x=rmZ p x:=by
 unfold rm rmZ;obtain⟨w1,w2,⟨a1,a2⟩,⟨a3,a4⟩,a5,a6⟩:=hx;have h0:=mb hp.b1 hp.b2 (show -600000000000<=x.pw by omega) w2
 have h1:=mb hp.x1 hp.x2 a1 a2;have h2:=mb hp.y1 hp.y2 a3 a4;have h3:=mb hp.z1 hp.z2 a5 a6;exact ca8 (by omega) (by omega)
theorem qd8{r:List Pln}(hb:Bds r){x:Pt}(hx:Okx x):inn r x=true↔Inr r x:=by
 unfold inn;rw[Qio];constructor
 ·intro h;refine⟨hx.w1,λp hp=>?_⟩
  have:=h p hp
  rw[be6 (hb p hp) hx] at this;simpa using this
 ·intro h p hp;rw[be6 (hb p hp) hx];simpa using h.h p hp
theorem je0{p q s:Pln}(h:(mpt p q s).2=true):mw p q s≠0/\∃k:Int,k≠0/\k*(mpt p q s).1.px=(mv p q s).x/\k*(mpt p q s).1.py=(mv p q s).y/\k*(mpt p q s).1.pz=(mv p q s).z/\k*(mpt p q s).1.pw=mw p q s:=by
 unfold mpt at h ⊢;by_cases h0:mw p q s=0
 ·rw[if_pos h0] at h;cases h
 refine⟨h0,?_⟩;have hg:=kd2 (v:=mv p q s) h0;have dv:∀{x:Int},(gc (mv p q s) (mw p q s))∣x->gc (mv p q s) (mw p q s)*Int.tdiv x (gc (mv p q s) (mw p q s))=x:=λh=>Qiv h
 have d1:gc (mv p q s) (mw p q s)∣(mv p q s).x:=by
  rw[<- Qiu];exact Qim.2 (Qin (Qil _ _) (Qil _ _))
 have d2:gc (mv p q s) (mw p q s)∣(mv p q s).y:=by
  rw[<- Qiu];exact Qim.2 (Qin (Qil _ _) (Qij _ _))
 have d3:gc (mv p q s) (mw p q s)∣(mv p q s).z:=by
  rw[<- Qiu];exact Qim.2 (Qin (Qij _ _) (Qil _ _))
 have d4:gc (mv p q s) (mw p q s)∣mw p q s:=by
  rw[<- Qiu];exact Qim.2 (Qin (Qij _ _) (Qij _ _))
 rw[if_neg h0];by_cases h1:mw p q s<0
 ·rw[if_pos h1];have e:∀{x:Int},(gc (mv p q s) (mw p q s))∣x->-(gc (mv p q s) (mw p q s))*Int.tdiv (-x) (gc (mv p q s) (mw p q s))=x:=λ{x} h=>by
   rw[Int.neg_mul,dv ((Int.dvd_neg).2 h),Int.neg_neg]
  exact⟨-(gc (mv p q s) (mw p q s)),by omega,e d1,e d2,e d3,e d4⟩
 ·rw[if_neg h1];exact⟨gc (mv p q s) (mw p q s),by omega,dv d1,dv d2,dv d3,dv d4⟩
theorem Md2{p q s:Pln}(h:(mpt p q s).2=true):rmZ p (mpt p q s).1=0/\rmZ q (mpt p q s).1=0/\rmZ s (mpt p q s).1=0:=by
 obtain⟨_,k,hk,e1,e2,e3,e4⟩:=je0 h;generalize (mpt p q s).1=x at *
 have f:∀a:Pln,a.b*mw p q s-(a.n.x*(mv p q s).x+a.n.y*(mv p q s).y+a.n.z*(mv p q s).z)=0->rmZ a x=0:=λa ha=>by
  rw[<- e1,<- e2,<- e3,<- e4] at ha
  have:k*rmZ a x=0:=by rw[<- ha];unfold rmZ;grind
  exact (Qif.1 this).resolve_left hk
 refine⟨f p ?_,f q ?_,f s ?_⟩<;>(simp only[mw,mv,dot,c8];grind)
theorem be7{p q s:Pln}(h:mw p q s≠0):(mpt p q s).2=true:=by
 unfold mpt;rw[if_neg h]
 split<;>rfl
theorem Md3{p q s:Pln}{x:Pt}(h1:rmZ p x=0)(h2:rmZ q x=0)(h3:rmZ s x=0):mw p q s*x.px=(mv p q s).x*x.pw/\mw p q s*x.py=(mv p q s).y*x.pw/\mw p q s*x.pz=(mv p q s).z*x.pw:=by
 have i1:(mv p q s).x*x.pw-mw p q s*x.px=(c8 q.n s.n).x*rmZ p x+(c8 s.n p.n).x*rmZ q x+(c8 p.n q.n).x*rmZ s x:=by simp only[mw,mv,dot,c8,rmZ];grind
 have i2:(mv p q s).y*x.pw-mw p q s*x.py=(c8 q.n s.n).y*rmZ p x+(c8 s.n p.n).y*rmZ q x+(c8 p.n q.n).y*rmZ s x:=by simp only[mw,mv,dot,c8,rmZ];grind
 have i3:(mv p q s).z*x.pw-mw p q s*x.pz=(c8 q.n s.n).z*rmZ p x+(c8 s.n p.n).z*rmZ q x+(c8 p.n q.n).z*rmZ s x:=by simp only[mw,mv,dot,c8,rmZ];grind
 rw[h1,h2,h3] at i1 i2 i3;simp only[Qiak,Int.add_zero] at i1 i2 i3;omega
theorem pe9{p q s:Pln}{x v:Pt}(h:mw p q s≠0)(h1:rmZ p x=0)(h2:rmZ q x=0)(h3:rmZ s x=0)(k1:rmZ p v=0)(k2:rmZ q v=0)(k3:rmZ s v=0):Eqv x v:=by
 obtain⟨a1,a2,a3⟩:=Md3 h1 h2 h3;obtain⟨c1,c2,c3⟩:=Md3 k1 k2 k3;have f:∀{a c m:Int},mw p q s*a=m*x.pw->mw p q s*c=m*v.pw->a*v.pw=c*x.pw:=λ{a c m} ha hc=>by
  have:mw p q s*(a*v.pw-c*x.pw)=0:=by grind
  have:=(Qif.1 this).resolve_left h
  omega
 exact⟨f a1 c1,f a2 c2,f a3 c3⟩
theorem Ad1{r:List Pln}{p q:Pln}{out:List Pt}{s:Pln}{x:Pt}(h:x∈out):x∈Nb8 r p q out s:=by
 unfold Nb8;split
 ·exact Qiac _ h
 ·exact h
theorem sc5{r:List Pln}{p q:Pln}{x:Pt}:∀{l:List Pln} {out:List Pt},x∈out->x∈zd6 r p q l out
 |[],_,h=>h
 |s::l,out,h=>sc5 (l:=l) (out:=Nb8 r p q out s) (Ad1 h)
theorem Ob5{r:List Pln}{p:Pln}{x:Pt}:∀{l:List Pln} {out:List Pt},x∈out->x∈Yc7 r p l out
 |[],_,h=>h
 |_::l,_,h=>Ob5 (l:=l) (sc5 h)
theorem Zc6{r:List Pln}{x:Pt}:∀{l:List Pln} {out:List Pt},x∈out->x∈kd4 r l out
 |[],_,h=>h
 |_::l,_,h=>Zc6 (l:=l) (Ob5 h)
theorem Ad2{r:List Pln}{p q:Pln}{out:List Pt}{s:Pln}(h1:(mpt p q s).2=true)(h2:inn r (mpt p q s).1=true):(mpt p q s).1∈Nb8 r p q out s:=by
 unfold Nb8;rw[h1,h2];cases h:ae7 out (mpt p q s).1 with
 |true=>simpa using (Kd3 _ _).1 h
 |false=>simp
theorem sc6{r:List Pln}{p q s:Pln}(h1:(mpt p q s).2=true)(h2:inn r (mpt p q s).1=true):∀{l:List Pln} {out:List Pt},s∈l->(mpt p q s).1∈zd6 r p q l out
 |[],_,h=>by cases h
 |t::l,out,h=>by
  show _∈zd6 r p q l (Nb8 r p q out t)
  rcases Qia.1 h with rfl|h
  ·exact sc5 (Ad2 h1 h2)
  ·exact sc6 h1 h2 h
structure Hit(r:List Pln)(Q:Pt->Prop)(p q s:Pln):Prop where
 h1:(mpt p q s).2=true
 h2:inn r (mpt p q s).1=true
 h3:Q (mpt p q s).1
theorem Zc7{r:List Pln}{Q:Pt->Prop}{p q s:Pln}(hq:Hit r Q p q s)(hs:Hit r Q p s q)(hne:q≠s):∀{l:List Pln} {out:List Pt},q∈l->s∈l->∃x∈Yc7 r p l out,Q x
 |[],_,h,_=>by cases h
 |t::l,out,hql,hsl=>by
  show ∃x∈Yc7 r p l (zd6 r p t l out),Q x
  rcases Qia.1 hql with rfl|h1
  ·have h2:=(Qia.1 hsl).resolve_left λh=>hne h.symm
   exact⟨_,Ob5 (sc6 hq.h1 hq.h2 h2),hq.h3⟩
  ·rcases Qia.1 hsl with rfl|h2
   ·exact⟨_,Ob5 (sc6 hs.h1 hs.h2 h1),hs.h3⟩
   ·exact Zc7 hq hs hne (l:=l) h1 h2
theorem Zc8 {r : List Pln} {Q : Pt → Prop} {p q s : Pln} (H : ∀ a c d, (a = p ∨ a = q ∨ a = s) → (c = p ∨ c = q ∨ c = s) → (d = p ∨ d = q ∨ d = s) → a ≠ c → c ≠ d → a ≠ d → Hit r Q a c d) (h1 : p ≠ q) (h2 : q ≠ s) (h3 : p ≠ s) :
  ∀{l:List Pln} {out:List Pt},p∈l->q∈l->s∈l->∃x∈kd4 r l out,Q x
 |[],_,h,_,_=>by cases h
 |t::l,out,hp,hq,hs=>by
  have fin:∀{a c d:Pln} {out:List Pt},(a=p\/a=q\/a=s)->(c=p\/c=q\/c=s)->(d=p\/d=q\/d=s)->a≠c->c≠d->a≠d->c∈l->d∈l->∃x∈kd4 r l (Yc7 r a l out),Q x:=λha hc hd n1 n2 n3 m1 m2=>by
   obtain⟨x,hx,hQ⟩:=Zc7 (H _ _ _ ha hc hd n1 n2 n3) (H _ _ _ ha hd hc n3 n2.symm n1) n2 (out:=_) m1 m2;exact⟨x,Zc6 hx,hQ⟩
  show ∃x∈kd4 r l (Yc7 r t l out),Q x
  rcases Qia.1 hp with rfl|hp'
  ·exact fin (.inl rfl) (.inr (.inl rfl)) (.inr (.inr rfl)) h1 h2 h3 ((Qia.1 hq).resolve_left (Ne.symm h1)) ((Qia.1 hs).resolve_left (Ne.symm h3))
  ·rcases Qia.1 hq with rfl|hq'
   ·exact fin (.inr (.inl rfl)) (.inl rfl) (.inr (.inr rfl)) (Ne.symm h1) h3 h2 hp' ((Qia.1 hs).resolve_left (Ne.symm h2))
   ·rcases Qia.1 hs with rfl|hs'
    ·exact fin (.inr (.inr rfl)) (.inl rfl) (.inr (.inl rfl)) (Ne.symm h3) h1 (Ne.symm h2) hp' hq'
    ·exact Zc8 H h1 h2 h3 hp' hq' hs'
theorem ze3{p q s:Pln}(h:mw p q s≠0):p≠q/\q≠s/\p≠s:=by
 refine⟨λe=>h ?_,λe=>h ?_,λe=>h ?_⟩<;>(subst e;simp only[mw,dot,c8];grind)
theorem qe0{r:List Pln}(hb:Bds r):∀x∈cor r,Cn r x:=qd3 λp hp q hq s hs h hi=>by
 obtain⟨w1,w2,w3,w4,w5⟩:=kd3 (hb p hp) (hb q hq) (hb s hs) h;obtain⟨e1,e2,e3⟩:=Md2 h;exact⟨(qd8 hb ⟨w1,w5,w2,w3,w4⟩).1 hi,p,q,s,hp,hq,hs,(je0 h).1,e1,e2,e3⟩
theorem qe1{r:List Pln}(hb:Bds r){v:Pt}(hv:Cn r v):∃x∈cor r,Eqv x v:=by
 obtain⟨p,q,s,hp,hq,hs,hw,e1,e2,e3⟩:=hv.c;obtain⟨n1,n2,n3⟩:=ze3 hw;refine Zc8 (λa c d ha hc hd m1 m2 m3=>?_) n1 n2 n3 hp hq hs
 have hm:∀{a},(a=p\/a=q\/a=s)->a∈r/\rmZ a v=0:=λh=>by
  rcases h with rfl|rfl|rfl
  ·exact⟨hp,e1⟩
  ·exact⟨hq,e2⟩
  ·exact⟨hs,e3⟩
 have hw':mw a c d≠0:=by
  have k:mw a c d=mw p q s\/mw a c d=-mw p q s:=by
   rcases ha with rfl|rfl|rfl<;>rcases hc with rfl|rfl|rfl<;>rcases hd with rfl|rfl|rfl<;>first|exact absurd rfl m1|exact absurd rfl m2|exact absurd rfl m3|exact .inl rfl|(left;simp only[mw,dot,c8];grind;done)|(right;simp only[mw,dot,c8];grind;done)
  rcases k with k|k<;>omega
 have h:=be7 hw';obtain⟨w1,w2,w3,w4,w5⟩:=kd3 (hb a (hm ha).1) (hb c (hm hc).1) (hb d (hm hd).1) h;obtain⟨f1,f2,f3⟩:=Md2 h;have he:=pe9 hw' f1 f2 f3 (hm ha).2 (hm hc).2 (hm hd).2;exact⟨h,(qd8 hb ⟨w1,w5,w2,w3,w4⟩).2 (he.inr w1 hv.toInr),he⟩
theorem Md4(c:List Pln):Bdd (c++ws):=λd hd=>by
 have k:∀{n:V3} {m:Int},(⟨n,m⟩:Pln)∈ws->0<dot n d->∃p∈c++ws,0<dot p.n d:=λh h'=>⟨_,List.mem_append_right _ h,h'⟩
 by_cases h1:0<d.x
 ·exact k (n:=⟨1,0,0⟩) (m:=24) (by simp[ws]) (by unfold dot;simp;omega)
 by_cases h2:d.x<0
 ·exact k (n:=⟨-1,0,0⟩) (m:=24) (by simp[ws]) (by unfold dot;simp;omega)
 by_cases h3:0<d.y
 ·exact k (n:=⟨0,1,0⟩) (m:=24) (by simp[ws]) (by unfold dot;simp;omega)
 by_cases h4:d.y<0
 ·exact k (n:=⟨0,-1,0⟩) (m:=24) (by simp[ws]) (by unfold dot;simp;omega)
 by_cases h5:0<d.z
 ·exact k (n:=⟨0,0,1⟩) (m:=24) (by simp[ws]) (by unfold dot;simp;omega)
 by_cases h6:d.z<0
 ·exact k (n:=⟨0,0,-1⟩) (m:=24) (by simp[ws]) (by unfold dot;simp;omega)
 exact absurd (V3.ext' (by show d.x=0;omega) (by show d.y=0;omega) (by show d.z=0;omega)) hd
theorem qd9{r:List Pln}(hb:Bds r){p:Pln}(hp:Bd p):pos (cor r) p=true↔∃v,Cn r v/\0<rmZ p v:=by
 unfold pos;rw[Qik];constructor
 ·rintro⟨x,hx,h⟩;rw[be6 hp (Nc7 hb x hx)] at h;exact⟨x,qe0 hb x hx,by simpa using h⟩
 ·rintro⟨v,hv,h⟩;obtain⟨x,hx,he⟩:=qe1 hb hv;refine⟨x,hx,?_⟩;rw[be6 hp (Nc7 hb x hx)];have h1:=he.rm p;have h2:=Qir h (Nc7 hb x hx).w1
  have:0<rmZ p x:=Int.lt_of_mul_lt_mul_right (by rw[Qiy];omega:0*v.pw<rmZ p x*v.pw) (Qie hv.w)
  simpa using this
theorem Ad3{r:List Pln}(hb:Bds r)(hd:Bdd r)(h0:r≠[]):be0 r=true↔Md0 r:=by
 rw[Md1 hd h0];unfold be0;rw[Qio];exact⟨λh p hp=>(qd9 hb (hb p hp)).1 (h p hp),λh p hp=>(qd9 hb (hb p hp)).2 (h p hp)⟩
end Go.Ev.Ce
namespace Go.Ev.Ce
def dv(z v:Pt):V3:=⟨v.px*z.pw-z.px*v.pw,v.py*z.pw-z.py*v.pw,v.pz*z.pw-z.pz*v.pw⟩
def thr(n:V3)(z:Pt):Pln:=⟨⟨z.pw*n.x,z.pw*n.y,z.pw*n.z⟩,n.x*z.px+n.y*z.py+n.z*z.pz⟩
theorem Md5(n:V3)(z x:Pt):rmZ (thr n z) x=-dot n (dv z x):=by simp only[rmZ,thr,dot,dv];grind
theorem Md6{p:Pln}{z v:Pt}(hz:rmZ p z≠0)(hv:rmZ p v=0)(hw:0<v.pw):dv z v≠⟨0,0,0⟩:=λh=>by
 unfold dv at h;simp only[V3.mk.injEq] at h;obtain⟨e1,e2,e3⟩:=h
 have:rmZ p z*v.pw=rmZ p v*z.pw:=by unfold rmZ;grind
 rw[hv,Qiy] at this;exact (Qif.1 this).elim hz (by omega)
theorem qe2{p:Pln}{z:Pt}(hz:rmZ p z≠0):∀l:List Pt,l.length<=2->(∀v∈l,rmZ p v=0/\0<v.pw)->∃n,n≠(⟨0,0,0⟩:V3)/\∀v∈l,dot n (dv z v)=0
 |[],_,_=>⟨⟨1,0,0⟩,by simp,λv h=>by cases h⟩
 |[v],_,h=>by
  obtain⟨h1,h2⟩:=h v (by simp)
  obtain⟨d,hd,he⟩:=perp (Md6 hz h1 h2);exact⟨d,hd,λu hu=>by rw[List.mem_singleton.1 hu,<- he];unfold dot;grind⟩
 |[v,u],_,h=>by
  obtain⟨h1,h2⟩:=h v (by simp)
  by_cases hc:c8 (dv z v) (dv z u)=⟨0,0,0⟩
  ·obtain⟨d,hd,he⟩:=perp (Md6 hz h1 h2);have hu:dot (dv z u) d=0:=by
    by_cases h0:dot (dv z u) d=0
    ·exact h0
    ·exact absurd hc (Zc5 (Md6 hz h1 h2) he h0)
   refine⟨d,hd,λx hx=>?_⟩
   simp only[Qia,Qiaa,or_false] at hx
   rcases hx with rfl|rfl
   ·rw[<- he];unfold dot;grind
   ·rw[<- hu];unfold dot;grind
  ·refine⟨_,hc,λx hx=>?_⟩
   simp only[Qia,Qiaa,or_false] at hx
   rcases hx with rfl|rfl
   ·rw[<- Zb9 (dv z x) (dv z u)];unfold dot;grind
   ·rw[<- ac0 (dv z v) (dv z x)];unfold dot;grind
 |_::_::_::_,h,_=>by simp at h
def qe3(p:Pln)(z v:Pt):Pt:=⟨rmZ p v*z.px-rmZ p z*v.px,rmZ p v*z.py-rmZ p z*v.py,rmZ p v*z.pz-rmZ p z*v.pz,rmZ p v*z.pw-rmZ p z*v.pw⟩
theorem Oc3(p q:Pln)(z v:Pt):rmZ q (qe3 p z v)=rmZ p v*rmZ q z-rmZ p z*rmZ q v:=by
 generalize ha:rmZ p v=a;generalize hb:rmZ p z=c;simp only[rmZ,qe3] at *
 rw[ha,hb]
 grind
theorem Md7{r:List Pln}(hb:Bdd r)(hB:Md0 r){h:Pln}(hn:h.n≠⟨0,0,0⟩):¬ ∀x,Inr r x->rmZ h x=0:=λH=>by
 obtain⟨x,hw,hx⟩:=hB;have hi:Inr r x:=⟨hw,λp hp=>Qie (hx p hp)⟩
 obtain⟨q,hq,h1,h2⟩:=step hi h.n (hb h.n hn);have h3:=H _ h2;rw[Zc4,H _ hi] at h3;have h4:=hx q hq;have h5:0<dot h.n h.n:=by
  have k:∀a:Int,a≠0->0<a*a:=λa ha=>by
   rcases Int.lt_or_gt_of_ne ha with h|h
   ·exact Int.mul_pos_of_neg_of_neg h h
   ·exact Qir h h
  have k0:∀a:Int,0<=a*a:=λa=>by
   by_cases h:a=0
   ·subst h;decide
   ·exact Qie (k a h)
  have a1:=k0 h.n.x;have a2:=k0 h.n.y;have a3:=k0 h.n.z;unfold dot;by_cases c1:h.n.x=0
  ·by_cases c2:h.n.y=0
   ·have:=k h.n.z (λc3=>hn (V3.ext' c1 c2 c3));omega
   ·have:=k _ c2;omega
  ·have:=k _ c1;omega
 have:=Qir h4 h5
 omega
theorem ze4 {r r' : List Pln} {p : Pln} (hb : Bdd r) (hB : Md0 r) (hp : p ∈ r) (hr : ∀ q ∈ r, q ∈ r' ∨ q = p)
  (l:List Pt) (hl:l.length<=2) (hl0:∀v∈l,rmZ p v=0/\0<v.pw) (hc:∀v,Cn r v->rmZ p v=0->∃x∈l,Eqv x v) {z:Pt} (hz:Inr r' z):Inr r z:=by
 by_cases h0:0<=rmZ p z
 ·exact⟨hz.w,λq hq=>(hr q hq).elim (hz.h q) λe=>e ▸ h0⟩
 exfalso;have hneg:rmZ p z<0:=by omega
 obtain⟨n,hn,hv⟩:=qe2 (p:=p) (z:=z) (by omega) l hl hl0
 have hn':(thr n z).n≠⟨0,0,0⟩:=λe=>hn (by
  unfold thr at e;simp only[V3.mk.injEq] at e;have k:∀{a:Int},z.pw*a=0->a=0:=λh=>(Qif.1 h).resolve_left (by have:=hz.w;omega)
  exact V3.ext' (k e.1) (k e.2.1) (k e.2.2))
 -- the face lies in that plane
 have hface:∀u,Inr r u->rmZ p u=0->rmZ (thr n z) u=0:=λu hu hu0=>by
  have hbd:Bdd (Y8 p::r):=λd hd=>by
   obtain⟨q,hq,h⟩:=hb d hd;exact⟨q,Qib _ hq,h⟩
  have hiu:Inr (Y8 p::r) u:=⟨hu.w,λq hq=>by
   rcases Qia.1 hq with rfl|hq
   ·rw[Ua6,hu0];decide
   ·exact hu.h q hq⟩
  have hvx:∀v,Cn (Y8 p::r) v->rmZ (thr n z) v=0:=λv hcv=>by
   have hir:Inr r v:=⟨hcv.w,λq hq=>hcv.h q (Qib _ hq)⟩
   have hp0:rmZ p v=0:=by
    have h1:=hcv.h (Y8 p) Qic;rw[Ua6] at h1;have h2:=hir.h p hp;omega
   obtain⟨a,c,d,ha,hc',hd,hw,e1,e2,e3⟩:=hcv.c
   -- a plane that is turned round gives the same kd6
   have fl:∀{a c d:Pln},mw (Y8 a) c d=-mw a c d/\mw c (Y8 a) d=-mw c a d/\mw c d (Y8 a)=-mw c d a:=λ{a c d}=>by
    refine⟨?_,?_,?_⟩<;>(simp only[mw,dot,c8,Y8];grind)
   have hr0:∀{a:Pln},rmZ (Y8 a) v=0->rmZ a v=0:=λh=>by rw[Ua6] at h;omega
   have hcn:Cn r v:=by
    refine⟨hir,?_⟩
    rcases Qia.1 ha with rfl|ha<;>rcases Qia.1 hc' with rfl|hc'<;>rcases Qia.1 hd with rfl|hd
    ·exact absurd (by simp only[mw,dot,c8];grind) hw
    ·exact absurd (by simp only[mw,dot,c8];grind) hw
    ·exact absurd (by simp only[mw,dot,c8];grind) hw
    ·exact⟨p,c,d,hp,hc',hd,by have:=(fl (a:=p) (c:=c) (d:=d)).1;omega,hp0,e2,e3⟩
    ·exact absurd (by simp only[mw,dot,c8];grind) hw
    ·exact⟨a,p,d,ha,hp,hd,by have:=(fl (a:=p) (c:=a) (d:=d)).2.1;omega,e1,hp0,e3⟩
    ·exact⟨a,c,p,ha,hc',hp,by have:=(fl (a:=p) (c:=a) (d:=c)).2.2;omega,e1,e2,hp0⟩
    ·exact⟨a,c,d,ha,hc',hd,hw,e1,e2,e3⟩
   obtain⟨x,hx,he⟩:=hc v hcn hp0;have h1:=he.rm (thr n z);rw[Md5 n z x,hv x hx] at h1;have h1:rmZ (thr n z) v*x.pw=0:=by omega
   exact (Qif.1 h1).resolve_right (by have:=(hl0 x hx).2;omega)
  have a1:=ka4 hbd (h:=thr n z) (λv hv=>by rw[hvx v hv];decide) hiu
  have a2:=ka4 hbd (h:=Y8 (thr n z)) (λv hv=>by rw[Ua6,hvx v hv];decide) hiu
  rw[Ua6] at a2;omega
 -- so do all vertices
 have hall:∀v,Inr r v->rmZ (thr n z) v=0:=λv hi=>by
  by_cases hv0:rmZ p v=0
  ·exact hface v hi hv0
  have hvp:0<rmZ p v:=by have:=hi.h p hp;omega
  have hu:Inr r (qe3 p z v):=by
   have w1:=Qir hvp hz.w;have w2:rmZ p z*v.pw<0:=Int.mul_neg_of_neg_of_pos hneg hi.w;refine⟨by show 0<rmZ p v*z.pw-rmZ p z*v.pw;omega,λq hq=>?_⟩
   rw[Oc3]
   rcases hr q hq with h|rfl
   ·have b1:=Qih (Qie hvp) (hz.h q h);have b2:rmZ p z*rmZ q v<=0:=Int.mul_nonpos_of_nonpos_of_nonneg (Qie hneg) (hi.h q hq);omega
   ·have:=Int.mul_comm (rmZ q v) (rmZ q z);omega
  have h1:=hface _ hu (by rw[Oc3];have:=Int.mul_comm (rmZ p v) (rmZ p z);omega)
  rw[Oc3] at h1;have h2:rmZ (thr n z) z=0:=by rw[Md5];simp only[dot,dv];grind
  rw[h2] at h1;have h1:rmZ p z*rmZ (thr n z) v=0:=by omega
  exact (Qif.1 h1).resolve_left (by omega)
 exact Md7 hb hB hn' hall
end Go.Ev.Ce
namespace Go.Ev.Ce
open Go Go.Ev Go.Ev.L Go.Proofs
def phP(out:List Pln):Nat:=match out with
 |[]=>0
 |_::_=>1
def Q3(p:Pln)(v:V3):Int:=if okp p&&inV v then (if dot p.n v-p.b<0 then -1 else if dot p.n v-p.b>0 then 1 else 0) else 0
theorem Md8{p:Pln}{v:V3}(hp:Bd p)(hv:inV v=true):Sm 331776 (dot p.n v):=by
 obtain⟨⟨a1,a2⟩,⟨a3,a4⟩,a5,a6⟩:=(ra8 v).1 hv;have r1:=mb hp.x1 hp.x2 a1 a2;have r2:=mb hp.y1 hp.y2 a3 a4;have r3:=mb hp.z1 hp.z2 a5 a6;unfold Sm dot;omega
theorem be8(p:Pln)(v:V3):wa6 p v=some (i (Q3 p v),[]):=by
 unfold wa6 Q3;simp only[Kd6,Yc6,ie7,Kd9];cases hp:okp p with
 |false=>rfl
 |true =>
  cases hv:inV v with
  |false=>rfl
  |true =>
   have hb:=Gb4 hp;have hd:=Md8 hb hv;have e:Da5 p.n v=dot p.n v:=by
    unfold Da5;simp only[Gb0,Ub7];exact nb3 (hd.mono (by omega))
   have e2:W (dot p.n v-p.b)=dot p.n v-p.b:=ca8 (by have:=hd.1;have:=hb.b2;omega) (by have:=hd.2;have:=hb.b1;omega)
   rw[e,e2];by_cases h1:dot p.n v-p.b<0
   ·simp only[Qip,if_true,h1,decide_true];rfl
   ·by_cases h2:dot p.n v-p.b>0
    ·simp only[Qip,if_true,h1,h2,decide_true,decide_false,if_false];rfl
    ·simp only[Qip,if_true,h1,h2,decide_false,if_false];rfl
theorem qe4(p:Pln)(v:V3):jb1 p v=Q3 p v:=by unfold jb1;rw[be8];rfl
theorem Ob6{p:Pln}{v:V3}(hp:okp p=true)(hv:inV v=true):Q3 p v>0↔dot p.n v>p.b:=by
 unfold Q3;rw[hp,hv];simp only[Qip,if_true];split
 ·omega
 ·split<;>omega
theorem fb8{p:Pln}{v:V3}(hp:okp p=true)(hv:inV v=true):Q3 p v=0↔dot p.n v=p.b:=by
 unfold Q3;rw[hp,hv];simp only[Qip,if_true];split
 ·omega
 ·split<;>omega
theorem qe5(v:V3):g3 v∣v.x/\g3 v∣v.y/\g3 v∣v.z:=by
 unfold g3;refine⟨?_,?_,?_⟩<;>rw[<- Qiu]<;>apply Qim.2
 ·exact Qin (Qil _ _) (Qil _ _)
 ·exact Qin (Qil _ _) (Qij _ _)
 ·exact Qij _ _
theorem qe6(v:V3)(h:g3 v≠0):g3 ⟨Int.tdiv v.x (g3 v),Int.tdiv v.y (g3 v),Int.tdiv v.z (g3 v)⟩=1:=by
 generalize hg:g3 v=g at *
 have h0:0<=g:=hg ▸ wb8 v;obtain⟨n,rfl⟩:∃n:Nat,g=n:=⟨g.toNat,by omega⟩
 have hn:0<n:=by omega
 have hgn:Nat.gcd (Nat.gcd v.x.natAbs v.y.natAbs) v.z.natAbs=n:=by unfold g3 at hg;omega
 have d1:n∣Nat.gcd v.x.natAbs v.y.natAbs:=hgn ▸ Qil _ _;have d3:n∣v.z.natAbs:=hgn ▸ Qij _ _;have d4:n∣v.x.natAbs:=Qin d1 (Qil _ _);have d5:n∣v.y.natAbs:=Qin d1 (Qij _ _);unfold g3;simp only[Int.natAbs_tdiv,Int.natAbs_natCast];show ((Nat.gcd (Nat.gcd (v.x.natAbs / n) (v.y.natAbs / n)) (v.z.natAbs / n):Nat):Int)=1;rw[Nat.gcd_div d4 d5,Nat.gcd_div d1 d3,hgn,Nat.div_self hn];rfl
structure Thr(a b c:V3)(p:Pln):Prop where
 ok:okp p=true
 k:∃g:Int,0<g/\g*p.n.x=(c8 (sub b a) (sub c a)).x/\g*p.n.y=(c8 (sub b a) (sub c a)).y/\g*p.n.z=(c8 (sub b a) (sub c a)).z
 o:p.b=dot p.n a
theorem da4{a b c:V3}(h:(A7 a b c).2=true):(inV a=true/\inV b=true/\inV c=true)/\Thr a b c (A7 a b c).1:=by
 unfold A7 at h ⊢;cases ha:inV a with
 |false=>rw[ha] at h;cases h
 |true =>
  cases hb:inV b with
  |false=>rw[ha,hb] at h;cases h
  |true =>
   cases hc:inV c with
   |false=>rw[ha,hb,hc] at h;cases h
   |true =>
    rw[ha,hb,hc] at h;simp only[Qip,if_true] at h ⊢;obtain⟨_,k1,k2,k3⟩:=bb9 ha hb hc;generalize hn:c8 (sub b a) (sub c a)=n at *
    by_cases h0:g3 n=0
    ·rw[if_pos h0] at h;cases h
    ·rw[if_neg h0];have hp:=wb8 n;obtain⟨d1,d2,d3⟩:=qe5 n;have q1:=da3 (g:=g3 n) k1 (by omega)
     have q2:=da3 (g:=g3 n) k2 (by omega)
     have q3:=da3 (g:=g3 n) k3 (by omega)
     refine⟨⟨trivial,trivial,trivial⟩,⟨?_,⟨g3 n,by omega,by rw[hn];exact Qiv d1,by rw[hn];exact Qiv d2,by rw[hn];exact Qiv d3⟩,rfl⟩⟩
     obtain⟨⟨a1,a2⟩,⟨a3,a4⟩,a5,a6⟩:=(ra8 a).1 ha;have r1:=mb q1.1 q1.2 a1 a2;have r2:=mb q2.1 q2.2 a3 a4;have r3:=mb q3.1 q3.2 a5 a6;unfold okp;rw[qe6 n h0];simp only[List.all_cons,List.all_nil,Qig,Qid,jb8,beq_self_eq_true,true_and,and_true];refine⟨⟨q1,q2,q3⟩,?_⟩;unfold Sm dot
     simp only
     omega
theorem be9(a b c:V3):Bd (A7 a b c).1:=by
 cases h:(A7 a b c).2 with
 |true=>exact Gb4 (da4 h).2.ok
 |false =>
  have:(A7 a b c).1=⟨⟨0,0,0⟩,0⟩:=by
   unfold A7 at h ⊢;split
   ·rename_i hc;rw[if_pos hc] at h;split
    ·rfl
    ·rename_i h0;rw[if_neg h0] at h;cases h
   ·rfl
  rw[this]
  constructor<;>simp
theorem Ob7{p:Pln}(h:okp p=true):okp (Y8 p)=true:=by
 unfold okp Y8 g3 at *
 simp only[List.all_cons,List.all_nil,Qig,Qid,jb8,Int.natAbs_neg] at h ⊢;obtain⟨⟨h1,h2,h3⟩,h4,h5⟩:=h;exact⟨⟨h1.neg,h2.neg,h3.neg⟩,h4,h5.neg⟩
noncomputable def Ad4(l:List V3)(p:Pln):Bool:=l.any λv=>Q3 p v != 0
noncomputable def nf(l:List V3)(a c k:Nat):Bool:=(A7 (gL tV l a) (gL tV l c) (gL tV l k)).2&&Ad4 l (A7 (gL tV l a) (gL tV l c) (gL tV l k)).1
noncomputable def nf2(l:List V3)(a c:Nat):Bool:=(List.range c).any (nf l a c)
noncomputable def nf1(l:List V3)(a:Nat):Bool:=(List.range a).any (nf2 l a)
noncomputable def nf0(l:List V3):Bool:=(List.range l.length).any (nf1 l)
theorem sc7 {σ : Type} {step : σ → Stp σ} {mk : Nat → σ} (n : Nat) (c : Nat → Bool) (u fin : Nat) (hn : n ≤ 1000000000) (h : ∀ j, j < n → step (mk j) = sl (c j) (.exit u) (.next (mk (j + 1)))) (hf : step (mk n) = .exit fin) :
  ∃j,lp step (mk 0)=(if (List.range n).any c then u else fin,mk j):=by
 have key:=X4 (step:=step) (mk:=λj (_:Unit)=>mk j) n (λj _=>j<=n/\∀i,i<j->c i=false) (λt s=>t=(if (List.range n).any c then u else fin)/\∃j,s=mk j) hn
  (λj _ hj hi=>by
   rw[h j hj];refine Nx.sl (λhc=>.ex ⟨?_,j,rfl⟩) (λhc=>.nx ⟨(),rfl,by omega,λi hi'=>?_⟩)
   ·rw[if_pos (Qik.2 ⟨j,Qian.2 hj,hc⟩)]
   ·by_cases e:i=j
    ·rw[e];exact hc
    ·exact hi.2 i (by omega))
  (λj _ hj hi=>by
   have e:j=n:=by omega
   subst e;refine⟨fin,hf,?_,j,rfl⟩;rw[if_neg λhh=>?_]
   obtain⟨i,hi1,hi2⟩:=Qik.1 hh;rw[hi.2 i (Qian.1 hi1)] at hi2;cases hi2) 0 () ⟨by omega,by omega⟩
 obtain⟨t,s,h1,rfl,j,rfl⟩:=key;exact⟨j,h1⟩
theorem Md9(l:List V3)(x1 x2 x3:Int)(okb:Bool)(p:Pln)(hl:l.length<=1000000000):∃t s,lp (s9 ⟨l,x1,x2,x3,okb,p.n.x,p.n.y,p.n.z,p.b⟩) ⟨0⟩=(t,s)/\(((okb&&Ad4 l p)=true/\t=1)\/((okb&&Ad4 l p)=false/\(t=2\/t=3))):=by
 cases okb with
 |false =>
  cases l with
  |nil =>
   refine⟨3,⟨0⟩,?_,.inr ⟨rfl,.inr rfl⟩⟩;exact qd6 (step:=s9 ⟨[],x1,x2,x3,false,p.n.x,p.n.y,p.n.z,p.b⟩) rfl
  |cons v l =>
   refine⟨2,⟨0⟩,?_,.inr ⟨rfl,.inl rfl⟩⟩;refine qd6 (step:=s9 ⟨v::l,x1,x2,x3,false,p.n.x,p.n.y,p.n.z,p.b⟩) ?_;simp only[s9,R8];rw[btD (by simp only[List.length_cons];omega)]
   rfl
 |true =>
  have h:=Kd0 (step:=s9 ⟨l,x1,x2,x3,true,p.n.x,p.n.y,p.n.z,p.b⟩) (mk:=λj=>(⟨(j:Int)⟩:W6)) (c:=λv=>Q3 p v != 0) (u:=1) (fin:=3) tV l hl
   (λj hj=>by
    simp only[s9,R8,Ld0,qe4,Int.toNat_natCast,D0 hj (show l.length<=4611686018427387904 by omega)]
    rw[btD (q7 hj),bt (i8 hj)]
    rfl)
   (by simp only[s9,R8];rw[bfD (A6 (Qiw _))]) 0 (Nat.zero_le _)
  rw[Qiam] at h;have h:(lp (s9 ⟨l,x1,x2,x3,true,p.n.x,p.n.y,p.n.z,p.b⟩) ⟨0⟩).1=_:=h;cases hlp:lp (s9 ⟨l,x1,x2,x3,true,p.n.x,p.n.y,p.n.z,p.b⟩) ⟨0⟩ with
  |mk t s =>
  rw[hlp] at h;refine⟨t,s,rfl,?_⟩
  simp only at h
  rw[h];unfold Ad4;cases hh:l.any λv=>Q3 p v != 0 with
  |true=>exact .inl ⟨rfl,rfl⟩
  |false=>exact .inr ⟨rfl,.inr rfl⟩
theorem Nd0(l:List V3)(hl:l.length<=1000000000)(a c:Nat)(ha:a<l.length)(hc:c<a):∃j,lp (L1 ⟨(a:Int),(c:Int)⟩) ⟨l,0⟩=(if nf2 l a c then 1 else 2,⟨l,((j:Nat):Int)⟩) :=
 sc7 (step:=L1 ⟨(a:Int),(c:Int)⟩) (mk:=λj=>(⟨l,(j:Int)⟩:W7)) c (nf l a c) 1 2 (by omega)
  (λj hj=>by
   simp only[L1,Z7,zd7,Fc4,Int.toNat_natCast,o6,l9,D0 hj (show c<=4611686018427387904 by omega)]
   rw[btD (q7 hj),bt (i8 ha),bt (i8 (show c<l.length by omega)),bt (i8 (show j<l.length by omega)),u9]
   obtain⟨t,s,h1,h2⟩:=Md9 l (a:Int) (c:Int) (j:Int) (A7 (gL tV l a) (gL tV l c) (gL tV l j)).2 (A7 (gL tV l a) (gL tV l c) (gL tV l j)).1 hl;rw[h1];unfold nf
   rcases h2 with⟨e,rfl⟩|⟨e,rfl|rfl⟩<;>rw[e]<;>rfl)
  (by simp only[L1,Z7];rw[bfD (A6 (Qiw _))])
theorem Nd1(l:List V3)(hl:l.length<=1000000000)(a:Nat)(ha:a<l.length):∃j,lp (L2 ⟨(a:Int)⟩) ⟨l,0⟩=(if nf1 l a then 1 else 2,⟨l,((j:Nat):Int)⟩) :=
 sc7 (step:=L2 ⟨(a:Int)⟩) (mk:=λj=>(⟨l,(j:Int)⟩:W8)) a (nf2 l a) 1 2 (by omega)
  (λj hj=>by
   obtain⟨j',h1⟩:=Nd0 l hl a j ha hj;simp only[L2,Z8,o6,l9,D0 hj (show a<=4611686018427387904 by omega)]
   rw[btD (q7 hj),h1];cases nf2 l a j<;>rfl)
  (by simp only[L2,Z8];rw[bfD (A6 (Qiw _))])
theorem ce0(l:List V3)(hl:l.length<=1000000000):wa7 l=some (b (!nf0 l),[]):=by
 obtain⟨j,h⟩:=sc7 (step:=L3 ⟨⟩) (mk:=λj=>(⟨l,(j:Int)⟩:W9)) l.length (nf1 l) 1 2 hl
  (λj hj=>by
   obtain⟨j',h1⟩:=Nd1 l hl j hj;simp only[L3,Z9,o6,l9,D0 hj (show l.length<=4611686018427387904 by omega)]
   rw[btD (q7 hj),h1];cases nf1 l j<;>rfl)
  (by simp only[L3,Z9];rw[bfD (A6 (Qiw _))])
 have h:lp (L3 ⟨⟩) ⟨l,0⟩=(if nf0 l then 1 else 2,⟨l,((j:Nat):Int)⟩):=h
 unfold wa7;simp only[o6,l9];rw[h];cases nf0 l<;>rfl
theorem qe7(l:List V3)(hl:l.length<=1000000000):Sa6 l=!nf0 l:=by unfold Sa6;rw[ce0 l hl];rfl
def hold(p:Pln)(l:List V3):Bool:=!l.any λv=>decide (Q3 p v>0)
noncomputable def Zc9 (l:List V3) (a c:Nat) (out:List Pln) (k:Nat):List Pln :=
  if (A7 (gL tV l a) (gL tV l c) (gL tV l k)).2 then
    (if hold (Y8 (A7 (gL tV l a) (gL tV l c) (gL tV l k)).1) l then Oc1 (if hold (A7 (gL tV l a) (gL tV l c) (gL tV l k)).1 l then Oc1 out (A7 (gL tV l a) (gL tV l c) (gL tV l k)).1 else out) (Y8 (A7 (gL tV l a) (gL tV l c) (gL tV l k)).1)
     else (if hold (A7 (gL tV l a) (gL tV l c) (gL tV l k)).1 l then Oc1 out (A7 (gL tV l a) (gL tV l c) (gL tV l k)).1 else out))
  else out
noncomputable def F2(l:List V3)(a:Nat)(out:List Pln)(c:Nat):List Pln:=(List.range c).foldl (Zc9 l a c) out
noncomputable def F1(l:List V3)(out:List Pln)(a:Nat):List Pln:=(List.range a).foldl (F2 l a) out
noncomputable def F0(l:List V3):List Pln:=(List.range l.length).foldl (F1 l) []
theorem F8 {τ:Type} (f:τ→Nat→τ) (a:τ) (n:Nat):(List.range (n+1)).foldl f a=f ((List.range n).foldl f a) n:=by
  rw[List.range_succ,List.foldl_append];rfl
theorem sc8 {f:List Pln→Nat→List Pln} {m:Nat} (h:∀ o k,(f o k).length≤o.length+m) (o:List Pln):∀ n,((List.range n).foldl f o).length≤o.length+m*n
  |0=>Nat.le_refl _
  | n+1=>by
    rw[F8];have h1:=h ((List.range n).foldl f o) n;have h2:=sc8 h o n;rw[Nat.mul_succ];omega
def Ob8(l:List Pln)(p:Pln):Bool:=l.any λq=>eqP q p
theorem ad1(l:List Pln)(p:Pln):Ob8 l p=true↔p∈l:=by
 unfold Ob8;rw[Qik];exact⟨λ⟨q,h,e⟩=>by rw[Ob1] at e;exact e ▸ h,λh=>⟨p,h,(Ob1 p p).2 rfl⟩⟩
def ipt(v:V3):Pt:=⟨v.x,v.y,v.z,1⟩
theorem qe8{v:V3}(h:inV v=true):∀p∈ws,0<=rmZ p (ipt v):=by
 obtain⟨⟨a1,a2⟩,⟨a3,a4⟩,a5,a6⟩:=(ra8 v).1 h;intro p hp;simp only[ws,Qia,Qiaa,or_false] at hp
 rcases hp with rfl|rfl|rfl|rfl|rfl|rfl<;>simp only[rmZ,ipt]<;>omega
theorem sc9{p:Pln}(h:okp p=true):g3 p.n=1:=by
 unfold okp at h;simp only[Qid,beq_iff_eq] at h;exact h.2.1
theorem Ya8{p:Pln}(h:okp p=true):p.n≠⟨0,0,0⟩:=λe=>by
 have:=sc9 h
 rw[e] at this
 revert this
 decide
theorem Nd2(c:Int)(n:V3):g3 ⟨c*n.x,c*n.y,c*n.z⟩=c.natAbs*g3 n:=by
 unfold g3;simp only[Int.natAbs_mul,Nat.gcd_mul_left];rw[Int.natCast_mul]
theorem ad2{m n:V3}(hm:g3 m=1)(hn:g3 n=1)(h:c8 m n=⟨0,0,0⟩):n=m\/n=neg m:=by
 unfold c8 at h;simp only[V3.mk.injEq] at h;obtain⟨c1,c2,c3⟩:=h;have k:∀{c d:Int},c*m.x=d*n.x->c*m.y=d*n.y->c*m.z=d*n.z->c.natAbs=d.natAbs:=λ{c d} e1 e2 e3=>by
  have a1:=Nd2 c m;have a2:=Nd2 d n;rw[e1,e2,e3,a2,hm,hn] at a1;omega
 have ax:=k (c:=n.x) (d:=m.x) (by grind) (by grind) (by grind)
 have ay:=k (c:=n.y) (d:=m.y) (by grind) (by grind) (by grind)
 have az:=k (c:=n.z) (d:=m.z) (by grind) (by grind) (by grind)
 have sg:∀{a c:Int},a.natAbs=c.natAbs->a=c\/a=-c:=λh=>by omega
 -- the sign of one component that is not zero is that of all
 have go:∀{s u t v:Int},u≠0->s*v=u*t->s=u->t=v:=λ{s u t v} hu h e=>by
  subst e;exact (Qiai hu h).symm
 have gn:∀{s u t v:Int},u≠0->s*v=u*t->s=-u->t=-v:=λ{s u t v} hu h e=>by
  subst e
  have:u*t=u*(-v):=by rw[<- h];grind
  exact Qiai hu this
 by_cases hx:m.x=0
 ·have hx':n.x=0:=by omega
  by_cases hy:m.y=0
  ·have hy':n.y=0:=by omega
   rcases sg az with e|e
   ·exact .inl (V3.ext' (by omega) (by omega) e)
   ·exact .inr (V3.ext' (by show n.x=-m.x;omega) (by show n.y=-m.y;omega) e)
  ·rcases sg ay with e|e
   ·exact .inl (V3.ext' (by omega) e (go hy (by grind) e))
   ·exact .inr (V3.ext' (by show n.x=-m.x;omega) e (gn hy (by grind) e))
 ·rcases sg ax with e|e
  ·exact .inl (V3.ext' e (go hx (by grind) e) (go hx (by grind) e))
  ·exact .inr (V3.ext' e (gn hx (by grind) e) (gn hx (by grind) e))
structure He0(l:List V3):Prop where
 h:∃a c k v,a∈l/\c∈l/\k∈l/\v∈l/\dot (c8 (sub c a) (sub k a)) (sub v a)≠0
theorem gLm{l:List V3}{j:Nat}(h:j<l.length):gL tV l j∈l:=Ta7 tV h
theorem He1{l:List V3}(hf:nf0 l=true):He0 l:=by
 unfold nf0 at hf;obtain⟨a,ha,hf⟩:=Qik.1 hf;unfold nf1 at hf;obtain⟨c,hc,hf⟩:=Qik.1 hf;unfold nf2 at hf;obtain⟨k,hk,hf⟩:=Qik.1 hf;rw[Qian] at ha hc hk;unfold nf at hf;rw[Qid] at hf;obtain⟨h1,h2⟩:=hf;obtain⟨⟨i1,i2,i3⟩,⟨ok,⟨g,hg,e1,e2,e3⟩,o⟩⟩:=da4 h1;unfold Ad4 at h2;obtain⟨v,hv,h2⟩:=Qik.1 h2;generalize (A7 (gL tV l a) (gL tV l c) (gL tV l k)).1=p at *
 refine⟨_,_,_,v,gLm ha,gLm (show c<l.length by omega),gLm (show k<l.length by omega),hv,λh0=>?_⟩
 have hs:Q3 p v≠0:=by simpa using h2
 have hiv:inV v=true:=by
  cases hi:inV v with
  |true=>rfl
  |false=>exact absurd (by unfold Q3;rw[ok,hi];rfl) hs
 apply hs;rw[fb8 ok hiv,o]
 have:g*(dot p.n v-dot p.n (gL tV l a))=dot (c8 (sub (gL tV l c) (gL tV l a)) (sub (gL tV l k) (gL tV l a))) (sub v (gL tV l a)):=by
  unfold dot;rw[<- e1,<- e2,<- e3];unfold sub
  grind
 rw[h0] at this
 have:=(Qif.1 this).resolve_left (by omega)
 omega
theorem fb9{p:Pln}{l:List V3}(hp:okp p=true)(hl:l.all inV=true):hold p l=true↔∀v∈l,dot p.n v<=p.b:=by
 unfold hold;rw[Qiz,<- Bool.not_eq_true,Qik];constructor
 ·intro h v hv;have h1:¬ Q3 p v>0:=λh'=>h ⟨v,hv,by simpa using h'⟩
  rw[Ob6 hp (Qio.1 hl v hv)] at h1;omega
 ·rintro h ⟨v,hv,h1⟩;have h1:Q3 p v>0:=by simpa using h1
  rw[Ob6 hp (Qio.1 hl v hv)] at h1
  have:=h v hv
  omega
structure Fct(l:List V3)(p:Pln):Prop where
 ok:okp p=true
 hd:hold p l=true
theorem tb4(p:Pln)(v:V3):dot (Y8 p).n v=-dot p.n v:=by unfold dot Y8;grind
theorem Ad5 (l : List V3) (a c k : Nat) (out : List Pln) (p : Pln) : p ∈ Zc9 l a c out k ↔ p ∈ out ∨ ((A7 (gL tV l a) (gL tV l c) (gL tV l k)).2 = true ∧
  ((p=(A7 (gL tV l a) (gL tV l c) (gL tV l k)).1/\hold p l=true)\/(p=Y8 (A7 (gL tV l a) (gL tV l c) (gL tV l k)).1/\hold p l=true))):=by
 unfold Zc9;generalize A7 (gL tV l a) (gL tV l c) (gL tV l k)=T;cases h2:T.2 with
 |false=>simp
 |true =>
  simp only[if_true];cases h4:hold (Y8 T.1) l with
  |false =>
   simp only[Qiag,if_false];cases h3:hold T.1 l with
   |false =>
    simp only[Qiag,if_false];constructor
    ·exact λh=>.inl h
    ·rintro (h|⟨_,⟨rfl,h⟩|⟨rfl,h⟩⟩)
     ·exact h
     ·rw[h3] at h;cases h
     ·rw[h4] at h;cases h
   |true =>
    simp only[if_true,tb3];constructor
    ·rintro (rfl|h)
     ·exact .inr ⟨trivial,.inl ⟨rfl,h3⟩⟩
     ·exact .inl h
    ·rintro (h|⟨_,⟨rfl,h⟩|⟨rfl,h⟩⟩)
     ·exact .inr h
     ·exact .inl rfl
     ·rw[h4] at h;cases h
  |true =>
   simp only[if_true,tb3];cases h3:hold T.1 l with
   |false =>
    simp only[Qiag,if_false];constructor
    ·rintro (rfl|h)
     ·exact .inr ⟨trivial,.inr ⟨rfl,h4⟩⟩
     ·exact .inl h
    ·rintro (h|⟨_,⟨rfl,h⟩|⟨rfl,h⟩⟩)
     ·exact .inr h
     ·rw[h3] at h;cases h
     ·exact .inl rfl
   |true =>
    simp only[if_true,tb3];constructor
    ·rintro (rfl|rfl|h)
     ·exact .inr ⟨trivial,.inr ⟨rfl,h4⟩⟩
     ·exact .inr ⟨trivial,.inl ⟨rfl,h3⟩⟩
     ·exact .inl h
    ·rintro (h|⟨_,⟨rfl,h⟩|⟨rfl,h⟩⟩)
     ·exact .inr (.inr h)
     ·exact .inr (.inl rfl)
     ·exact .inl rfl
theorem Ua7{f:List Pln->Nat->List Pln}{Q:Nat->Pln->Prop}(h:∀o k p,p∈f o k↔p∈o\/Q k p)(o:List Pln)(p:Pln):∀n,p∈(List.range n).foldl f o↔p∈o\/∃k,k<n/\Q k p
 |0=>by simp
 |n+1=>by
  rw[F8,h,Ua7 h o p n];constructor
  ·rintro ((h|⟨k,hk,h⟩)|h)
   ·exact .inl h
   ·exact .inr ⟨k,by omega,h⟩
   ·exact .inr ⟨n,by omega,h⟩
  ·rintro (h|⟨k,hk,h⟩)
   ·exact .inl (.inl h)
   ·by_cases e:k=n
    ·subst e;exact .inr h
    ·exact .inl (.inr ⟨k,by omega,h⟩)
def Fq (l : List V3) (a c k : Nat) (p : Pln) : Prop := (A7 (gL tV l a) (gL tV l c) (gL tV l k)).2 = true ∧
  ((p=(A7 (gL tV l a) (gL tV l c) (gL tV l k)).1/\hold p l=true)\/(p=Y8 (A7 (gL tV l a) (gL tV l c) (gL tV l k)).1/\hold p l=true))
theorem qe9(l:List V3)(a c:Nat)(out:List Pln)(p:Pln):p∈F2 l a out c↔p∈out\/∃k,k<c/\Fq l a c k p:=Ua7 (λo k p=>Ad5 l a c k o p) out p c
theorem re0(l:List V3)(a:Nat)(out:List Pln)(p:Pln):p∈F1 l out a↔p∈out\/∃c,c<a/\∃k,k<c/\Fq l a c k p:=Ua7 (λo c p=>qe9 l a c o p) out p a
theorem kd7(l:List V3)(p:Pln):p∈F0 l↔∃a,a<l.length/\∃c,c<a/\∃k,k<c/\Fq l a c k p:=by
 have:=Ua7 (λo a p=>re0 l a o p) [] p l.length
 simpa [F0] using this
theorem Ad6{l:List V3}{a c:Nat}{out:List Pln}{k:Nat}(h:Ia5 out):Ia5 (Zc9 l a c out k):=by
 unfold Zc9;split
 ·split
  ·refine Ob4 _ ?_;split
   ·exact Ob4 _ h
   ·exact h
  ·split
   ·exact Ob4 _ h
   ·exact h
 ·exact h
theorem Ob9{f:List Pln->Nat->List Pln}(h:∀o k,Ia5 o->Ia5 (f o k)){o:List Pln}(ho:Ia5 o):∀n,Ia5 ((List.range n).foldl f o)
 |0=>ho
 |n+1=>by rw[F8];exact h _ _ (Ob9 h ho n)
theorem re1{l:List V3}{a c:Nat}{out:List Pln}(h:Ia5 out):Ia5 (F2 l a out c):=Ob9 (λ_ _ h=>Ad6 h) h c
theorem re2{l:List V3}{a:Nat}{out:List Pln}(h:Ia5 out):Ia5 (F1 l out a):=Ob9 (λ_ _ h=>re1 h) h a
theorem tb5(l:List V3):Ia5 (F0 l):=Ob9 (λ_ _ h=>re2 h) .nil l.length
theorem Xb0{l:List Pln}(h:Ia5 l):l.Nodup:=List.Pairwise.imp (λ{x y} (h:LtP x y) (e:x=y)=>ic8 y (e ▸ h)) h
theorem Nd3{l:List V3}{p:Pln}(hp:p∈F0 l):Fct l p:=by
 obtain⟨a,ha,c,hc,k,hk,h1,⟨h2,h3⟩|⟨h2,h3⟩⟩:=(kd7 l p).1 hp
 ·exact⟨h2 ▸ (da4 h1).2.ok,h3⟩
 ·exact⟨h2 ▸ Ob7 (da4 h1).2.ok,h3⟩
structure ad3(c:List Pln):Prop where
 l:c.length<=47
 v:∀p∈c,okp p=true
 f:Md0 (c++ws)
theorem ad3.chk{c:List Pln}(h:ad3 c):(chk c==0)=true:=by
 rw[beq_iff_eq,sc2];exact⟨by have:=h.l;omega,h.v⟩
theorem ad3.bds{c:List Pln}(h:ad3 c):Bds (c++ws):=(be1 h.chk).1
theorem ad3.ful{c:List Pln}(h:ad3 c):ful c=true:=by
 unfold Ce.ful;rw[h.chk,(Ad3 h.bds (Md4 c) (by simp[ws])).2 h.f]
 rfl
theorem ad3.pts{c:List Pln}(h:ad3 c):pts c=cor (c++ws):=by unfold Ce.pts;rw[if_pos h.chk]
end Go.Ev.Ce
namespace Go.Ev.Ce
def d9(a b:V3):V3:=⟨a.x-b.x,a.y-b.y,a.z-b.z⟩
def N3(u w x:V3):V3:=c8 (d9 w u) (d9 x u)
def nb4:List V3->V3
 |[]=>⟨0,0,0⟩
 |v::l=>⟨v.x+(nb4 l).x,v.y+(nb4 l).y,v.z+(nb4 l).z⟩
def Pb0:List Int->Int
 |[]=>0
 |x::l=>x+Pb0 l
theorem ad4(n:V3):∀l:List V3,dot n (nb4 l)=Pb0 (l.map (dot n))
 |[]=>by simp[nb4,Pb0,dot]
 |v::l=>by
  have:=ad4 n l
  simp only[List.map_cons,Pb0,<- this];simp only[nb4,dot]
  grind
theorem ad5(m s:Int):∀l:List Int,Pb0 (l.map λa=>m*a-s)=m*Pb0 l-s*l.length
 |[]=>by simp[Pb0]
 |a::l=>by
  have:=ad5 m s l
  simp only[List.map_cons,Pb0,this,List.length_cons]
  grind
theorem ac4:∀{l:List Int},(∀a∈l,a<=0)->Pb0 l<=0
 |[],_=>by simp[Pb0]
 |a::l,h=>by
  have:=ac4 (l:=l) λx hx=>h x (Qib _ hx)
  have:=h a Qic
  simp only[Pb0];omega
theorem Xb1:∀{l:List Int},(∀a∈l,a<=0)->Pb0 l=0->∀a∈l,a=0
 |[],_,_=>λa ha=>by cases ha
 |a::l,h,h0=>by
  have h1:=ac4 (l:=l) λx hx=>h x (Qib _ hx)
  have h2:=h a Qic;simp only[Pb0] at h0;intro b hb
  rcases Qia.1 hb with rfl|hb
  ·omega
  ·exact Xb1 (l:=l) (λx hx=>h x (Qib _ hx)) (by omega) b hb
def Sol(l:List V3):Prop:=∃a c k v,a∈l/\c∈l/\k∈l/\v∈l/\dot (N3 a c k) (d9 v a)≠0
theorem Sol.off{l:List V3}(h:Sol l){n:V3}(hn:n≠⟨0,0,0⟩)(b:Int):∃v∈l,dot n v≠b:=by
 obtain⟨a,c,k,v,ha,hc,hk,hv,hd⟩:=h;by_cases h1:dot n a=b
 ·by_cases h2:dot n c=b
  ·by_cases h3:dot n k=b
   ·by_cases h4:dot n v=b
    ·exfalso;unfold N3 at hd;generalize hD:dot (c8 (d9 c a) (d9 k a)) (d9 v a)=D at *
     have q1:dot n (d9 c a)=0:=by unfold dot d9 at *;grind
     have q2:dot n (d9 k a)=0:=by unfold dot d9 at *;grind
     have q3:dot n (d9 v a)=0:=by unfold dot d9 at *;grind
     generalize d9 c a=p at *
     generalize d9 k a=q at *
     generalize d9 v a=r at *
     have i1:D*n.x=(c8 q r).x*dot n p+(c8 r p).x*dot n q+(c8 p q).x*dot n r:=by rw[<- hD];simp only[dot,c8];grind
     have i2:D*n.y=(c8 q r).y*dot n p+(c8 r p).y*dot n q+(c8 p q).y*dot n r:=by rw[<- hD];simp only[dot,c8];grind
     have i3:D*n.z=(c8 q r).z*dot n p+(c8 r p).z*dot n q+(c8 p q).z*dot n r:=by rw[<- hD];simp only[dot,c8];grind
     rw[q1,q2,q3] at i1 i2 i3;have z:∀{x:Int},D*x=0->x=0:=λh=>(Qif.1 h).resolve_left hd
     exact hn (V3.ext' (z (by omega)) (z (by omega)) (z (by omega)))
    ·exact⟨v,hv,h4⟩
   ·exact⟨k,hk,h3⟩
  ·exact⟨c,hc,h2⟩
 ·exact⟨a,ha,h1⟩
theorem Sol.ne{l:List V3}(h:Sol l):∃v,v∈l:=by obtain⟨a,_,_,_,ha,_⟩:=h;exact⟨a,ha⟩
structure Fac(l:List V3)(n:V3)(b:Int):Prop where
 hd:∀v∈l,dot n v<=b
 on:∃u w x,u∈l/\w∈l/\x∈l/\N3 u w x≠⟨0,0,0⟩/\dot n u=b/\dot n w=b/\dot n x=b
def re3(l:List V3)(c:List Pln):Prop:=∀n b,n≠⟨0,0,0⟩->Fac l n b->∃s t:Int,0<s/\0<t/\∃q∈c,t*q.n.x=s*n.x/\t*q.n.y=s*n.y/\t*q.n.z=s*n.z/\t*q.b=s*b
def pol(m:Int)(S v:V3):Pln:=⟨⟨m*v.x-S.x,m*v.y-S.y,m*v.z-S.z⟩,1⟩
theorem ce1(m:Int)(S v d:V3):dot (pol m S v).n d=m*dot d v-dot d S:=by simp only[dot,pol];grind
theorem ad6(l:List V3)(d:V3):Pb0 (l.map λv=>(l.length:Int)*dot d v-dot d (nb4 l))=0:=by
 have h:=ad5 (l.length:Int) (dot d (nb4 l)) (l.map (dot d));rw[List.map_map] at h;have e:((λa=>(l.length:Int)*a-dot d (nb4 l))∘dot d)=λv=>(l.length:Int)*dot d v-dot d (nb4 l):=rfl
 rw[e] at h;rw[h,<- ad4,List.length_map]
 grind
theorem Fc7{a b:V3}(h:dot a b≠0):b≠⟨0,0,0⟩:=λe=>h (by subst e;simp[dot])
theorem tc0{a b:V3}(h:dot a b≠0):a≠⟨0,0,0⟩:=λe=>h (by subst e;simp[dot])
theorem rd0{l:List V3}(h:Sol l):0<(l.length:Int):=by
 obtain⟨v,hv⟩:=h.ne
 have:=List.length_pos_of_mem hv
 omega
theorem ce2{l:List V3}(h:Sol l):Bdd (l.map (pol l.length (nb4 l))):=λd hd=>by
 by_cases hh:∃p∈l.map (pol l.length (nb4 l)),0<dot p.n d
 ·exact hh
 exfalso;have hm:=rd0 h;have hall:∀a∈l.map (λv=>(l.length:Int)*dot d v-dot d (nb4 l)),a<=0:=λa ha=>by
  obtain⟨v,hv,rfl⟩:=Qii.1 ha;refine Int.not_lt.1 λh'=>hh ⟨pol l.length (nb4 l) v,Qii.2 ⟨v,hv,rfl⟩,?_⟩
  rw[ce1];omega
 have hz:=Xb1 hall (ad6 l d);obtain⟨a,ha⟩:=h.ne;obtain⟨v,hv,hne⟩:=h.off hd (dot d a);have e1:=hz _ (Qii.2 ⟨a,ha,rfl⟩);have e2:=hz _ (Qii.2 ⟨v,hv,rfl⟩);apply hne
 have:(l.length:Int)*(dot d v-dot d a)=0:=by grind
 have:=(Qif.1 this).resolve_left (by omega)
 omega
theorem xb0{l:List V3}(h4:Sol l){c:List Pln}(hc:re3 l c){x:Pt}(hx:Inr c x){h:Pln}(hh:∀v∈l,dot h.n v<=h.b):0<=rmZ h x:=by
 have hm:=rd0 h4;have hr:=ce2 h4;generalize hS:nb4 l=S at hr;generalize hM:(l.length:Int)=m at hr hm
 -- the linear function on the polar
 have hv:∀y,Cn (l.map (pol m S)) y->0<=rmZ ⟨⟨m*x.px-x.pw*S.x,m*x.py-x.pw*S.y,m*x.pz-x.pw*S.z⟩,x.pw⟩ y:=λy hy=>by
  obtain⟨p1,p2,p3,hp1,hp2,hp3,hw,e1,e2,e3⟩:=hy.c;obtain⟨v1,m1,rfl⟩:=Qii.1 hp1;obtain⟨v2,m2,rfl⟩:=Qii.1 hp2;obtain⟨v3,m3,rfl⟩:=Qii.1 hp3;have rp:∀v,rmZ (pol m S v) y=y.pw-(m*dot ⟨y.px,y.py,y.pz⟩ v-dot ⟨y.px,y.py,y.pz⟩ S):=λv=>by simp only[rmZ,pol,dot];grind
  rw[rp] at e1 e2 e3;have hn3:dot (pol m S v1).n (N3 v1 v2 v3)≠0:=λh0=>hw (by
   have:mw (pol m S v1) (pol m S v2) (pol m S v3)=m*m*dot (pol m S v1).n (N3 v1 v2 v3):=by simp only[mw,pol,dot,N3,c8,d9];grind
   rw[this,h0,Qiak])
  have hne:N3 v1 v2 v3≠⟨0,0,0⟩:=Fc7 hn3;have hfac:Fac l ⟨m*y.px,m*y.py,m*y.pz⟩ (y.pw+dot ⟨y.px,y.py,y.pz⟩ S):=by
   have ed:∀v,dot ⟨m*y.px,m*y.py,m*y.pz⟩ v=m*dot ⟨y.px,y.py,y.pz⟩ v:=λv=>by simp only[dot];grind
   refine⟨λv hv=>?_,v1,v2,v3,m1,m2,m3,hne,?_,?_,?_⟩
   ·have:=hy.h (pol m S v) (Qii.2 ⟨v,hv,rfl⟩)
    rw[rp] at this;rw[ed];omega
   ·rw[ed];omega
   ·rw[ed];omega
   ·rw[ed];omega
  have hyn:(⟨m*y.px,m*y.py,m*y.pz⟩:V3)≠⟨0,0,0⟩:=λe=>by
   have k:∀{a:Int},m*a=0->a=0:=λh=>(Qif.1 h).resolve_left (by omega)
   simp only[V3.mk.injEq] at e;have a1:=k e.1;have a2:=k e.2.1;have a3:=k e.2.2;rw[a1,a2,a3] at e1;have hw:=hy.w;simp only[dot] at e1;simp only[Qiy,Int.add_zero,Qiak,Int.sub_zero] at e1;omega
  obtain⟨s,t,hs,ht,q,hq,f1,f2,f3,f4⟩:=hc _ _ hyn hfac;have hxq:=hx.h q hq;have e:t*rmZ q x=s*rmZ ⟨⟨m*x.px-x.pw*S.x,m*x.py-x.pw*S.y,m*x.pz-x.pw*S.z⟩,x.pw⟩ y:=by
   have:t*rmZ q x=(t*q.b)*x.pw-((t*q.n.x)*x.px+(t*q.n.y)*x.py+(t*q.n.z)*x.pz):=by simp only[rmZ];grind
   rw[this,f1,f2,f3,f4];simp only[rmZ,dot];grind
  have h1:=Qih (Qie ht) hxq;rw[e] at h1;exact Qiad h1 hs
 by_cases hn:h.n=⟨0,0,0⟩
 ·obtain⟨v,hv⟩:=h4.ne;have h1:=hh v hv;have e:rmZ h x=h.b*x.pw:=by simp only[rmZ,hn];grind
  rw[e];rw[hn] at h1;simp only[dot,Qiy,Int.add_zero] at h1;exact Qih h1 (Qie hx.w)
 ·-- the polar point of h
  have hall:∀a∈l.map (λv=>(l.length:Int)*dot h.n v-dot h.n (nb4 l)),a<=(l.length:Int)*h.b-dot h.n (nb4 l):=λa ha=>by
   obtain⟨v,hv,rfl⟩:=Qii.1 ha
   have:=Qiae (hh v hv) (show 0<=(l.length:Int) by omega)
   omega
  have hpos:0<m*h.b-dot h.n S:=by
   rw[<- hM,<- hS];by_cases h0:0<(l.length:Int)*h.b-dot h.n (nb4 l)
   ·exact h0
   exfalso;have hz:=Xb1 (λa ha=>by have:=hall a ha;omega) (ad6 l h.n)
   obtain⟨v,hv,hne⟩:=h4.off hn h.b;have e1:=hz _ (Qii.2 ⟨v,hv,rfl⟩);have h2:=hh v hv
   have:(l.length:Int)*dot h.n v<(l.length:Int)*h.b:=Int.mul_lt_mul_of_pos_left (by omega) (by omega)
   omega
  have hy:Inr (l.map (pol m S)) ⟨h.n.x,h.n.y,h.n.z,m*h.b-dot h.n S⟩:=⟨hpos,λp hp=>by
   obtain⟨v,hv,rfl⟩:=Qii.1 hp;have e:rmZ (pol m S v) ⟨h.n.x,h.n.y,h.n.z,m*h.b-dot h.n S⟩=m*(h.b-dot h.n v):=by simp only[rmZ,pol,dot];grind
   rw[e];exact Qih (by omega) (by have:=hh v hv;omega)⟩
  have h1:=ka4 hr hv hy;have e:rmZ ⟨⟨m*x.px-x.pw*S.x,m*x.py-x.pw*S.y,m*x.pz-x.pw*S.z⟩,x.pw⟩ ⟨h.n.x,h.n.y,h.n.z,m*h.b-dot h.n S⟩=m*rmZ h x:=by simp only[rmZ,dot];grind
  rw[e] at h1;exact Qiad h1 hm
theorem Oc4(own:List V3):(∃a c k,a∈own/\c∈own/\k∈own/\dot a (c8 c k)≠0)\/∃d,d≠(⟨0,0,0⟩:V3)/\∀n∈own,dot n d=0:=by
 by_cases h1:∃a∈own,a≠⟨0,0,0⟩
 ·obtain⟨a,ha,hne⟩:=h1;by_cases h2:∃c∈own,c8 a c≠⟨0,0,0⟩
  ·obtain⟨c,hc,hx⟩:=h2;by_cases h3:∃k∈own,dot k (c8 a c)≠0
   ·obtain⟨k,hk,h⟩:=h3;exact .inl ⟨k,a,c,hk,ha,hc,h⟩
   ·exact .inr ⟨c8 a c,hx,λn hn=>Qiq λh=>h3 ⟨n,hn,h⟩⟩
  ·obtain⟨d,hd,h0⟩:=perp hne;refine .inr ⟨d,hd,λn hn=>?_⟩
   have hc:c8 a n=⟨0,0,0⟩:=Qiq λh=>h2 ⟨n,hn,h⟩
   have e:∀{s t:Int},s*t=0->s≠0->t=0:=λh hs=>(Qif.1 h).resolve_left hs
   unfold c8 at hc;simp only[V3.mk.injEq] at hc;obtain⟨c1,c2,c3⟩:=hc;have k1:a.x*dot n d=0:=by
    have:a.x*dot n d=n.x*dot a d+(a.x*n.y-a.y*n.x)*d.y-(a.z*n.x-a.x*n.z)*d.z:=by simp only[dot];grind
    rw[this,h0,c3,c2];simp
   have k2:a.y*dot n d=0:=by
    have:a.y*dot n d=n.y*dot a d+(a.y*n.z-a.z*n.y)*d.z-(a.x*n.y-a.y*n.x)*d.x:=by simp only[dot];grind
    rw[this,h0,c1,c3];simp
   have k3:a.z*dot n d=0:=by
    have:a.z*dot n d=n.z*dot a d+(a.z*n.x-a.x*n.z)*d.x-(a.y*n.z-a.z*n.y)*d.y:=by simp only[dot];grind
    rw[this,h0,c2,c1];simp
   by_cases hx:a.x=0
   ·by_cases hy:a.y=0
    ·exact e k3 λhz=>hne (V3.ext' hx hy hz)
    ·exact e k2 hy
   ·exact e k1 hx
 ·exact .inr ⟨⟨1, 0, 0⟩, by simp, fun n hn => by
   have:n=⟨0,0,0⟩:=Qiq λh=>h1 ⟨n,hn,h⟩
   rw[this];simp[dot]⟩
theorem big(d:V3):∀c:List Pln,∃N:Int,0<N/\∀p∈c,dot p.n d<=N/\-dot p.n d<=N
 |[]=>⟨1,by decide,λp hp=>by cases hp⟩
 |q::c=>by
  obtain⟨N,h0,h⟩:=big d c;refine⟨N+(dot q.n d).natAbs,by omega,λp hp=>?_⟩
  rcases Qia.1 hp with rfl|hp
  ·omega
  ·have:=h p hp;omega
theorem Ua8{p q s:Pln}(hw:mw p q s≠0){d:V3}(h1:dot p.n d=0)(h2:dot q.n d=0)(h3:dot s.n d=0):d=⟨0,0,0⟩:=by
 have i1:mw p q s*d.x=(c8 q.n s.n).x*dot p.n d+(c8 s.n p.n).x*dot q.n d+(c8 p.n q.n).x*dot s.n d:=by simp only[mw,dot,c8];grind
 have i2:mw p q s*d.y=(c8 q.n s.n).y*dot p.n d+(c8 s.n p.n).y*dot q.n d+(c8 p.n q.n).y*dot s.n d:=by simp only[mw,dot,c8];grind
 have i3:mw p q s*d.z=(c8 q.n s.n).z*dot p.n d+(c8 s.n p.n).z*dot q.n d+(c8 p.n q.n).z*dot s.n d:=by simp only[mw,dot,c8];grind
 rw[h1,h2,h3] at i1 i2 i3;have z:∀{x:Int},mw p q s*x=0->x=0:=λh=>(Qif.1 h).resolve_left hw
 exact V3.ext' (z (by omega)) (z (by omega)) (z (by omega))
def Spn(c:List Pln)(v:V3):Prop:=∃p q s,p∈c/\q∈c/\s∈c/\mw p q s≠0/\dot p.n v=p.b/\dot q.n v=q.b/\dot s.n v=s.b
theorem ce3{l:List V3}(h4:Sol l){c w:List Pln}(hc:re3 l c)(hin:∀p∈c++w,∀v∈l,dot p.n v<=p.b){x:Pt}(hx:Cn (c++w) x):∃v∈l,Eqv x ⟨v.x,v.y,v.z,1⟩/\Spn c v:=by
 obtain⟨p,q,s,hp,hq,hs,hw,e1,e2,e3⟩:=hx.c;have hxc:Inr c x:=⟨hx.w,λa ha=>hx.h a (Qiac _ ha)⟩
 have hv:∃v∈l,dot p.n v=p.b/\dot q.n v=q.b/\dot s.n v=s.b:=by
  apply Qiq;intro hno;have h1:=xb0 h4 hc hxc (h:=⟨⟨p.n.x+q.n.x+s.n.x,p.n.y+q.n.y+s.n.y,p.n.z+q.n.z+s.n.z⟩,p.b+q.b+s.b-1⟩) λv hv=>by
   have a1:=hin p hp v hv;have a2:=hin q hq v hv;have a3:=hin s hs v hv;have e:dot ⟨p.n.x+q.n.x+s.n.x,p.n.y+q.n.y+s.n.y,p.n.z+q.n.z+s.n.z⟩ v=dot p.n v+dot q.n v+dot s.n v:=by simp only[dot];grind
   simp only[e]
   have:¬ (dot p.n v=p.b/\dot q.n v=q.b/\dot s.n v=s.b):=λh=>hno ⟨v,hv,h⟩
   omega
  have e:rmZ ⟨⟨p.n.x+q.n.x+s.n.x,p.n.y+q.n.y+s.n.y,p.n.z+q.n.z+s.n.z⟩,p.b+q.b+s.b-1⟩ x=rmZ p x+rmZ q x+rmZ s x-x.pw:=by simp only[rmZ];grind
  rw[e,e1,e2,e3] at h1
  have:=hx.w
  omega
 obtain⟨v,hv,t1,t2,t3⟩:=hv;have hd:(⟨x.px-v.x*x.pw,x.py-v.y*x.pw,x.pz-v.z*x.pw⟩:V3)=⟨0,0,0⟩:=by
  have k:∀{a:Pln},dot a.n v=a.b->rmZ a x=0->dot a.n ⟨x.px-v.x*x.pw,x.py-v.y*x.pw,x.pz-v.z*x.pw⟩=0:=λ{a} h1 h2=>by
   rw[rmZ,<- h1] at h2;simp only[dot] at h2 ⊢
   grind
  exact Ua8 hw (k t1 e1) (k t2 e2) (k t3 e3)
 simp only[V3.mk.injEq] at hd;refine⟨v,hv,⟨?_,?_,?_⟩,?_⟩
 ·show x.px*1=v.x*x.pw;omega
 ·show x.py*1=v.y*x.pw;omega
 ·show x.pz*1=v.z*x.pw;omega
 -- the facets through it span the space
 have hf:∀a:Pln,decide (dot a.n v=a.b)=true↔dot a.n v=a.b:=λa=>by simp
 rcases Oc4 ((c.filter λa=>decide (dot a.n v=a.b)).map Pln.n) with⟨a,b,k,ha',hb',hk',hd⟩|⟨d,hd,h0⟩
 ·obtain⟨a,ha,rfl⟩:=Qii.1 ha';obtain⟨b,hb,rfl⟩:=Qii.1 hb';obtain⟨k,hk,rfl⟩:=Qii.1 hk';rw[List.mem_filter,hf] at ha hb hk;exact⟨a,b,k,ha.1,hb.1,hk.1,hd,ha.2,hb.2,hk.2⟩
 ·exfalso;obtain⟨N,hN,hb⟩:=big d c;have h0':∀a∈c,dot a.n v=a.b->dot a.n d=0:=λa ha h=>h0 a.n (Qii.2 ⟨a,List.mem_filter.2 ⟨ha,by simpa using h⟩,rfl⟩)
  have iny:∀e:V3,(∀a∈c,dot a.n v=a.b->dot a.n e=0)->(∀a∈c,dot a.n e<=N)->Inr c ⟨N*v.x+e.x,N*v.y+e.y,N*v.z+e.z,N⟩:=λe he hle=>⟨hN,λa ha=>by
   have ea:rmZ a ⟨N*v.x+e.x,N*v.y+e.y,N*v.z+e.z,N⟩=N*(a.b-dot a.n v)-dot a.n e:=by simp only[rmZ,dot];grind
   rw[ea];have h1:=hin a (Qiac _ ha) v hv;by_cases ht:dot a.n v=a.b
   ·rw[he a ha ht,ht];simp
   ·have h2:N*1<=N*(a.b-dot a.n v):=Qiae (by omega) (by omega)
    have:=hle a ha
    omega⟩
  have y1:=iny d h0' λa ha=>(hb a ha).1
  have y2:=iny (neg d) (λa ha h=>by rw[ic9,h0' a ha h];rfl) λa ha=>by rw[ic9];exact (hb a ha).2
  have z:∀a∈c++w,dot a.n v=a.b->dot a.n d=0:=λa ha ht=>by
   have a1:=xb0 h4 hc y1 (h:=a) (hin a ha);have a2:=xb0 h4 hc y2 (h:=a) (hin a ha);have e1:rmZ a ⟨N*v.x+d.x,N*v.y+d.y,N*v.z+d.z,N⟩=N*(a.b-dot a.n v)-dot a.n d:=by simp only[rmZ,dot];grind
   have e2:rmZ a ⟨N*v.x+(neg d).x,N*v.y+(neg d).y,N*v.z+(neg d).z,N⟩=N*(a.b-dot a.n v)+dot a.n d:=by simp only[rmZ,dot,neg];grind
   rw[e1,ht] at a1;rw[e2,ht] at a2;simp only[Int.sub_self,Qiak] at a1 a2;omega
  exact hd (Ua8 hw (z p hp t1) (z q hq t2) (z s hs t3))
end Go.Ev.Ce
