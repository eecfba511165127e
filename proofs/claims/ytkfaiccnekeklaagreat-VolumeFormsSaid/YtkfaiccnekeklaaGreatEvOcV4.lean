/- Own work. -/
import Derived.Test.YtkfaiccnekeklaaGreatEvOaS4
set_option linter.all false
def Qka:=@Classical.byContradiction
def Qkb:=@List.mem_map
def Qkc:=@List.all_eq_true
def Qkd:=@Int.mul_zero
def Qke:=@List.mem_cons
def Qkf:=@List.mem_append
def Qkg:=@Int.sub_self
def Qkh:=@List.any_eq_true
def Qki:=@List.mem_cons_self
def Qkj:=@Int.mul_neg_of_pos_of_neg
def Qkk:=@Int.mul_eq_zero
def Qkl:=@List.mem_range
def Qkm:=@List.mem_singleton
def Qkn:=@Nat.lt_irrefl
def Qko:=@Int.mul_nonpos_of_nonneg_of_nonpos
def Qkp:=@List.pairwise_cons
def Qkq:=@List.length_map
def Qkr:=@Int.zero_mul
def Qks:=@List.mem_cons_of_mem
def Qkt:=@Int.mul_pos
def Qku:=@List.mem_filter
def Qkv:=@Int.eq_of_mul_eq_mul_left
def Qkw:=@List.pairwise_map
def Qkx:=@Int.le_refl
def Qky:=@List.length_take
def Qkz:=@Int.zero_add
def Qkaa:=@Int.add_zero
def Qkab:=@List.mem_iff_getElem
def Qkac:=@Int.mul_le_mul_of_nonneg_left
def Qkad:=@Int.mul_nonneg
def Qkae:=@Int.neg_mul
def Qkaf:=@List.length_append
def Qkag:=@Nat.lt_or_gt_of_ne
def Qkah:=@Int.mul_lt_mul_of_pos_left
def Qkai:=@Int.mul_pos_of_neg_of_neg
def Qkaj:=@List.length_drop
def Qkak:=@Nat.zero_add
def Qkal:=@Int.eq_of_sub_eq_zero
def Qkam:=@List.length_filter_le
namespace Go.Ev.Ce
open Go Go.Ev Go.Ev.L Go.Proofs
set_option maxRecDepth 100000
noncomputable def dd7:List (Nat×Sum):=[]
theorem Vc4:k8 prog G dd7:=trivial
noncomputable def Oa6(x:V3)(y:V3):Option (b7×List c8):=(sl (x.x != y.x) (some (b (decide (x.x<y.x)),[])) (sl (x.y != y.y) (some (b (decide (x.y<y.y)),[])) (some (b (decide (x.z<y.z)),[]))))
noncomputable def Oa7(x:V3)(y:V3):Bool:=N7 (one r1B) (Oa6 x y)
noncomputable def cb9(x:V3)(y:V3):Bool:=okO (one r1B) (Oa6 x y)
noncomputable def oc4:Sum:=Da9 (L2 tV) (L2 tV) (λx y=>.guard (cb9 x y) (.ret ((one r1B).enc (Oa7 x y),[])))
theorem dd8:i7 prog G 93 oc4:=tb8 (bd b93 Vc4) (one r1B) (o:=Oa6) λx y=>D1 (by kernel_rfl)
noncomputable def Vc5:List (Nat×Sum):=[(93,oc4)]
theorem Id5:k8 prog G Vc5:=⟨dd8,trivial⟩
structure Wa7 where
 e7:List V3
 (d9 d7 f0:Int)
structure ma6 where
 is5:Int
noncomputable def oc5(p:Wa7)(s:ma6):St:=⟨eL tV p.e7::.unk::.unk::.ptr 0 0 0 0::.unk::i s.is5::ra 41 [],[⟨0,3,[[i p.d9,i p.d7,i p.f0]],true,false,0⟩]⟩
noncomputable def Ga0{α:Type}(k:ma6->α)(e:Nat->α)(z:α)(p:Wa7)(s:ma6):α:=let t1:=(Oa7 (gL tV p.e7 s.is5.toNat) (⟨p.d9,p.d7,p.f0⟩:V3));(sl (decide (s.is5<(↑(List.length p.e7):Int))) (sl (inB s.is5 (List.length p.e7)) (sl (cb9 (gL tV p.e7 s.is5.toNat) (⟨p.d9,p.d7,p.f0⟩:V3)) (sl t1 (k ⟨W (s.is5+1)⟩) (e 1)) z) z) (e 2))
noncomputable def Da0(p:Wa7)(s:ma6):Stp ma6:=Ga0 .next .exit .fail p s
noncomputable def Ob9:Lo Wa7 ma6:=⟨En Vc5,0,gf3,[1,1,0,4,4],[0,3,5],.p,[⟨sLq tV::sUq::sUq::sPq 0::sUq::sIq::ru2 41 [],[⟨0,3,true,some [kLq 3]⟩],λa H=>(⟨aLq tV a 0,hIq H 0 0 0,hIq H 0 0 1,hIq H 0 0 2⟩,⟨aIq a 5⟩)⟩],Da0,[(some 0,λp s=>let t1:=(Oa7 (gL tV p.e7 s.is5.toNat) (⟨p.d9,p.d7,p.f0⟩:V3));⟨eL tV p.e7::.unk::.unk::.ptr 0 0 0 0::.unk::i s.is5::.unk::i s.is5::eL tV p.e7::i (↑(List.length p.e7):Int)::b (decide (s.is5<(↑(List.length p.e7):Int)))::b true::eL tV p.e7::i s.is5::.tptr [i (gL tV p.e7 s.is5.toNat).x,i (gL tV p.e7 s.is5.toNat).y,i (gL tV p.e7 s.is5.toNat).z]::.agg [i (gL tV p.e7 s.is5.toNat).x,i (gL tV p.e7 s.is5.toNat).y,i (gL tV p.e7 s.is5.toNat).z]::.agg [i p.d9,i p.d7,i p.f0]::b t1::b t1::ra 28 [],[⟨0,3,[[i p.d9,i p.d7,i p.f0]],true,false,0⟩]⟩),(some 0,λp s=>upq (oc5 p s) [(7,i s.is5),(8,eL tV p.e7),(9,i (↑(List.length p.e7):Int)),(10,b (decide (s.is5<(↑(List.length p.e7):Int)))),(11,b false),(12,u),(13,u),(14,u),(15,u),(16,u),(17,u),(18,b false)])],oc5⟩
theorem ud9:Ob9.Ok:=Lo.ok [] (by kernel_rfl) .nil rfl (.cons (λa H=>by kernel_rfl) .nil) λp s=>(.of @Ga0 (λF _ _ _ _ _=>by unfold Ga0;(repeat' apply r9 (f:=F))<;>rfl) (by kernel_rfl))
noncomputable def xb1(x:List V3)(y:V3):Option (b7×List c8):=let t1:=(lp (Da0 (⟨rt tV x,y.x,y.y,y.z⟩:Wa7)) (⟨0⟩:ma6));let a0:=(u9 (λk=>(λk=>(tV).row (gL tV (rt tV x) k)) (0+k)) (List.range (t1.2.is5.toNat-0)));let a1:=(u9 (λk=>(λk=>(tV).row (gL tV (rt tV x) k)) (t1.2.is5.toNat+k)) (List.range ((List.length (rt tV x))-t1.2.is5.toNat)));let a2:=(inB t1.2.is5 ((List.length (rt tV x))+1));let a3:=(Nat.beq (0+(len a0)) (len (app [] a0))&&Nat.ble (((0+(len a0))+1)*24) room);let a4:=(((0+(len a0))+1)+(len a1));let a5:=(gL tV (rt tV x) t1.2.is5.toNat);let a6:=(Nat.beq 0 0&&Nat.ble ((0+(len a0))*24) room);let w0:Option (b7×List c8):=(sl a2 (sl a6 (sl a3 (sl a2 (sl (Nat.beq ((0+(len a0))+1) (len (app (app [] a0) [[i y.x,i y.y,i y.z]]))&&Nat.ble (a4*24) room) (some (.sl 0 0 a4 0,[⟨25,3,app (app (app [] a0) [[i y.x,i y.y,i y.z]]) a1,true,false,0⟩])) none) none) none) none) none);let w1:Option (b7×List c8):=(sl (decide (t1.2.is5<(↑(List.length (rt tV x)):Int))) (sl (inB t1.2.is5 (List.length (rt tV x))) (sl ((a5.x==y.x)&&((a5.y==y.y)&&((a5.z==y.z)&&true))) (some (eL tV (rt tV x),[])) w0) none) w0);(sl ((cnE tV x)&&true) (sl (Nat.beq t1.1 1) w1 (sl (Nat.beq t1.1 2) w1 none)) none)
noncomputable def Tb3(x:List V3)(y:V3):List V3:=N7 (one (r1L tV)) (xb1 x y)
noncomputable def Tb4(x:List V3)(y:V3):Bool:=okO (one (r1L tV)) (xb1 x y)
noncomputable def ld6:Sum:=Da9 (na0 tV) (L2 tV) (λx y=>.guard (Tb4 x y) (.ret ((one (r1L tV)).enc (Tb3 x y),[])))
theorem Ud9:i7 prog G 66 ld6:=tb8 (bd b66 Id5) (one (r1L tV)) (o:=xb1) λx y=>Ea4 (.s .p (.s .p (.s (.b (.u Ob9.ls)) .p))) [Ob9.pr] (by kernel_rfl) (.cons ud9 .nil) (by kernel_rfl)
noncomputable def Ga1:List (Nat×Sum):=[(54,hb8),(90,Va5),(86,eb4)]
theorem Vc6:k8 prog G Ga1:=⟨nb5,bb0,gb6,trivial⟩
structure aa5 where
 w6:List Pln
 (d9 d7 f0:Int)
structure A7 where
 ph:Nat
 is6:Int
 ns5:Nat
 eh1:List (List b7)
noncomputable def xb2(p:aa5)(s:A7):St:=⟨eL tP p.w6::.unk::.unk::.ptr 0 0 0 0::.unk::.v (.slice none 0 0)::i s.is6::ra 55 [],[⟨0,3,[[i p.d9,i p.d7,i p.f0]],true,false,0⟩]⟩
noncomputable def xb3(p:aa5)(s:A7):St:=⟨eL tP p.w6::.unk::.unk::.ptr 0 0 0 0::.unk::.sl 1 0 s.ns5 0::i s.is6::ra 55 [],[⟨0,3,[[i p.d9,i p.d7,i p.f0]],true,false,0⟩,⟨25,3,s.eh1,true,false,0⟩]⟩
noncomputable def Gc0(p:aa5)(s:A7):St:=(sel (Nat.beq s.ph 1) (xb3 p s) (xb2 p s))
noncomputable def X7{α:Type}(k:A7->α)(e:Nat->α)(z:α)(p:aa5)(s:A7):α:=let t1:=(da4 (gL tP p.w6 s.is6.toNat) (⟨p.d9,p.d7,p.f0⟩:V3));(sl (decide (s.is6<(↑(List.length p.w6):Int))) (sl (inB s.is6 (List.length p.w6)) (sl (ya3 (gL tP p.w6 s.is6.toNat) (⟨p.d9,p.d7,p.f0⟩:V3)) (sl (t1==0) (sl (inB s.is6 (List.length p.w6)) (k ⟨1,W (s.is6+1),1,[[i (gL tP p.w6 s.is6.toNat).n.x,i (gL tP p.w6 s.is6.toNat).n.y,i (gL tP p.w6 s.is6.toNat).n.z]]⟩) z) (k ⟨0,W (s.is6+1),0,[]⟩)) z) z) (e 1))
noncomputable def X8{α:Type}(k:A7->α)(e:Nat->α)(z:α)(p:aa5)(s:A7):α:=let t1:=(da4 (gL tP p.w6 s.is6.toNat) (⟨p.d9,p.d7,p.f0⟩:V3));(sl (decide (s.is6<(↑(List.length p.w6):Int))) (sl (inB s.is6 (List.length p.w6)) (sl (ya3 (gL tP p.w6 s.is6.toNat) (⟨p.d9,p.d7,p.f0⟩:V3)) (sl (t1==0) (sl (inB s.is6 (List.length p.w6)) (sl (Nat.beq s.ns5 (len s.eh1)&&Nat.ble ((s.ns5+1)*24) room) (k ⟨1,W (s.is6+1),s.ns5+1,app s.eh1 [[i (gL tP p.w6 s.is6.toNat).n.x,i (gL tP p.w6 s.is6.toNat).n.y,i (gL tP p.w6 s.is6.toNat).n.z]]⟩) z) z) (k ⟨1,W (s.is6+1),s.ns5,s.eh1⟩)) z) z) (e 2))
noncomputable def Ia2(p:aa5)(s:A7):Stp A7:=(sel (Nat.beq s.ph 1) (X8 .next .exit .fail p s) (X7 .next .exit .fail p s))
noncomputable def kb1:Lo aa5 A7:=⟨En Ga1,0,ue2,[1,1,0,1,4,4],[0,3,5,6],.p,[⟨sLq tP::sUq::sUq::sPq 0::sUq::.s (.o .nil)::sIq::ru2 55 [],[⟨0,3,true,some [kLq 3]⟩],λa H=>(⟨aLq tP a 0,hIq H 0 0 0,hIq H 0 0 1,hIq H 0 0 2⟩,⟨0,aIq a 6,0,[]⟩)⟩,⟨sLq tP::sUq::sUq::sPq 0::sUq::.s (.o (.sl 1 0 (some 0) none))::sIq::ru2 55 [],[⟨0,3,true,some [kLq 3]⟩,⟨25,3,true,none⟩],λa H=>(⟨aLq tP a 0,hIq H 0 0 0,hIq H 0 0 1,hIq H 0 0 2⟩,⟨1,aIq a 6,slN (slT a 5),elT H 1⟩)⟩],Ia2,[(some 0,λp s=>upq (xb2 p s) [(10,i s.is6),(11,eL tP p.w6),(12,i (↑(List.length p.w6):Int)),(13,b (decide (s.is6<(↑(List.length p.w6):Int))))]),(some 0,λp s=>upq (xb3 p s) [(10,i s.is6),(11,eL tP p.w6),(12,i (↑(List.length p.w6):Int)),(13,b (decide (s.is6<(↑(List.length p.w6):Int))))])],Gc0⟩
theorem Gc1:kb1.Ok:=Lo.ok [] (by kernel_rfl) .nil rfl (.cons (λa H=>by kernel_rfl) (.cons (λa H=>by kernel_rfl) .nil)) λp s=>(.sel (Nat.beq s.ph 1) (.of @X8 (λF _ _ _ _ _=>by unfold X8;(repeat' apply r9 (f:=F))<;>rfl) (by kernel_rfl)) (.of @X7 (λF _ _ _ _ _=>by unfold X7;(repeat' apply r9 (f:=F))<;>rfl) (by kernel_rfl)))
structure S9 where
 ns5:Nat
 (is7 is8:Int)
 eh0:List (List b7)
structure E1 where
 ph:Nat
 is9:Int
noncomputable def xb4(p:S9)(s:E1):St:=⟨ra 5 (.sl 0 0 p.ns5 0::.unk::i p.is7::i p.is8::i s.is9::ra 52 []),[⟨25,3,p.eh0,true,false,0⟩]⟩
noncomputable def xb5(p:S9)(s:E1):St:=⟨ra 5 (.v (.slice none 0 0)::.unk::i p.is7::i p.is8::i s.is9::ra 52 []),[]⟩
noncomputable def Gc2(p:S9)(s:E1):St:=(sel (Nat.beq s.ph 1) (xb5 p s) (xb4 p s))
noncomputable def X9{α:Type}(k:E1->α)(e:Nat->α)(z:α)(p:S9)(s:E1):α:=let t1:=(Z6 (rdR tV p.eh0 (0+p.is7.toNat)) (rdR tV p.eh0 (0+p.is8.toNat)));let t2:=(aa9 t1 (rdR tV p.eh0 (0+s.is9.toNat)));(sl (decide (s.is9<p.is8)) (sl (inB p.is7 p.ns5) (sl (ldR tV p.eh0 (0+p.is7.toNat)) (sl (inB p.is8 p.ns5) (sl (ldR tV p.eh0 (0+p.is8.toNat)) (sl (inB s.is9 p.ns5) (sl (ldR tV p.eh0 (0+s.is9.toNat)) (sl (t2 != 0) (e 1) (k ⟨0,W (s.is9+1)⟩)) z) z) z) z) z) z) (e 2))
noncomputable def Sa8{α:Type}(k:E1->α)(e:Nat->α)(z:α)(p:S9)(s:E1):α:=(sl (decide (s.is9<p.is8)) z (e 3))
noncomputable def ua3(p:S9)(s:E1):Stp E1:=(sel (Nat.beq s.ph 1) (Sa8 .next .exit .fail p s) (X9 .next .exit .fail p s))
noncomputable def kb2:Lo S9 E1:=⟨En Ga1,0,ue2,[1,1,1,0,1,4,4,1,0,4,1,4,4,1,0,4,1,4,4],[5,7,8,9],.p,[⟨ru2 5 (.s (.o (.sl 0 0 (some 0) none))::sUq::sIq::sIq::sIq::ru2 52 []),[⟨25,3,true,none⟩],λa H=>(⟨slN (slT a 5),aIq a 7,aIq a 8,elT H 0⟩,⟨0,aIq a 9⟩)⟩,⟨ru2 5 (.s (.o .nil)::sUq::sIq::sIq::sIq::ru2 52 []),[],λa H=>(⟨0,aIq a 7,aIq a 8,[]⟩,⟨1,aIq a 9⟩)⟩],ua3,[(none,λp s=>⟨[b true],[]⟩),(some 6,λp s=>upq (xb4 p s) [(42,i s.is9),(43,i p.is8),(44,b (decide (s.is9<p.is8)))]),(some 6,λp s=>upq (xb5 p s) [(42,i s.is9),(43,i p.is8),(44,b (decide (s.is9<p.is8)))])],Gc2⟩
theorem Gc3:kb2.Ok:=Lo.ok [] (by kernel_rfl) .nil rfl (.cons (λa H=>by kernel_rfl) (.cons (λa H=>by kernel_rfl) .nil)) λp s=>(.sel (Nat.beq s.ph 1) (.of @Sa8 (λF _ _ _ _ _=>by unfold Sa8;(repeat' apply r9 (f:=F))<;>rfl) (by kernel_rfl)) (.of @X9 (λF _ _ _ _ _=>by unfold X9;(repeat' apply r9 (f:=F))<;>rfl) (by kernel_rfl)))
structure T0 where
 is7:Int
structure E2 where
 (ph ns5:Nat)
 is8:Int
 eh0:List (List b7)
noncomputable def xb6(p:T0)(s:E2):St:=⟨ra 5 (.sl 0 0 s.ns5 0::.unk::i p.is7::i s.is8::ra 53 []),[⟨25,3,s.eh0,true,false,0⟩]⟩
noncomputable def xb7(p:T0)(s:E2):St:=⟨ra 5 (.v (.slice none 0 0)::.unk::i p.is7::i s.is8::ra 53 []),[]⟩
noncomputable def Gc4(p:T0)(s:E2):St:=(sel (Nat.beq s.ph 1) (xb7 p s) (xb6 p s))
noncomputable def Y0{α:Type}(k:E2->α)(e:Nat->α)(z:α)(p:T0)(s:E2):α:=let t1:=(lp (ua3 (⟨s.ns5,p.is7,s.is8,s.eh0⟩:S9)) (⟨0,0⟩:E1));(sl (decide (s.is8<p.is7)) (sl (Nat.beq t1.1 1) (e 1) (sl (Nat.beq t1.1 2) (k ⟨0,s.ns5,W (s.is8+1),s.eh0⟩) (sl (Nat.beq t1.1 3) (k ⟨1,0,W (s.is8+1),[]⟩) z))) (e 2))
noncomputable def Sa9{α:Type}(k:E2->α)(e:Nat->α)(z:α)(p:T0)(s:E2):α:=let t1:=(lp (ua3 (⟨0,p.is7,s.is8,[]⟩:S9)) (⟨1,0⟩:E1));(sl (decide (s.is8<p.is7)) (sl (Nat.beq t1.1 1) (e 1) (sl (Nat.beq t1.1 2) (k ⟨0,0,W (s.is8+1),[]⟩) (sl (Nat.beq t1.1 3) (k ⟨1,0,W (s.is8+1),[]⟩) z))) (e 3))
noncomputable def ua4(p:T0)(s:E2):Stp E2:=(sel (Nat.beq s.ph 1) (Sa9 .next .exit .fail p s) (Y0 .next .exit .fail p s))
noncomputable def kb3:Lo T0 E2:=⟨En Ga1,0,ue2,[1,1,1,0,1,4,4,1,0,4,1,4,4],[5,7,8],.s .p (.s (.b (.s .p (.b (.u kb2.ls)))) .p),[⟨ru2 5 (.s (.o (.sl 0 0 (some 0) none))::sUq::sIq::sIq::ru2 53 []),[⟨25,3,true,none⟩],λa H=>(⟨aIq a 7⟩,⟨0,slN (slT a 5),aIq a 8,elT H 0⟩)⟩,⟨ru2 5 (.s (.o .nil)::sUq::sIq::sIq::ru2 53 []),[],λa H=>(⟨aIq a 7⟩,⟨1,0,aIq a 8,[]⟩)⟩],ua4,[(none,λp s=>⟨[b true],[]⟩),(some 4,λp s=>upq (xb6 p s) [(37,i s.is8),(38,i p.is7),(39,b (decide (s.is8<p.is7)))]),(some 4,λp s=>upq (xb7 p s) [(37,i s.is8),(38,i p.is7),(39,b (decide (s.is8<p.is7)))])],Gc4⟩
theorem Gc5:kb3.Ok:=Lo.ok [kb2.pr] (by kernel_rfl) (.cons Gc3 .nil) rfl (.cons (λa H=>by kernel_rfl) (.cons (λa H=>by kernel_rfl) .nil)) λp s=>(.sel (Nat.beq s.ph 1) (.of @Sa9 (λF _ _ _ _ _=>by unfold Sa9;(repeat' apply r9 (f:=F))<;>rfl) (by kernel_rfl)) (.of @Y0 (λF _ _ _ _ _=>by unfold Y0;(repeat' apply r9 (f:=F))<;>rfl) (by kernel_rfl)))
structure T1 where
structure E3 where
 ph:Nat
 is7:Int
 ns5:Nat
 eh0:List (List b7)
noncomputable def xb8(p:T1)(s:E3):St:=⟨ra 5 (.v (.slice none 0 0)::.unk::i s.is7::ra 54 []),[]⟩
noncomputable def xb9(p:T1)(s:E3):St:=⟨ra 5 (.sl 0 0 s.ns5 0::.unk::i s.is7::ra 54 []),[⟨25,3,s.eh0,true,false,0⟩]⟩
noncomputable def Gc6(p:T1)(s:E3):St:=(sel (Nat.beq s.ph 1) (xb9 p s) (xb8 p s))
noncomputable def Ta0{α:Type}(k:E3->α)(e:Nat->α)(z:α)(p:T1)(s:E3):α:=let t1:=(lp (ua4 (⟨s.is7⟩:T0)) (⟨1,0,0,[]⟩:E2));(sl (decide (s.is7<0)) (sl (Nat.beq t1.1 1) (e 1) (sl (Nat.beq t1.1 2) (k ⟨1,W (s.is7+1),t1.2.ns5,t1.2.eh0⟩) (sl (Nat.beq t1.1 3) (k ⟨0,W (s.is7+1),0,[]⟩) z))) (e 2))
noncomputable def Y1{α:Type}(k:E3->α)(e:Nat->α)(z:α)(p:T1)(s:E3):α:=let t1:=(lp (ua4 (⟨s.is7⟩:T0)) (⟨0,s.ns5,0,s.eh0⟩:E2));(sl (decide (s.is7<(↑s.ns5:Int))) (sl (Nat.beq t1.1 1) (e 1) (sl (Nat.beq t1.1 2) (k ⟨1,W (s.is7+1),t1.2.ns5,t1.2.eh0⟩) (sl (Nat.beq t1.1 3) (k ⟨0,W (s.is7+1),0,[]⟩) z))) (e 3))
noncomputable def L1(p:T1)(s:E3):Stp E3:=(sel (Nat.beq s.ph 1) (Y1 .next .exit .fail p s) (Ta0 .next .exit .fail p s))
noncomputable def kb4:Lo T1 E3:=⟨En Ga1,0,ue2,[1,1,1,0,1,4,4],[5,7],.s .p (.s (.b (.s .p (.b (.u kb3.ls)))) .p),[⟨ru2 5 (.s (.o .nil)::sUq::sIq::ru2 54 []),[],λa H=>(⟨⟩,⟨0,aIq a 7,0,[]⟩)⟩,⟨ru2 5 (.s (.o (.sl 0 0 (some 0) none))::sUq::sIq::ru2 54 []),[⟨25,3,true,none⟩],λa H=>(⟨⟩,⟨1,aIq a 7,slN (slT a 5),elT H 0⟩)⟩],L1,[(none,λp s=>⟨[b true],[]⟩),(some 2,λp s=>upq (xb8 p s) [(31,i s.is7),(32,.v (.slice none 0 0)),(33,i 0),(34,b (decide (s.is7<0)))]),(some 2,λp s=>upq (xb9 p s) [(31,i s.is7),(32,.sl 0 0 s.ns5 0),(33,i (↑s.ns5:Int)),(34,b (decide (s.is7<(↑s.ns5:Int))))])],Gc6⟩
theorem Gc7:kb4.Ok:=Lo.ok [kb3.pr] (by kernel_rfl) (.cons Gc5 .nil) rfl (.cons (λa H=>by kernel_rfl) (.cons (λa H=>by kernel_rfl) .nil)) λp s=>(.sel (Nat.beq s.ph 1) (.of @Y1 (λF _ _ _ _ _=>by unfold Y1;(repeat' apply r9 (f:=F))<;>rfl) (by kernel_rfl)) (.of @Ta0 (λF _ _ _ _ _=>by unfold Ta0;(repeat' apply r9 (f:=F))<;>rfl) (by kernel_rfl)))
noncomputable def Oa8(x:List Pln)(y:V3):Option (b7×List c8):=let t1:=(lp (Ia2 (⟨rt tP x,y.x,y.y,y.z⟩:aa5)) (⟨0,0,0,[]⟩:A7));let t2:=(lp (L1 (⟨⟩:T1)) (⟨0,0,0,[]⟩:E3));let t3:=(lp (L1 (⟨⟩:T1)) (⟨1,0,t1.2.ns5,t1.2.eh1⟩:E3));(sl ((cnE tP x)&&true) (sl (Nat.beq t1.1 1) (sl (Nat.beq t2.1 1) (some (b true,[])) (sl (Nat.beq t2.1 2) (some (b false,[])) (sl (Nat.beq t2.1 3) (some (b false,[])) none))) (sl (Nat.beq t1.1 2) (sl (Nat.beq t3.1 1) (some (b true,[])) (sl (Nat.beq t3.1 2) (some (b false,[])) (sl (Nat.beq t3.1 3) (some (b false,[])) none))) none)) none)
noncomputable def Oa9(x:List Pln)(y:V3):Bool:=N7 (one r1B) (Oa8 x y)
noncomputable def Pa0(x:List Pln)(y:V3):Bool:=okO (one r1B) (Oa8 x y)
noncomputable def oc6:Sum:=Da9 (na0 tP) (L2 tV) (λx y=>.guard (Pa0 x y) (.ret ((one r1B).enc (Oa9 x y),[])))
theorem dd9:i7 prog G 65 oc6:=tb8 (bd b65 Vc6) (one r1B) (o:=Oa8) λx y=>Ea4 (.s .p (.s .p (.s (.s .p (.b (.u kb1.ls))) (.s (.s .p (.b (.u kb4.ls))) .p)))) [kb1.pr,kb4.pr] (by kernel_rfl) (.cons Gc1 (.cons Gc7 .nil)) (by kernel_rfl)
noncomputable def Pb0:List (Nat×Sum):=[(39,Mb5),(65,oc6),(66,ld6)]
theorem Gc8:k8 prog G Pb0:=⟨kc7,dd9,Ud9,trivial⟩
structure U4 where
 e7:List V3
 Ka8:List Pln
structure A0 where
 ph:Nat
 is7:Int
 Gb9:List V3
noncomputable def ob7(p:U4)(s:A0):St:=⟨eL tV p.e7::ra 3 (eL tP p.Ka8::.unk::.v (.slice none 0 0)::i s.is7::ra 27 []),[]⟩
noncomputable def ob8(p:U4)(s:A0):St:=⟨eL tV p.e7::ra 3 (eL tP p.Ka8::.unk::eL tV s.Gb9::i s.is7::ra 27 []),[]⟩
noncomputable def xc0(p:U4)(s:A0):St:=(sel (Nat.beq s.ph 1) (ob8 p s) (ob7 p s))
noncomputable def T2{α:Type}(k:A0->α)(e:Nat->α)(z:α)(p:U4)(s:A0):α:=let t1:=(Oa9 (rt tP p.Ka8) (gL tV p.e7 s.is7.toNat));let t2:=(Tb3 [] (gL tV p.e7 s.is7.toNat));(sl (decide (s.is7<(↑(List.length p.e7):Int))) (sl (inB s.is7 (List.length p.e7)) (sl (okE tP p.Ka8) (sl (Pa0 (rt tP p.Ka8) (gL tV p.e7 s.is7.toNat)) (sl t1 (sl (inB s.is7 (List.length p.e7)) (sl (Tb4 [] (gL tV p.e7 s.is7.toNat)) (k ⟨1,W (s.is7+1),t2⟩) z) z) (k ⟨0,W (s.is7+1),[]⟩)) z) z) z) (e 1))
noncomputable def T3{α:Type}(k:A0->α)(e:Nat->α)(z:α)(p:U4)(s:A0):α:=let t1:=(Oa9 (rt tP p.Ka8) (gL tV p.e7 s.is7.toNat));let t2:=(Tb3 (rt tV s.Gb9) (gL tV p.e7 s.is7.toNat));(sl (decide (s.is7<(↑(List.length p.e7):Int))) (sl (inB s.is7 (List.length p.e7)) (sl (okE tP p.Ka8) (sl (Pa0 (rt tP p.Ka8) (gL tV p.e7 s.is7.toNat)) (sl t1 (sl (inB s.is7 (List.length p.e7)) (sl (okE tV s.Gb9) (sl (Tb4 (rt tV s.Gb9) (gL tV p.e7 s.is7.toNat)) (k ⟨1,W (s.is7+1),t2⟩) z) z) z) (k ⟨1,W (s.is7+1),s.Gb9⟩)) z) z) z) (e 2))
noncomputable def Da1(p:U4)(s:A0):Stp A0:=(sel (Nat.beq s.ph 1) (T3 .next .exit .fail p s) (T2 .next .exit .fail p s))
noncomputable def Za7:Lo U4 A0:=⟨En Pb0,0,ff4,[1,1,1,1,0,1,4,4],[0,4,6,7],.p,[⟨sLq tV::ru2 3 (sLq tP::sUq::.s (.o .nil)::sIq::ru2 27 []),[],λa H=>(⟨aLq tV a 0,aLq tP a 4⟩,⟨0,aIq a 7,[]⟩)⟩,⟨sLq tV::ru2 3 (sLq tP::sUq::sLq tV::sIq::ru2 27 []),[],λa H=>(⟨aLq tV a 0,aLq tP a 4⟩,⟨1,aIq a 7,aLq tV a 6⟩)⟩],Da1,[(some 0,λp s=>upq (ob7 p s) [(16,i s.is7),(17,eL tV p.e7),(18,i (↑(List.length p.e7):Int)),(19,b (decide (s.is7<(↑(List.length p.e7):Int))))]),(some 0,λp s=>upq (ob8 p s) [(16,i s.is7),(17,eL tV p.e7),(18,i (↑(List.length p.e7):Int)),(19,b (decide (s.is7<(↑(List.length p.e7):Int))))])],xc0⟩
theorem xc1:Za7.Ok:=Lo.ok [] (by kernel_rfl) .nil rfl (.cons (λa H=>by kernel_rfl) (.cons (λa H=>by kernel_rfl) .nil)) λp s=>(.sel (Nat.beq s.ph 1) (.of @T3 (λF _ _ _ _ _=>by unfold T3;(repeat' apply r9 (f:=F))<;>rfl) (by kernel_rfl)) (.of @T2 (λF _ _ _ _ _=>by unfold T2;(repeat' apply r9 (f:=F))<;>rfl) (by kernel_rfl)))
noncomputable def Ga2(x:List V3):Option (b7×List c8):=let t1:=(Ja9 (rt tV x));let t2:=(lp (Da1 (⟨rt tV x,rt tP t1.1⟩:U4)) (⟨0,0,[]⟩:A0));(sl (okE tV x) (sl (nb7 (rt tV x)) (sl (t1.2 != 0) (some (.tup [.v (.slice none 0 0),i t1.2],[])) (sl ((cnE tV x)&&((cnE tP t1.1)&&true)) (sl (Nat.beq t2.1 1) (some (.tup [.v (.slice none 0 0),i 0],[])) (sl (Nat.beq t2.1 2) (some (.tup [eL tV t2.2.Gb9,i 0],[])) none)) none)) none) none)
noncomputable def Ua8(x:List V3):List V3×Int:=N7 (two (r1L tV) r1I) (Ga2 x)
noncomputable def sb2(x:List V3):Bool:=okO (two (r1L tV) r1I) (Ga2 x)
noncomputable def Yb9:Sum:=N1 (na0 tV) (λx=>.guard (sb2 x) (.ret ((two (r1L tV) r1I).enc (Ua8 x),[])))
theorem Vc7:i7 prog G 40 Yb9:=Ea3 (bd b40 Gc8) (two (r1L tV) r1I) (o:=Ga2) λx=>Ea4 (.s .p (.s .p (.s .p (.s .p (.s (.s .p (.b (.u Za7.ls))) .p))))) [Za7.pr] (by kernel_rfl) (.cons xc1 .nil) (by kernel_rfl)
noncomputable def Vc8:List (Nat×Sum):=[]
theorem Id6:k8 prog G Vc8:=trivial
structure Wa8 where
 e7:List V3
structure qa9 where
 (is7 I8 I9 J0 oa9 pa0 pa1:Int)
noncomputable def oc7(p:Wa8)(s:qa9):St:=⟨eL tV p.e7::.unk::.ptr 0 0 0 0::.ptr 1 0 0 0::.unk::.ptr 2 0 0 0::.ptr 3 0 0 0::i s.is7::ra 69 [],[⟨0,3,[[i 0,i 0,i 0]],true,false,0⟩,⟨0,3,[[i 0,i 0,i 0]],true,false,0⟩,⟨0,3,[[i s.I8,i s.I9,i s.J0]],true,false,0⟩,⟨0,3,[[i s.oa9,i s.pa0,i s.pa1]],true,false,0⟩]⟩
noncomputable def Ga3{α:Type}(k:qa9->α)(e:Nat->α)(z:α)(p:Wa8)(s:qa9):α:=(sl (decide (s.is7<(↑(List.length p.e7):Int))) (sl (inB s.is7 (List.length p.e7)) (sl (inB s.is7 (List.length p.e7)) (sl (inB s.is7 (List.length p.e7)) (sl (inB s.is7 (List.length p.e7)) (sl (inB s.is7 (List.length p.e7)) (sl (inB s.is7 (List.length p.e7)) (k ⟨W (s.is7+1),(if (gL tV p.e7 s.is7.toNat).x<s.I8 then (gL tV p.e7 s.is7.toNat).x else s.I8),(if (gL tV p.e7 s.is7.toNat).y<s.I9 then (gL tV p.e7 s.is7.toNat).y else s.I9),(if (gL tV p.e7 s.is7.toNat).z<s.J0 then (gL tV p.e7 s.is7.toNat).z else s.J0),(if (gL tV p.e7 s.is7.toNat).x>s.oa9 then (gL tV p.e7 s.is7.toNat).x else s.oa9),(if (gL tV p.e7 s.is7.toNat).y>s.pa0 then (gL tV p.e7 s.is7.toNat).y else s.pa0),(if (gL tV p.e7 s.is7.toNat).z>s.pa1 then (gL tV p.e7 s.is7.toNat).z else s.pa1)⟩) z) z) z) z) z) z) (e 1))
noncomputable def Da2(p:Wa8)(s:qa9):Stp qa9:=Ga3 .next .exit .fail p s
noncomputable def Pb1:Lo Wa8 qa9:=⟨En Vc8,0,ff5,[1,1,1,0,1,4,4],[0,2,3,5,6,7],.p,[⟨sLq tV::sUq::sPq 0::sPq 1::sUq::sPq 2::sPq 3::sIq::ru2 69 [],[⟨0,3,true,some [[.o (.lit .i64 0),.o (.lit .i64 0),.o (.lit .i64 0)]]⟩,⟨0,3,true,some [[.o (.lit .i64 0),.o (.lit .i64 0),.o (.lit .i64 0)]]⟩,⟨0,3,true,some [kLq 3]⟩,⟨0,3,true,some [kLq 3]⟩],λa H=>(⟨aLq tV a 0⟩,⟨aIq a 7,hIq H 2 0 0,hIq H 2 0 1,hIq H 2 0 2,hIq H 3 0 0,hIq H 3 0 1,hIq H 3 0 2⟩)⟩],Da2,[(some 0,λp s=>upq (oc7 p s) [(19,i s.is7),(20,eL tV p.e7),(21,i (↑(List.length p.e7):Int)),(22,b (decide (s.is7<(↑(List.length p.e7):Int))))])],oc7⟩
theorem vd0:Pb1.Ok:=Lo.ok [] (by kernel_rfl) .nil rfl (.cons (λa H=>by kernel_rfl) .nil) λp s=>(.of @Ga3 (λF _ _ _ _ _=>by unfold Ga3;(repeat' apply r9 (f:=F))<;>rfl) (by kernel_rfl))
noncomputable def yb0(x:List V3):Option (b7×List c8):=let t1:=(lp (Da2 (⟨rt tV x⟩:Wa8)) (⟨0,(gL tV x 0).x,(gL tV x 0).y,(gL tV x 0).z,(gL tV x 0).x,(gL tV x 0).y,(gL tV x 0).z⟩:qa9));(sl ((↑(List.length x):Int)==0) (some (.tup [.agg [i 0,i 0,i 0],.agg [i 0,i 0,i 0],b false],[])) (sl (inB 0 (List.length x)) (sl (inB 0 (List.length x)) (sl ((cnE tV x)&&true) (sl (Nat.beq t1.1 1) (some (.tup [.agg [i t1.2.I8,i t1.2.I9,i t1.2.J0],.agg [i t1.2.oa9,i t1.2.pa0,i t1.2.pa1],b true],[])) none) none) none) none))
noncomputable def Tb5(x:List V3):V3×V3×Bool:=N7 (Kb4 r1V r1V r1B) (yb0 x)
noncomputable def Tb6(x:List V3):Bool:=okO (Kb4 r1V r1V r1B) (yb0 x)
noncomputable def ld7:Sum:=N1 (na0 tV) (λx=>.guard (Tb6 x) (.ret ((Kb4 r1V r1V r1B).enc (Tb5 x),[])))
theorem Vd0:i7 prog G 42 ld7:=Ea3 (bd b42 Id6) (Kb4 r1V r1V r1B) (o:=yb0) λx=>Ea4 (.s .p (.s .p (.s .p (.s (.s .p (.b (.u Pb1.ls))) .p)))) [Pb1.pr] (by kernel_rfl) (.cons vd0 .nil) (by kernel_rfl)
noncomputable def Vd1:List (Nat×Sum):=[(91,ub4),(90,Va5),(86,eb4)]
theorem Id7:k8 prog G Vd1:=⟨Ab9,bb0,gb6,trivial⟩
noncomputable def Tb7(x:V3)(y:V3)(z:V3)(w:V3):Int:=let t1:=(L7 x w);let t2:=(L7 y w);let t3:=(Z6 t1 t2);let t4:=(L7 z w);let t5:=(aa9 t3 t4);(if (W (0-t5))>t5 then (W (0-t5)) else t5)
noncomputable def ld8:Sum:=Nc3 (L2 tV) (L2 tV) (L2 tV) (L2 tV) (λx y z w=>.ret ((one r1I).enc (Tb7 x y z w),[]))
theorem Vd2:i7 prog G 68 ld8:=Xd9 (bd b68 Id7) λx y z w=>D1 (by kernel_rfl)
noncomputable def ld9:List (Nat×Sum):=[(54,hb8)]
theorem Vd3:k8 prog G ld9:=⟨nb5,trivial⟩
structure sa2 where
 s7:List V3
 (d9 d7 f0 j5:Int)
structure K6 where
 ph:Nat
 is6:Int
 ns5:Nat
 eh1:List (List b7)
noncomputable def oc8(p:sa2)(s:K6):St:=⟨.unk::eL tV p.s7::.ptr 0 0 0 0::.unk::.unk::.v (.slice none 0 0)::i s.is6::ra 21 [],[⟨0,4,[[i p.d9,i p.d7,i p.f0,i p.j5]],true,false,0⟩]⟩
noncomputable def oc9(p:sa2)(s:K6):St:=⟨.unk::eL tV p.s7::.ptr 0 0 0 0::.unk::.unk::.sl 1 0 s.ns5 0::i s.is6::ra 21 [],[⟨0,4,[[i p.d9,i p.d7,i p.f0,i p.j5]],true,false,0⟩,⟨25,3,s.eh1,true,false,0⟩]⟩
noncomputable def Id8(p:sa2)(s:K6):St:=(sel (Nat.beq s.ph 1) (oc9 p s) (oc8 p s))
noncomputable def sa3{α:Type}(k:K6->α)(e:Nat->α)(z:α)(p:sa2)(s:K6):α:=let t1:=(da4 (⟨(⟨p.d9,p.d7,p.f0⟩:V3),p.j5⟩:Pln) (gL tV p.s7 s.is6.toNat));(sl (decide (s.is6<(↑(List.length p.s7):Int))) (sl (inB s.is6 (List.length p.s7)) (sl (ya3 (⟨(⟨p.d9,p.d7,p.f0⟩:V3),p.j5⟩:Pln) (gL tV p.s7 s.is6.toNat)) (sl (t1==0) (sl (inB s.is6 (List.length p.s7)) (k ⟨1,W (s.is6+1),1,[[i (gL tV p.s7 s.is6.toNat).x,i (gL tV p.s7 s.is6.toNat).y,i (gL tV p.s7 s.is6.toNat).z]]⟩) z) (k ⟨0,W (s.is6+1),0,[]⟩)) z) z) (e 1))
noncomputable def sa4{α:Type}(k:K6->α)(e:Nat->α)(z:α)(p:sa2)(s:K6):α:=let t1:=(da4 (⟨(⟨p.d9,p.d7,p.f0⟩:V3),p.j5⟩:Pln) (gL tV p.s7 s.is6.toNat));(sl (decide (s.is6<(↑(List.length p.s7):Int))) (sl (inB s.is6 (List.length p.s7)) (sl (ya3 (⟨(⟨p.d9,p.d7,p.f0⟩:V3),p.j5⟩:Pln) (gL tV p.s7 s.is6.toNat)) (sl (t1==0) (sl (inB s.is6 (List.length p.s7)) (sl (Nat.beq s.ns5 (len s.eh1)&&Nat.ble ((s.ns5+1)*24) room) (k ⟨1,W (s.is6+1),s.ns5+1,app s.eh1 [[i (gL tV p.s7 s.is6.toNat).x,i (gL tV p.s7 s.is6.toNat).y,i (gL tV p.s7 s.is6.toNat).z]]⟩) z) z) (k ⟨1,W (s.is6+1),s.ns5,s.eh1⟩)) z) z) (e 2))
noncomputable def Wa9(p:sa2)(s:K6):Stp K6:=(sel (Nat.beq s.ph 1) (sa4 .next .exit .fail p s) (sa3 .next .exit .fail p s))
noncomputable def ec4:Lo sa2 K6:=⟨En ld9,0,ef9,[1,1,0,1,4,4],[1,2,5,6],.p,[⟨sUq::sLq tV::sPq 0::sUq::sUq::.s (.o .nil)::sIq::ru2 21 [],[⟨0,4,true,some [kLq 4]⟩],λa H=>(⟨aLq tV a 1,hIq H 0 0 0,hIq H 0 0 1,hIq H 0 0 2,hIq H 0 0 3⟩,⟨0,aIq a 6,0,[]⟩)⟩,⟨sUq::sLq tV::sPq 0::sUq::sUq::.s (.o (.sl 1 0 (some 0) none))::sIq::ru2 21 [],[⟨0,4,true,some [kLq 4]⟩,⟨25,3,true,none⟩],λa H=>(⟨aLq tV a 1,hIq H 0 0 0,hIq H 0 0 1,hIq H 0 0 2,hIq H 0 0 3⟩,⟨1,aIq a 6,slN (slT a 5),elT H 1⟩)⟩],Wa9,[(some 0,λp s=>upq (oc8 p s) [(7,i s.is6),(8,eL tV p.s7),(9,i (↑(List.length p.s7):Int)),(10,b (decide (s.is6<(↑(List.length p.s7):Int))))]),(some 0,λp s=>upq (oc9 p s) [(7,i s.is6),(8,eL tV p.s7),(9,i (↑(List.length p.s7):Int)),(10,b (decide (s.is6<(↑(List.length p.s7):Int))))])],Id8⟩
theorem Id9:ec4.Ok:=Lo.ok [] (by kernel_rfl) .nil rfl (.cons (λa H=>by kernel_rfl) (.cons (λa H=>by kernel_rfl) .nil)) λp s=>(.sel (Nat.beq s.ph 1) (.of @sa4 (λF _ _ _ _ _=>by unfold sa4;(repeat' apply r9 (f:=F))<;>rfl) (by kernel_rfl)) (.of @sa3 (λF _ _ _ _ _=>by unfold sa3;(repeat' apply r9 (f:=F))<;>rfl) (by kernel_rfl)))
noncomputable def Pb2(x:Pln)(y:List V3):Option (b7×List c8):=let t1:=(lp (Wa9 (⟨rt tV y,x.n.x,x.n.y,x.n.z,x.b⟩:sa2)) (⟨0,0,0,[]⟩:K6));(sl ((cnE tV y)&&true) (sl (Nat.beq t1.1 1) (some (.v (.slice none 0 0),[])) (sl (Nat.beq t1.1 2) (some (.sl 0 0 t1.2.ns5 0,[⟨25,3,t1.2.eh1,true,false,0⟩])) none)) none)
noncomputable def Vc9(x:Pln)(y:List V3):List V3:=N7 (one (r1L tV)) (Pb2 x y)
noncomputable def Wc0(x:Pln)(y:List V3):Bool:=okO (one (r1L tV)) (Pb2 x y)
noncomputable def Jd0:Sum:=Da9 (L2 tP) (na0 tV) (λx y=>.guard (Wc0 x y) (.ret ((one (r1L tV)).enc (Vc9 x y),[])))
theorem me0:i7 prog G 31 Jd0:=tb8 (bd b31 Vd3) (one (r1L tV)) (o:=Pb2) λx y=>Ea4 (.s .p (.s .p (.s (.s .p (.b (.u ec4.ls))) .p))) [ec4.pr] (by kernel_rfl) (.cons Id9 .nil) (by kernel_rfl)
noncomputable def Ac7:List (Nat×Sum):=[(91,ub4),(90,Va5),(86,eb4)]
theorem vd1:k8 prog G Ac7:=⟨Ab9,bb0,gb6,trivial⟩
structure Pa1 where
 s7:List V3
 (d9 d7 f0 s9 u7 u8 I8 I9 J0:Int)
structure ga2 where
 is9:Int
noncomputable def Zb0(p:Pa1)(s:ga2):St:=⟨.unk::eL tV p.s7::.unk::.unk::.ptr 0 0 0 0::.unk::.ptr 1 0 0 0::.ptr 2 0 0 0::.unk::i s.is9::ra 40 [],[⟨0,3,[[i p.d9,i p.d7,i p.f0]],true,false,0⟩,⟨0,3,[[i p.s9,i p.u7,i p.u8]],true,false,0⟩,⟨0,3,[[i p.I8,i p.I9,i p.J0]],true,false,0⟩]⟩
noncomputable def Aa2{α:Type}(k:ga2->α)(e:Nat->α)(z:α)(p:Pa1)(s:ga2):α:=let t1:=(L7 (⟨p.I8,p.I9,p.J0⟩:V3) (⟨p.s9,p.u7,p.u8⟩:V3));let t2:=(L7 (gL tV p.s7 s.is9.toNat) (⟨p.s9,p.u7,p.u8⟩:V3));let t3:=(Z6 t1 t2);let t4:=(aa9 (⟨p.d9,p.d7,p.f0⟩:V3) t3);(sl (decide (s.is9<(↑(List.length p.s7):Int))) (sl (inB s.is9 (List.length p.s7)) (sl (inB s.is9 (List.length p.s7)) (sl (!(((gL tV p.s7 s.is9.toNat).x==p.s9)&&(((gL tV p.s7 s.is9.toNat).y==p.u7)&&(((gL tV p.s7 s.is9.toNat).z==p.u8)&&true)))) (sl (inB s.is9 (List.length p.s7)) (sl (!(((gL tV p.s7 s.is9.toNat).x==p.I8)&&(((gL tV p.s7 s.is9.toNat).y==p.I9)&&(((gL tV p.s7 s.is9.toNat).z==p.J0)&&true)))) (sl (decide (t4<=0)) (e 1) (k ⟨W (s.is9+1)⟩)) (k ⟨W (s.is9+1)⟩)) z) (k ⟨W (s.is9+1)⟩)) z) z) (e 2))
noncomputable def Ga4(p:Pa1)(s:ga2):Stp ga2:=Aa2 .next .exit .fail p s
noncomputable def Cb6:Lo Pa1 ga2:=⟨En Ac7,0,gf4,[1,0,1,4,4],[1,4,6,7,9],.p,[⟨sUq::sLq tV::sUq::sUq::sPq 0::sUq::sPq 1::sPq 2::sUq::sIq::ru2 40 [],[⟨0,3,true,some [kLq 3]⟩,⟨0,3,true,some [kLq 3]⟩,⟨0,3,true,some [kLq 3]⟩],λa H=>(⟨aLq tV a 1,hIq H 0 0 0,hIq H 0 0 1,hIq H 0 0 2,hIq H 1 0 0,hIq H 1 0 1,hIq H 1 0 2,hIq H 2 0 0,hIq H 2 0 1,hIq H 2 0 2⟩,⟨aIq a 9⟩)⟩],Ga4,[(none,λp s=>⟨[b false],[]⟩),(some 0,λp s=>upq (Zb0 p s) [(11,i s.is9),(12,eL tV p.s7),(13,i (↑(List.length p.s7):Int)),(14,b (decide (s.is9<(↑(List.length p.s7):Int))))])],Zb0⟩
theorem ed0:Cb6.Ok:=Lo.ok [] (by kernel_rfl) .nil rfl (.cons (λa H=>by kernel_rfl) .nil) λp s=>(.of @Aa2 (λF _ _ _ _ _=>by unfold Aa2;(repeat' apply r9 (f:=F))<;>rfl) (by kernel_rfl))
noncomputable def kb5(x:V3)(y:List V3)(z:V3)(w:V3):Option (b7×List c8):=let t1:=(lp (Ga4 (⟨rt tV y,x.x,x.y,x.z,z.x,z.y,z.z,w.x,w.y,w.z⟩:Pa1)) (⟨0⟩:ga2));(sl ((cnE tV y)&&true) (sl (Nat.beq t1.1 1) (some (b false,[])) (sl (Nat.beq t1.1 2) (some (b (!((z.x==w.x)&&((z.y==w.y)&&((z.z==w.z)&&true)))),[])) none)) none)
noncomputable def Cb7(x:V3)(y:List V3)(z:V3)(w:V3):Bool:=N7 (one r1B) (kb5 x y z w)
noncomputable def Cb8(x:V3)(y:List V3)(z:V3)(w:V3):Bool:=okO (one r1B) (kb5 x y z w)
noncomputable def Wc1:Sum:=Nc3 (L2 tV) (na0 tV) (L2 tV) (L2 tV) (λx y z w=>.guard (Cb8 x y z w) (.ret ((one r1B).enc (Cb7 x y z w),[])))
theorem Jd1:i7 prog G 67 Wc1:=Te9 (bd b67 vd1) (one r1B) (o:=kb5) λx y z w=>Ea4 (.s .p (.s (.s .p (.b (.u Cb6.ls))) .p)) [Cb6.pr] (by kernel_rfl) (.cons ed0 .nil) (by kernel_rfl)
noncomputable def Pb3:List (Nat×Sum):=[(67,Wc1),(68,ld8)]
theorem vd2:k8 prog G Pb3:=⟨Jd1,Vd2,trivial⟩
structure Da3 where
 s7:List V3
 (is8 d9 d7 f0 j5 s9 u7 u8:Int)
structure P5 where
 (is7 is9:Int)
noncomputable def Zb1(p:Da3)(s:P5):St:=⟨.unk::eL tV p.s7::.unk::.ptr 0 0 0 0::.unk::.ptr 1 0 0 0::.unk::i s.is7::i p.is8::i s.is9::ra 40 [],[⟨0,4,[[i p.d9,i p.d7,i p.f0,i p.j5]],true,false,0⟩,⟨0,3,[[i p.s9,i p.u7,i p.u8]],true,false,0⟩]⟩
noncomputable def aa6{α:Type}(k:P5->α)(e:Nat->α)(z:α)(p:Da3)(s:P5):α:=let t1:=(Cb7 (⟨p.d9,p.d7,p.f0⟩:V3) (rt tV p.s7) (gL tV p.s7 p.is8.toNat) (gL tV p.s7 s.is9.toNat));let t2:=(Tb7 (gL tV p.s7 p.is8.toNat) (gL tV p.s7 s.is9.toNat) (gL tV p.s7 0) (⟨p.s9,p.u7,p.u8⟩:V3));(sl (decide (s.is9<(↑(List.length p.s7):Int))) (sl (inB p.is8 (List.length p.s7)) (sl (inB s.is9 (List.length p.s7)) (sl (okE tV p.s7) (sl (Cb8 (⟨p.d9,p.d7,p.f0⟩:V3) (rt tV p.s7) (gL tV p.s7 p.is8.toNat) (gL tV p.s7 s.is9.toNat)) (sl t1 (sl (inB p.is8 (List.length p.s7)) (sl (inB s.is9 (List.length p.s7)) (sl (inB 0 (List.length p.s7)) (k ⟨W (s.is7+t2),W (s.is9+1)⟩) z) z) z) (k ⟨s.is7,W (s.is9+1)⟩)) z) z) z) z) (e 1))
noncomputable def Ga5(p:Da3)(s:P5):Stp P5:=aa6 .next .exit .fail p s
noncomputable def Cb9:Lo Da3 P5:=⟨En Pb3,0,Ve9,[1,1,0,1,4,4,1,0,4,1,4,4],[1,3,5,7,8,9],.p,[⟨sUq::sLq tV::sUq::sPq 0::sUq::sPq 1::sUq::sIq::sIq::sIq::ru2 40 [],[⟨0,4,true,some [kLq 4]⟩,⟨0,3,true,some [kLq 3]⟩],λa H=>(⟨aLq tV a 1,aIq a 8,hIq H 0 0 0,hIq H 0 0 1,hIq H 0 0 2,hIq H 0 0 3,hIq H 1 0 0,hIq H 1 0 1,hIq H 1 0 2⟩,⟨aIq a 7,aIq a 9⟩)⟩],Ga5,[(some 2,λp s=>upq (Zb1 p s) [(16,i s.is9),(17,eL tV p.s7),(18,i (↑(List.length p.s7):Int)),(19,b (decide (s.is9<(↑(List.length p.s7):Int))))])],Zb1⟩
theorem ed1:Cb9.Ok:=Lo.ok [] (by kernel_rfl) .nil rfl (.cons (λa H=>by kernel_rfl) .nil) λp s=>(.of @aa6 (λF _ _ _ _ _=>by unfold aa6;(repeat' apply r9 (f:=F))<;>rfl) (by kernel_rfl))
structure Pa2 where
 (d9 d7 f0 j5 s9 u7 u8:Int)
structure Z1 where
 s7:List V3
 (is7 is8:Int)
noncomputable def Zb2(p:Pa2)(s:Z1):St:=⟨.unk::eL tV s.s7::.unk::.ptr 0 0 0 0::.unk::.ptr 1 0 0 0::.unk::i s.is7::i s.is8::ra 41 [],[⟨0,4,[[i p.d9,i p.d7,i p.f0,i p.j5]],true,false,0⟩,⟨0,3,[[i p.s9,i p.u7,i p.u8]],true,false,0⟩]⟩
noncomputable def ja4{α:Type}(k:Z1->α)(e:Nat->α)(z:α)(p:Pa2)(s:Z1):α:=let t1:=(lp (Ga5 (⟨rt tV s.s7,s.is8,p.d9,p.d7,p.f0,p.j5,p.s9,p.u7,p.u8⟩:Da3)) (⟨s.is7,0⟩:P5));(sl (decide (s.is8<(↑(List.length s.s7):Int))) (sl ((cnE tV s.s7)&&true) (sl (Nat.beq t1.1 1) (k ⟨rt tV s.s7,t1.2.is7,W (s.is8+1)⟩) z) z) (e 1))
noncomputable def Ua9(p:Pa2)(s:Z1):Stp Z1:=ja4 .next .exit .fail p s
noncomputable def Db0:Lo Pa2 Z1:=⟨En Pb3,0,Ve9,[1,1,0,1,4,4],[1,3,5,7,8],.s .p (.s (.b (.s .p (.b (.u Cb9.ls)))) .p),[⟨sUq::sLq tV::sUq::sPq 0::sUq::sPq 1::sUq::sIq::sIq::ru2 41 [],[⟨0,4,true,some [kLq 4]⟩,⟨0,3,true,some [kLq 3]⟩],λa H=>(⟨hIq H 0 0 0,hIq H 0 0 1,hIq H 0 0 2,hIq H 0 0 3,hIq H 1 0 0,hIq H 1 0 1,hIq H 1 0 2⟩,⟨aLq tV a 1,aIq a 7,aIq a 8⟩)⟩],Ua9,[(some 0,λp s=>upq (Zb2 p s) [(10,i s.is8),(11,eL tV s.s7),(12,i (↑(List.length s.s7):Int)),(13,b (decide (s.is8<(↑(List.length s.s7):Int))))])],Zb2⟩
theorem ed2:Db0.Ok:=Lo.ok [Cb9.pr] (by kernel_rfl) (.cons ed1 .nil) rfl (.cons (λa H=>by kernel_rfl) .nil) λp s=>(.of @ja4 (λF _ _ _ _ _=>by unfold ja4;(repeat' apply r9 (f:=F))<;>rfl) (by kernel_rfl))
noncomputable def Ja4(x:Pln)(y:List V3)(z:V3):Option (b7×List c8):=let t1:=(lp (Ua9 (⟨x.n.x,x.n.y,x.n.z,x.b,z.x,z.y,z.z⟩:Pa2)) (⟨rt tV y,0,0⟩:Z1));(sl ((cnE tV y)&&true) (sl (Nat.beq t1.1 1) (some (i t1.2.is7,[])) none) none)
noncomputable def Db1(x:Pln)(y:List V3)(z:V3):Int:=N7 (one r1I) (Ja4 x y z)
noncomputable def Db2(x:Pln)(y:List V3)(z:V3):Bool:=okO (one r1I) (Ja4 x y z)
noncomputable def Wc2:Sum:=qc9 (L2 tP) (na0 tV) (L2 tV) (λx y z=>.guard (Db2 x y z) (.ret ((one r1I).enc (Db1 x y z),[])))
theorem Jd2:i7 prog G 41 Wc2:=qe5 (bd b41 vd2) (one r1I) (o:=Ja4) λx y z=>Ea4 (.s .p (.s .p (.s (.s .p (.b (.u Db0.ls))) .p))) [Db0.pr] (by kernel_rfl) (.cons ed2 .nil) (by kernel_rfl)
noncomputable def Wc3:List (Nat×Sum):=[(39,Mb5),(40,Yb9),(31,Jd0),(41,Wc2)]
theorem Jd3:k8 prog G Wc3:=⟨kc7,Vc7,me0,Jd2,trivial⟩
structure Xa0 where
 e7:List V3
 Ka8:List Pln
 Gb9:List V3
structure ha3 where
 (is8 is9:Int)
noncomputable def pc0(p:Xa0)(s:ha3):St:=⟨eL tV p.e7::ra 3 (eL tP p.Ka8::.unk::eL tV p.Gb9::.unk::i s.is8::i s.is9::ra 36 []),[]⟩
noncomputable def oa1{α:Type}(k:ha3->α)(e:Nat->α)(z:α)(p:Xa0)(s:ha3):α:=let t1:=(Vc9 (gL tP p.Ka8 s.is9.toNat) (rt tV p.Gb9));let t2:=(Db1 (gL tP p.Ka8 s.is9.toNat) (rt tV t1) (gL tV p.e7 0));(sl (decide (s.is9<(↑(List.length p.Ka8):Int))) (sl (inB s.is9 (List.length p.Ka8)) (sl (inB s.is9 (List.length p.Ka8)) (sl (okE tV p.Gb9) (sl (Wc0 (gL tP p.Ka8 s.is9.toNat) (rt tV p.Gb9)) (sl (inB 0 (List.length p.e7)) (sl (okE tV t1) (sl (Db2 (gL tP p.Ka8 s.is9.toNat) (rt tV t1) (gL tV p.e7 0)) (k ⟨W (s.is8+t2),W (s.is9+1)⟩) z) z) z) z) z) z) z) (e 1))
noncomputable def db0(p:Xa0)(s:ha3):Stp ha3:=oa1 .next .exit .fail p s
noncomputable def Pb4:Lo Xa0 ha3:=⟨En Wc3,0,ef7,[1,1,1,1,1,0,1,4,4],[0,4,6,8,9],.p,[⟨sLq tV::ru2 3 (sLq tP::sUq::sLq tV::sUq::sIq::sIq::ru2 36 []),[],λa H=>(⟨aLq tV a 0,aLq tP a 4,aLq tV a 6⟩,⟨aIq a 8,aIq a 9⟩)⟩],db0,[(some 0,λp s=>upq (pc0 p s) [(23,i s.is9),(24,eL tP p.Ka8),(25,i (↑(List.length p.Ka8):Int)),(26,b (decide (s.is9<(↑(List.length p.Ka8):Int))))])],pc0⟩
theorem vd3:Pb4.Ok:=Lo.ok [] (by kernel_rfl) .nil rfl (.cons (λa H=>by kernel_rfl) .nil) λp s=>(.of @oa1 (λF _ _ _ _ _=>by unfold oa1;(repeat' apply r9 (f:=F))<;>rfl) (by kernel_rfl))
noncomputable def eb5(x:List V3):Option (b7×List c8):=let t1:=(Ja9 (rt tV x));let t2:=(Ua8 (rt tV x));let t3:=(lp (db0 (⟨rt tV x,rt tP t1.1,rt tV t2.1⟩:Xa0)) (⟨0,0⟩:ha3));(sl (okE tV x) (sl (nb7 (rt tV x)) (sl (t1.2 != 0) (some (.tup [i 0,i t1.2],[])) (sl (okE tV x) (sl (sb2 (rt tV x)) (sl ((cnE tV x)&&((cnE tP t1.1)&&((cnE tV t2.1)&&true))) (sl (Nat.beq t3.1 1) (some (.tup [i t3.2.is8,i 0],[])) none) none) none) none)) none) none)
noncomputable def yb1(x:List V3):Int×Int:=N7 (two r1I r1I) (eb5 x)
noncomputable def yb2(x:List V3):Bool:=okO (two r1I r1I) (eb5 x)
noncomputable def xc2:Sum:=N1 (na0 tV) (λx=>.guard (yb2 x) (.ret ((two r1I r1I).enc (yb1 x),[])))
theorem Wc4:i7 prog G 12 xc2:=Ea3 (bd b12 Jd3) (two r1I r1I) (o:=eb5) λx=>Ea4 (.s .p (.s .p (.s .p (.s .p (.s .p (.s (.s .p (.b (.u Pb4.ls))) .p)))))) [Pb4.pr] (by kernel_rfl) (.cons vd3 .nil) (by kernel_rfl)
noncomputable def Vd4:List (Nat×Sum):=[]
theorem Jd4:k8 prog G Vd4:=trivial
noncomputable def xc3(x:V3)(y:V3):Option (b7×List c8):=(sl (decide (y.x<=x.x)) (some (i 0,[])) (sl (decide (y.y<=x.y)) (some (i 0,[])) (sl (decide (y.z<=x.z)) (some (i 0,[])) (some (i (W ((W ((W (y.x-x.x))*(W (y.y-x.y))))*(W (y.z-x.z)))),[])))))
noncomputable def Tb8(x:V3)(y:V3):Int:=N7 (one r1I) (xc3 x y)
noncomputable def Tb9(x:V3)(y:V3):Bool:=okO (one r1I) (xc3 x y)
noncomputable def xc4:Sum:=Da9 (L2 tV) (L2 tV) (λx y=>.guard (Tb9 x y) (.ret ((one r1I).enc (Tb8 x y),[])))
theorem Wc5:i7 prog G 16 xc4:=tb8 (bd b16 Jd4) (one r1I) (o:=xc3) λx y=>D1 (by kernel_rfl)
noncomputable def Jd5:List (Nat×Sum):=[(12,xc2),(42,ld7),(16,xc4)]
theorem vd4:k8 prog G Jd5:=⟨Wc4,Vd0,Wc5,trivial⟩
noncomputable def kb6(x:List V3)(y:V3)(z:V3):Option (b7×List c8):=let t1:=(yb1 (rt tV x));let t2:=(Tb5 (rt tV x));let t3:=(Tb8 (⟨(if t2.1.x>y.x then t2.1.x else y.x),(if t2.1.y>y.y then t2.1.y else y.y),(if t2.1.z>y.z then t2.1.z else y.z)⟩:V3) (⟨(if t2.2.1.x<z.x then t2.2.1.x else z.x),(if t2.2.1.y<z.y then t2.2.1.y else z.y),(if t2.2.1.z<z.z then t2.2.1.z else z.z)⟩:V3));(sl (okE tV x) (sl (yb2 (rt tV x)) (sl (t1.2 != 0) (some (.tup [i 0,i t1.2],[])) (sl (okE tV x) (sl (Tb6 (rt tV x)) (sl (Tb9 (⟨(if t2.1.x>y.x then t2.1.x else y.x),(if t2.1.y>y.y then t2.1.y else y.y),(if t2.1.z>y.z then t2.1.z else y.z)⟩:V3) (⟨(if t2.2.1.x<z.x then t2.2.1.x else z.x),(if t2.2.1.y<z.y then t2.2.1.y else z.y),(if t2.2.1.z<z.z then t2.2.1.z else z.z)⟩:V3)) (some ((.tup [(i (if (W (6*t3))<t1.1 then (W (6*t3)) else t1.1)),i 0]),[])) none) none) none)) none) none)
noncomputable def Db3(x:List V3)(y:V3)(z:V3):Int×Int:=N7 (two r1I r1I) (kb6 x y z)
noncomputable def Db4(x:List V3)(y:V3)(z:V3):Bool:=okO (two r1I r1I) (kb6 x y z)
noncomputable def Wc6:Sum:=qc9 (na0 tV) (L2 tV) (L2 tV) (λx y z=>.guard (Db4 x y z) (.ret ((two r1I r1I).enc (Db3 x y z),[])))
theorem Jd6:i7 prog G 14 Wc6:=qe5 (bd b14 vd4) (two r1I r1I) (o:=kb6) λx y z=>D1 (by kernel_rfl)
noncomputable def Wc7:List (Nat×Sum):=[]
theorem Gc9:k8 prog G Wc7:=trivial
noncomputable def sb3(x:V3)(y:V3):Option (b7×List c8):=(some (.sl 0 0 8 0,[⟨25,3,[[i x.x,i x.y,i x.z],[i y.x,i x.y,i x.z],[i x.x,i y.y,i x.z],[i y.x,i y.y,i x.z],[i x.x,i x.y,i y.z],[i y.x,i x.y,i y.z],[i x.x,i y.y,i y.z],[i y.x,i y.y,i y.z]],true,false,0⟩]))
noncomputable def sb4(x:V3)(y:V3):List V3:=N7 (one (r1L tV)) (sb3 x y)
noncomputable def sb5(x:V3)(y:V3):Bool:=okO (one (r1L tV)) (sb3 x y)
noncomputable def Zb3:Sum:=Da9 (L2 tV) (L2 tV) (λx y=>.guard (sb5 x y) (.ret ((one (r1L tV)).enc (sb4 x y),[])))
theorem Wc8:i7 prog G 24 Zb3:=tb8 (bd b24 Gc9) (one (r1L tV)) (o:=sb3) λx y=>D1 (by kernel_rfl)
structure oa5 where
 (ra0 ra1 ra2:Int)
 ee3:Nat
 Ee0:Nat->List b7
 (Ee1 Ee2 Ee3:Int)
noncomputable def Xa1:List (Nat×Sum):=[(27,nb8),(36,va1),(35,xa8)]
theorem Hb3:k8 prog G Xa1:=⟨Bb4,xa9,Ba9,trivial⟩
structure V2 where
 lf3:Nat
 ec7:Nat->List b7
 (Ee4 d9 d7 f0:Int)
 Pe4:Nat
 Pe5:Nat->List b7
 (s9 u7 u8:Int)
structure y6 where
 (lb9 oa9 pa0 pa1:Int)
noncomputable def Pa3(p:V2)(s:y6):St:=⟨.unk::.unk::.ptr 0 0 0 0::.ptr 1 0 0 0::.ptr 2 0 0 0::.ptr 3 0 0 0::ra 4 (.tree 3 p.lf3 p.ec7::i p.Ee4::i s.lb9::ra 27 []),[⟨0,4,[[i p.d9,i p.d7,i p.f0,.tree 3 p.Pe4 p.Pe5]],true,false,0⟩,⟨0,3,[[i p.s9,i p.u7,i p.u8]],true,false,0⟩,⟨0,3,[[i 0,i 0,i 0]],true,false,0⟩,⟨0,3,[[i s.oa9,i s.pa0,i s.pa1]],true,false,0⟩]⟩
noncomputable def E4{α:Type}(k:y6->α)(e:Nat->α)(z:α)(p:V2)(s:y6):α:=let t1:=(H7 (⟨s.oa9,s.pa0,s.pa1⟩:V3) (⟨p.s9,p.u7,p.u8⟩:V3));let t2:=(H7 (⟨toI (hdA (p.ec7 s.lb9.toNat)),toI (hdA (tlA (p.ec7 s.lb9.toNat))),toI (hdA (tlA (tlA (p.ec7 s.lb9.toNat))))⟩:V3) (⟨p.s9,p.u7,p.u8⟩:V3));let t3:=(C4 t1 t2);let t4:=(C0 (⟨p.d9,p.d7,p.f0⟩:V3) t3);(sl (decide (s.lb9<p.Ee4)) (sl (inB s.lb9 p.lf3) (sl ((Nat.ble 3 (len (p.ec7 s.lb9.toNat)))&&(ea5 [CK.int .i64,CK.int .i64,CK.int .i64] (p.ec7 s.lb9.toNat))) (sl (!(((toI (hdA (p.ec7 s.lb9.toNat)))==p.s9)&&(((toI (hdA (tlA (p.ec7 s.lb9.toNat))))==p.u7)&&(((toI (hdA (tlA (tlA (p.ec7 s.lb9.toNat)))))==p.u8)&&true)))) (sl ((s.oa9==p.s9)&&((s.pa0==p.u7)&&((s.pa1==p.u8)&&true))) (k ⟨W (s.lb9+1),toI (hdA (p.ec7 s.lb9.toNat)),toI (hdA (tlA (p.ec7 s.lb9.toNat))),toI (hdA (tlA (tlA (p.ec7 s.lb9.toNat))))⟩) (sl (decide (t4<0)) (k ⟨W (s.lb9+1),toI (hdA (p.ec7 s.lb9.toNat)),toI (hdA (tlA (p.ec7 s.lb9.toNat))),toI (hdA (tlA (tlA (p.ec7 s.lb9.toNat))))⟩) (k ⟨W (s.lb9+1),s.oa9,s.pa0,s.pa1⟩))) (k ⟨W (s.lb9+1),s.oa9,s.pa0,s.pa1⟩)) z) z) (e 1))
noncomputable def T4(p:V2)(s:y6):Stp y6:=E4 .next .exit .fail p s
noncomputable def wa6:Lo V2 y6:=⟨En Xa1,0,ff3,[1,1,0,1,4,4],[2,3,4,5,10,11,12],.p,[⟨sUq::sUq::sPq 0::sPq 1::sPq 2::sPq 3::ru2 4 (sTq 3::sIq::sIq::ru2 27 []),[⟨0,4,true,some [[.o (.int .i64),.o (.int .i64),.o (.int .i64),.o (.tree 3)]]⟩,⟨0,3,true,some [kLq 3]⟩,⟨0,3,true,some [[.o (.lit .i64 0),.o (.lit .i64 0),.o (.lit .i64 0)]]⟩,⟨0,3,true,some [kLq 3]⟩],λa H=>(⟨aNq a 10,aGq a 10,aIq a 11,hIq H 0 0 0,hIq H 0 0 1,hIq H 0 0 2,hNq H 0 0 3,hGq H 0 0 3,hIq H 1 0 0,hIq H 1 0 1,hIq H 1 0 2⟩,⟨aIq a 12,hIq H 3 0 0,hIq H 3 0 1,hIq H 3 0 2⟩)⟩],T4,[(some 0,λp s=>upq (Pa3 p s) [(13,b (decide (s.lb9<p.Ee4)))])],Pa3⟩
theorem Db5:wa6.Ok:=Lo.ok [] (by kernel_rfl) .nil rfl (.cons (λa H=>by kernel_rfl) .nil) λp s=>(.of @E4 (λF _ _ _ _ _=>by unfold E4;(repeat' apply r9 (f:=F))<;>rfl) (by kernel_rfl))
structure oa6 where
 alt:Nat
 (ra0 ra1 ra2:Int)
noncomputable def T8{α:Type}(kk:oa6->α)(x:oa5):α:=let t1:=(lp (T4 (⟨x.ee3,x.Ee0,(↑x.ee3:Int),x.ra0,x.ra1,x.ra2,x.ee3,x.Ee0,x.Ee1,x.Ee2,x.Ee3⟩:V2)) (⟨0,x.Ee1,x.Ee2,x.Ee3⟩:y6));(sl (Nat.beq t1.1 1) (kk ⟨1,t1.2.oa9,t1.2.pa0,t1.2.pa1⟩) (kk ⟨0,0,0,0⟩))
noncomputable def ea9(x:oa5):oa6:=T8 (λr=>r) x
noncomputable def Aa3(x:oa5)(r:oa6):DT (b7×List c8):=(.ite (Nat.beq r.alt 1) (.ret (.agg [i r.ra0,i r.ra1,i r.ra2],[])) .fail)
theorem Vb6{α β:Type}(F:α->β)(kk:oa6->α)(x:oa5):F (T8 kk x)=T8 (λr=>F (kk r)) x:=by unfold T8;(repeat' apply r9 (f:=F))<;>rfl
noncomputable def ab2:Sum:=zb9 ⟨[.agg [.o (.int .i64),.o (.int .i64),.o (.int .i64),.o (.tree 3)],.agg (kLq 3)],[],λa H=>(⟨cIq a 0 0,cIq a 0 1,cIq a 0 2,cNq a 0 3,cGq a 0 3,cIq a 1 0,cIq a 1 1,cIq a 1 2⟩,())⟩ (λx=>Aa3 x (ea9 x))
theorem Pb5:i7 prog G 38 ab2:=ja6 (enc:=λx=>⟨[.agg [i x.ra0,i x.ra1,i x.ra2,.tree 3 x.ee3 x.Ee0],.agg [i x.Ee1,i x.Ee2,i x.Ee3]],[]⟩) (λa H=>by kernel_rfl) (bd b38 Hb3) λx=>Ea4 (.s .p (.s .p (.s (.s .p (.b (.u wa6.ls))) .p))) [wa6.pr] (by kernel_rfl) (.cons Db5 .nil) (Eq.trans (b:=T8 (λr=>(Aa3 x r).run) x) (by kernel_rfl) (Vb6 (λr=>(Aa3 x r).run) (λr=>r) x).symm)
noncomputable def Zb4:List (Nat×Sum):=[(36,va1),(35,xa8)]
theorem Wc9:k8 prog G Zb4:=⟨xa9,Ba9,trivial⟩
@[reducible] noncomputable def Db6:Sum:=fc4 (En Zb4) ff1
theorem Zb5:i7 prog G 34 Db6:=bd b34 Wc9
structure db1 where
 (ra0 ra1 ra2 is1 md4 md5 md6:Int)
 md7:Nat
 md8:Nat->List b7
 d9:Int
noncomputable def Zb6:List (Nat×Sum):=[(38,ab2),(36,va1),(35,xa8),(34,Db6)]
theorem Xc0:k8 prog G Zb6:=⟨Pb5,xa9,Ba9,Zb5,trivial⟩
structure Aa4 where
 (md4 md5 md6:Int)
 md7:Nat
 md8:Nat->List b7
 (Pe6 s9 u7 u8:Int)
structure aa7 where
 (Pe7 d9 I8 I9 J0:Int)
noncomputable def Gb6(p:Aa4)(s:aa7):St:=⟨.unk::.unk::.fn 100038 [i p.md4,i p.md5,i p.md6,.tree 3 p.md7 p.md8]::.fn 34 [.ptr 0 0 0 0]::.ptr 1 0 0 0::ra 3 (.ptr 2 0 0 0::ra 5 (i p.Pe6::i s.Pe7::ra 11 [])),[⟨0,1,[[i s.d9]],true,false,0⟩,⟨0,3,[[i p.s9,i p.u7,i p.u8]],true,false,0⟩,⟨0,3,[[i s.I8,i s.I9,i s.J0]],true,false,0⟩]⟩
noncomputable def Y2{α:Type}(k:aa7->α)(e:Nat->α)(z:α)(p:Aa4)(s:aa7):α:=let t1:=(ea9 ⟨p.md4,p.md5,p.md6,p.md7,p.md8,s.I8,s.I9,s.J0⟩);let t2:=(C4 (⟨p.s9,p.u7,p.u8⟩:V3) (⟨s.I8,s.I9,s.J0⟩:V3));let t3:=(C0 t2 (⟨t1.ra0,t1.ra1,t1.ra2⟩:V3));(sl (decide (s.Pe7<p.Pe6)) (sl (Nat.beq t1.alt 1) (k ⟨W (s.Pe7+1),W (s.d9+t3),t1.ra0,t1.ra1,t1.ra2⟩) z) (e 1))
noncomputable def ua5(p:Aa4)(s:aa7):Stp aa7:=Y2 .next .exit .fail p s
noncomputable def kb7:Lo Aa4 aa7:=⟨En Zb6,1,ff2,[1,1,1,4,4],[2,3,4,8,14,15],.p,[⟨sUq::sUq::.fn 100038 [.o (.int .i64),.o (.int .i64),.o (.int .i64),.o (.tree 3)]::.fn 34 [.o (.ptr 0 0 0 0)]::sPq 1::ru2 3 (sPq 2::ru2 5 (sIq::sIq::ru2 11 [])),[⟨0,1,true,some [[.o (.int .i64)]]⟩,⟨0,3,true,some [kLq 3]⟩,⟨0,3,true,some [kLq 3]⟩],λa H=>(⟨cIq a 2 0,cIq a 2 1,cIq a 2 2,cNq a 2 3,cGq a 2 3,aIq a 14,hIq H 1 0 0,hIq H 1 0 1,hIq H 1 0 2⟩,⟨aIq a 15,hIq H 0 0 0,hIq H 2 0 0,hIq H 2 0 1,hIq H 2 0 2⟩)⟩],ua5,[(some 0,λp s=>upq (Gb6 p s) [(16,b (decide (s.Pe7<p.Pe6)))])],Gb6⟩
theorem Hc0:kb7.Ok:=Lo.ok [] (by kernel_rfl) .nil rfl (.cons (λa H=>by kernel_rfl) .nil) λp s=>(.of @Y2 (λF _ _ _ _ _=>by unfold Y2;(repeat' apply r9 (f:=F))<;>rfl) (by kernel_rfl))
structure db2 where
 alt:Nat
 d9:Int
noncomputable def Da4{α:Type}(kk:db2->α)(x:db1):α:=let t1:=(ea9 ⟨x.md4,x.md5,x.md6,x.md7,x.md8,x.ra0,x.ra1,x.ra2⟩);let t2:=(lp (ua5 (⟨x.md4,x.md5,x.md6,x.md7,x.md8,W (x.is1-2),x.ra0,x.ra1,x.ra2⟩:Aa4)) (⟨0,x.d9,t1.ra0,t1.ra1,t1.ra2⟩:aa7));(sl (Nat.beq t1.alt 1) (sl (Nat.beq t2.1 1) (kk ⟨1,t2.2.d9⟩) (kk ⟨0,0⟩)) (kk ⟨0,0⟩))
noncomputable def db3(x:db1):db2:=Da4 (λr=>r) x
noncomputable def sb6(x:db1)(r:db2):DT (b7×List c8):=(.ite (Nat.beq r.alt 1) (.ret (.tup [],[⟨0,1,[[i r.d9]],true,false,0⟩])) .fail)
theorem vd5{α β:Type}(F:α->β)(kk:db2->α)(x:db1):F (Da4 kk x)=Da4 (λr=>F (kk r)) x:=by unfold Da4;(repeat' apply r9 (f:=F))<;>rfl
noncomputable def pc1:Sum:=zb9 ⟨[.agg (kLq 3),sIq,.fn 100038 [.o (.int .i64),.o (.int .i64),.o (.int .i64),.o (.tree 3)],.fn 34 [.o (.ptr 0 0 0 0)]],[⟨0,1,true,some [[.o (.int .i64)]]⟩],λa H=>(⟨cIq a 0 0,cIq a 0 1,cIq a 0 2,aIq a 1,cIq a 2 0,cIq a 2 1,cIq a 2 2,cNq a 2 3,cGq a 2 3,hIq H 0 0 0⟩,())⟩ (λx=>sb6 x (db3 x))
theorem ed3:i7 prog G 37 pc1:=ja6 (enc:=λx=>⟨[.agg [i x.ra0,i x.ra1,i x.ra2],i x.is1,.fn 100038 [i x.md4,i x.md5,i x.md6,.tree 3 x.md7 x.md8],.fn 34 [.ptr 0 0 0 0]],[⟨0,1,[[i x.d9]],true,false,0⟩]⟩) (λa H=>by kernel_rfl) (bd b37 Xc0) λx=>Ea4 (.s .p (.s .p (.s .p (.b (.u kb7.ls))))) [kb7.pr] (by kernel_rfl) (.cons Hc0 .nil) (Eq.trans (b:=Da4 (λr=>(sb6 x r).run) x) (by kernel_rfl) (vd5 (λr=>(sb6 x r).run) (λr=>r) x).symm)
theorem vd6:Ua4 []=U6 []/\Ua5 []=true:=by
 have h:Fa8 []=some (.tup [.v (.slice none 0 0),i 11],[]):=by
  unfold Fa8;simp only[l5,L5,j9,Uc9 [] (by simp),Uc8 [] (by simp),oc2]
  rfl
 unfold Ua4 Ua5 U6;rw[h,oc2];exact⟨rfl,rfl⟩
theorem jf9:Za5 []=Vb5 []/\Za6 []=true:=by
 have h:ua1 []=some (.tup [.v (.slice none 0 0),i 11],[]):=by
  unfold ua1;simp only[l5,L5,j9,vd6.1,vd6.2,U6,oc2];rfl
 unfold Za5 Za6 Vb5;rw[h,oc2];exact⟨rfl,rfl⟩
theorem ce5 {α : Type} {f : Nat} {c : Cod α} {k kA kB : α → DT (b7 × List c8)} (hA : i7 prog G f (N1 c kA)) (hB : i7 prog G f (N1 c kB))
  (h:∀a r,(k a).run=some r->(kA a).run=some r\/(kB a).run=some r):i7 prog G f (N1 c k):=λargs blks r out he=>by
 unfold N1 at he
 split at he
 ·rename_i x;cases hd:c.dec x with
  |none=>rw[hd] at he;cases he
  |some a =>
   rw[hd] at he;obtain⟨h1,h2⟩:=DT.run_guard_some (show (DT.guard (c.grd x) (k a)).run=some (r,out) from he)
   rcases h a _ h2 with q|q
   ·refine hA [x] [] r out ?_;show (onO (c.dec x) λa=>DT.guard (c.grd x) (kA a)).run=_
    rw[hd];show (DT.guard (c.grd x) (kA a)).run=_;rw[h1];exact q
   ·refine hB [x] [] r out ?_;show (onO (c.dec x) λa=>DT.guard (c.grd x) (kB a)).run=_
    rw[hd];show (DT.guard (c.grd x) (kB a)).run=_;rw[h1];exact q
 ·cases he
noncomputable def sb7(l:List V3):List Pln×Int:=U6 l
noncomputable def sb8(l:List V3):Bool:=decide (l.length<=900000)
noncomputable def Zb7:Sum:=N1 (na0 tV) λl=>.guard (sb8 l) (.ret ((two (r1L tP) r1I).enc (sb7 l),[]))
theorem Xc1:i7 prog G 22 Zb7:=ce5 Vc2 Nb7 λl r hr=>by
 obtain⟨hg,hr⟩:=DT.run_guard_some hr;cases l with
 |nil=>right;rw[vd6.1,vd6.2];exact hr
 |cons a c =>
  left
  have:=of_decide_eq_true hg
  rw[show Yb7 (a::c)=true from decide_eq_true ⟨by simp,this⟩]
  exact hr
noncomputable def Za8(l:List V3):List V3×Int:=Vb5 l
noncomputable def Za9(l:List V3):Bool:=decide (l.length<=900000)
noncomputable def Gb7:Sum:=N1 (na0 tV) λl=>.guard (Za9 l) (.ret ((two (r1L tV) r1I).enc (Za8 l),[]))
theorem xc5:i7 prog G 32 Gb7:=ce5 wc9 vc2 λl r hr=>by
 obtain⟨hg,hr⟩:=DT.run_guard_some hr;cases l with
 |nil=>right;rw[jf9.1,jf9.2];exact hr
 |cons a c =>
  left
  have:=of_decide_eq_true hg
  rw[show Gb5 (a::c)=true from decide_eq_true ⟨by simp,this⟩]
  exact hr
noncomputable def sb9:List (Nat×Sum):=[(32,Gb7),(22,Zb7),(30,Na3),(37,pc1),(34,Db6)]
theorem Xc2:k8 prog G sb9:=⟨xc5,Xc1,Ta9,ed3,Zb5,trivial⟩
structure T5 where
 Hb0:List V3
 qa6:List Pln
 (Wd6 tb2:Int)
 Ja5:List V3
 (Wd7 d9 s9 u7 u8 xa2 I8 I9 J0:Int)
structure z7 where
 ph:Nat
 mb0:Int
 db6:Nat
 eh3:List (List b7)
noncomputable def yb3(p:T5)(s:z7):St:=⟨ra 4 (eL tV p.Hb0::.unk::.unk::.ptr 0 0 0 0::.fn 34 [.ptr 0 0 0 0]::.unk::.ptr 1 0 0 0::.ptr 2 0 0 0::ra 19 (eL tP p.qa6::i p.Wd6::i p.tb2::ra 6 (eL tV p.Ja5::i p.Wd7::i s.mb0::ra 31 []))),[⟨0,1,[[i p.d9]],true,false,0⟩,⟨0,4,[[i p.s9,i p.u7,i p.u8,i p.xa2]],true,false,0⟩,⟨0,0,[[i p.I8,i p.I9,i p.J0,.v (.slice none 0 0)]],true,false,0⟩]⟩
noncomputable def yb4(p:T5)(s:z7):St:=⟨ra 4 (eL tV p.Hb0::.unk::.unk::.ptr 0 0 0 0::.fn 34 [.ptr 0 0 0 0]::.unk::.ptr 1 0 0 0::.ptr 2 0 0 0::ra 19 (eL tP p.qa6::i p.Wd6::i p.tb2::ra 6 (eL tV p.Ja5::i p.Wd7::i s.mb0::ra 31 []))),[⟨0,1,[[i p.d9]],true,false,0⟩,⟨0,4,[[i p.s9,i p.u7,i p.u8,i p.xa2]],true,false,0⟩,⟨0,0,[[i p.I8,i p.I9,i p.J0,.sl 3 0 s.db6 0]],true,false,0⟩,⟨25,3,s.eh3,true,false,0⟩]⟩
noncomputable def Hc1(p:T5)(s:z7):St:=(sel (Nat.beq s.ph 1) (yb4 p s) (yb3 p s))
noncomputable def Y3{α:Type}(k:z7->α)(e:Nat->α)(z:α)(p:T5)(s:z7):α:=let t1:=(R4 (⟨(⟨p.s9,p.u7,p.u8⟩:V3),p.xa2⟩:Pln) (gL tV p.Ja5 s.mb0.toNat));(sl (decide (s.mb0<p.Wd7)) (sl (inB s.mb0 (List.length p.Ja5)) (sl (fa7 (⟨(⟨p.s9,p.u7,p.u8⟩:V3),p.xa2⟩:Pln) (gL tV p.Ja5 s.mb0.toNat)) (sl (t1==0) (k ⟨1,W (s.mb0+1),1,[[i (gL tV p.Ja5 s.mb0.toNat).x,i (gL tV p.Ja5 s.mb0.toNat).y,i (gL tV p.Ja5 s.mb0.toNat).z]]⟩) (k ⟨0,W (s.mb0+1),0,[]⟩)) z) z) (e 1))
noncomputable def Y4{α:Type}(k:z7->α)(e:Nat->α)(z:α)(p:T5)(s:z7):α:=let t1:=(R4 (⟨(⟨p.s9,p.u7,p.u8⟩:V3),p.xa2⟩:Pln) (gL tV p.Ja5 s.mb0.toNat));(sl (decide (s.mb0<p.Wd7)) (sl (inB s.mb0 (List.length p.Ja5)) (sl (fa7 (⟨(⟨p.s9,p.u7,p.u8⟩:V3),p.xa2⟩:Pln) (gL tV p.Ja5 s.mb0.toNat)) (sl (t1==0) (sl (Nat.beq s.db6 (len s.eh3)&&Nat.ble ((s.db6+1)*24) room) (k ⟨1,W (s.mb0+1),s.db6+1,app s.eh3 [[i (gL tV p.Ja5 s.mb0.toNat).x,i (gL tV p.Ja5 s.mb0.toNat).y,i (gL tV p.Ja5 s.mb0.toNat).z]]⟩) z) (k ⟨1,W (s.mb0+1),s.db6,s.eh3⟩)) z) z) (e 2))
noncomputable def ua6(p:T5)(s:z7):Stp z7:=(sel (Nat.beq s.ph 1) (Y4 .next .exit .fail p s) (Y3 .next .exit .fail p s))
noncomputable def kb8:Lo T5 z7:=⟨En sb9,0,Ve8,[1,1,1,1,1,1,1,0,1,4,4,1,1,0,4,1,1,0,1,4,4],[4,7,8,10,11,31,32,33,40,41,42],.p,[⟨ru2 4 (sLq tV::sUq::sUq::sPq 0::.fn 34 [.o (.ptr 0 0 0 0)]::sUq::sPq 1::sPq 2::ru2 19 (sLq tP::sIq::sIq::ru2 6 (sLq tV::sIq::sIq::ru2 31 []))),[⟨0,1,true,some [[.o (.int .i64)]]⟩,⟨0,4,true,some [kLq 4]⟩,⟨0,0,true,some [[.o (.int .i64),.o (.int .i64),.o (.int .i64),.o .nil]]⟩],λa H=>(⟨aLq tV a 4,aLq tP a 31,aIq a 32,aIq a 33,aLq tV a 40,aIq a 41,hIq H 0 0 0,hIq H 1 0 0,hIq H 1 0 1,hIq H 1 0 2,hIq H 1 0 3,hIq H 2 0 0,hIq H 2 0 1,hIq H 2 0 2⟩,⟨0,aIq a 42,0,[]⟩)⟩,⟨ru2 4 (sLq tV::sUq::sUq::sPq 0::.fn 34 [.o (.ptr 0 0 0 0)]::sUq::sPq 1::sPq 2::ru2 19 (sLq tP::sIq::sIq::ru2 6 (sLq tV::sIq::sIq::ru2 31 []))),[⟨0,1,true,some [[.o (.int .i64)]]⟩,⟨0,4,true,some [kLq 4]⟩,⟨0,0,true,some [[.o (.int .i64),.o (.int .i64),.o (.int .i64),.o (.sl 3 0 (some 0) none)]]⟩,⟨25,3,true,none⟩],λa H=>(⟨aLq tV a 4,aLq tP a 31,aIq a 32,aIq a 33,aLq tV a 40,aIq a 41,hIq H 0 0 0,hIq H 1 0 0,hIq H 1 0 1,hIq H 1 0 2,hIq H 1 0 3,hIq H 2 0 0,hIq H 2 0 1,hIq H 2 0 2⟩,⟨1,aIq a 42,slN (slT (rwT (elT H 2) 0) 3),elT H 3⟩)⟩],ua6,[(some 2,λp s=>upq (yb3 p s) [(43,b (decide (s.mb0<p.Wd7)))]),(some 2,λp s=>upq (yb4 p s) [(43,b (decide (s.mb0<p.Wd7)))])],Hc1⟩
theorem Hc2:kb8.OkM:=Lo.okM [] (by kernel_rfl) .nil rfl (.cons (λa H=>by kernel_rfl) (.cons (λa H=>by kernel_rfl) .nil)) λp s=>(.sel (Nat.beq s.ph 1) (.of @Y4 (λF _ _ _ _ _=>by unfold Y4;(repeat' apply r9 (f:=F))<;>rfl) (by kernel_rfl)) (.of @Y3 (λF _ _ _ _ _=>by unfold Y3;(repeat' apply r9 (f:=F))<;>rfl) (by kernel_rfl)))
structure Aa5 where
 Wd6:Int
structure O8 where
 Hb0:List V3
 qa6:List Pln
 (tb2 d9:Int)
noncomputable def Gb8(p:Aa5)(s:O8):St:=⟨ra 4 (eL tV s.Hb0::.unk::.unk::.ptr 0 0 0 0::.fn 34 [.ptr 0 0 0 0]::ra 22 (eL tP s.qa6::i p.Wd6::i s.tb2::ra 40 [])),[⟨0,1,[[i s.d9]],true,false,0⟩]⟩
noncomputable def Y5{α:Type}(k:O8->α)(e:Nat->α)(z:α)(p:Aa5)(s:O8):α:=let t1:=(lp (ua6 (⟨rt tV s.Hb0,rt tP s.qa6,p.Wd6,s.tb2,rt tV s.Hb0,(↑(List.length s.Hb0):Int),s.d9,(gL tP s.qa6 s.tb2.toNat).n.x,(gL tP s.qa6 s.tb2.toNat).n.y,(gL tP s.qa6 s.tb2.toNat).n.z,(gL tP s.qa6 s.tb2.toNat).b,(gL tP s.qa6 s.tb2.toNat).n.x,(gL tP s.qa6 s.tb2.toNat).n.y,(gL tP s.qa6 s.tb2.toNat).n.z⟩:T5)) (⟨0,0,0,[]⟩:z7));let t2:=(db3 ⟨(rdR tV t1.2.eh3 0).x,(rdR tV t1.2.eh3 0).y,(rdR tV t1.2.eh3 0).z,(↑t1.2.db6:Int),(gL tP s.qa6 s.tb2.toNat).n.x,(gL tP s.qa6 s.tb2.toNat).n.y,(gL tP s.qa6 s.tb2.toNat).n.z,t1.2.db6,(λk=>f7 t1.2.eh3 (0+k)),s.d9⟩);(sl (decide (s.tb2<p.Wd6)) (sl (inB s.tb2 (List.length s.qa6)) (sl ((cnE tV s.Hb0)&&((cnE tP s.qa6)&&((cnE tV s.Hb0)&&true))) (sl (Nat.beq t1.1 1) (k ⟨rt tV s.Hb0,rt tP s.qa6,W (s.tb2+1),s.d9⟩) (sl (Nat.beq t1.1 2) (sl (decide ((↑t1.2.db6:Int)>2)) (sl (inB 0 t1.2.db6) (sl (ldR tV t1.2.eh3 0) (sl (Nat.beq t2.alt 1) (k ⟨rt tV s.Hb0,rt tP s.qa6,W (s.tb2+1),t2.d9⟩) z) z) z) (k ⟨rt tV s.Hb0,rt tP s.qa6,W (s.tb2+1),s.d9⟩)) z)) z) z) (e 1))
noncomputable def ua7(p:Aa5)(s:O8):Stp O8:=Y5 .next .exit .fail p s
noncomputable def kb9:Lo Aa5 O8:=⟨En sb9,0,Ve8,[1,1,1,1,1,1,1,0,1,4,4],[4,7,8,31,32,33],.s .p (.s .p (.s (.b (.s .p (.s .p (.s (.s .p (.b (.u kb8.lsM))) .p)))) .p)),[⟨ru2 4 (sLq tV::sUq::sUq::sPq 0::.fn 34 [.o (.ptr 0 0 0 0)]::ru2 22 (sLq tP::sIq::sIq::ru2 40 [])),[⟨0,1,true,some [[.o (.int .i64)]]⟩],λa H=>(⟨aIq a 32⟩,⟨aLq tV a 4,aLq tP a 31,aIq a 33,hIq H 0 0 0⟩)⟩],ua7,[(some 0,λp s=>upq (Gb8 p s) [(34,b (decide (s.tb2<p.Wd6)))])],Gb8⟩
theorem Hc3:kb9.OkM:=Lo.okM [kb8.prM] (by kernel_rfl) (.cons Hc2 .nil) rfl (.cons (λa H=>by kernel_rfl) .nil) λp s=>(.of @Y5 (λF _ _ _ _ _=>by unfold Y5;(repeat' apply r9 (f:=F))<;>rfl) (by kernel_rfl))
noncomputable def Pa4(x:List V3):Option (b7×List c8):=let t1:=(Za8 (rt tV x));let t2:=(sb7 (rt tV t1.1));let t3:=(lp (ua7 (⟨(↑(List.length t2.1):Int)⟩:Aa5)) (⟨rt tV t1.1,rt tP t2.1,0,0⟩:O8));(sl (okE tV x) (sl (Za9 (rt tV x)) (sl (t1.2 != 0) (some (.tup [i 0,i t1.2],[])) (sl (okE tV t1.1) (sl (sb8 (rt tV t1.1)) (sl (t2.2 != 0) (some (.tup [i 0,i t2.2],[])) (sl ((cnE tV t1.1)&&((cnE tP t2.1)&&true)) (sl (Nat.beq t3.1 1) (some (.tup [i t3.2.d9,i 0],[])) none) none)) none) none)) none) none)
noncomputable def Z2(x:List V3):Int×Int:=N7 (two r1I r1I) (Pa4 x)
noncomputable def Z3(x:List V3):Bool:=okO (two r1I r1I) (Pa4 x)
noncomputable def Pa5:Sum:=N1 (na0 tV) (λx=>.guard (Z3 x) (.ret ((two r1I r1I).enc (Z2 x),[])))
theorem Va0:i7 prog G 11 Pa5:=Ea3 (bd b11 Xc2) (two r1I r1I) (o:=Pa4) λx=>jd3 (.s .p (.s .p (.s .p (.s .p (.s .p (.s .p (.s .p (.s (.s .p (.b (.u kb9.lsM))) .p)))))))) [kb9.prM] (by kernel_rfl) (.cons Hc3 .nil) (by kernel_rfl)
end Go.Ev.Ce
namespace Go.Ev.Ce
def sig{α:Type}(l:List α)(f:α->Int):Int:=l.foldr (λx s=>f x+s) 0
section
variable{α β:Type}
theorem Pa6(f:α->Int):sig [] f=0:=rfl
theorem v7(x:α)(l:List α)(f:α->Int):sig (x::l) f=f x+sig l f:=rfl
theorem ob9(f:α->Int):∀a c:List α,sig (a++c) f=sig a f+sig c f
 |[],c=>by rw[List.nil_append,Pa6,Qkz]
 |x::a,c=>by rw[List.cons_append,v7,v7,ob9 f a c,Int.add_assoc]
theorem T9{f g:α->Int}:∀{l:List α},(∀x∈l,f x=g x)->sig l f=sig l g
 |[],_=>rfl
 |x::l,h=>by rw[v7,v7,h x (by simp),T9 λy hy=>h y (by simp[hy])]
theorem ce6(f g:α->Int):∀l:List α,sig l (λx=>f x+g x)=sig l f+sig l g
 |[]=>rfl
 |x::l=>by rw[v7,v7,v7,ce6 f g l];omega
theorem pc2(f g:α->Int):∀l:List α,sig l (λx=>f x-g x)=sig l f-sig l g
 |[]=>rfl
 |x::l=>by rw[v7,v7,v7,pc2 f g l];omega
theorem vd7(f:α->Int):∀l:List α,sig l (λx=>-f x)=-sig l f
 |[]=>rfl
 |x::l=>by rw[v7,v7,vd7 f l];omega
theorem ce7(k:Int)(f:α->Int):∀l:List α,sig l (λx=>k*f x)=k*sig l f
 |[]=>by rw[Pa6,Pa6,Qkd]
 |x::l=>by rw[v7,v7,ce7 k f l,Int.mul_add]
theorem Xa2{f:α->Int}:∀{l:List α},(∀x∈l,f x=0)->sig l f=0
 |[],_=>rfl
 |x::l,h=>by rw[v7,h x (by simp),Xa2 λy hy=>h y (by simp[hy]),Qkz]
theorem pc3(c:List β)(f:α->β->Int):∀a:List α,sig a (λx=>sig c (f x))=sig c (λy=>sig a (λx=>f x y))
 |[]=>(Xa2 λ_ _=>rfl).symm
 |x::a=>by rw[v7,pc3 c f a,<- ce6];exact T9 λy _=>rfl
theorem Jd7{f:α->Int}{a c:List α}(h:a.Perm c):sig a f=sig c f:=by
 induction h with
 |nil=>rfl
 |cons x _ ih=>rw[v7,v7,ih]
 |swap x y l=>rw[v7,v7,v7,v7];omega
 |trans _ _ h1 h2=>rw[h1,h2]
theorem Kc2(g:α->β)(f:β->Int):∀l:List α,sig (l.map g) f=sig l (λx=>f (g x))
 |[]=>rfl
 |x::l=>by rw[List.map_cons,v7,v7,Kc2 g f l]
theorem Db7(c:α->Bool)(f:α->Int):∀l:List α,sig (l.filter c) f=sig l (λx=>if c x=true then f x else 0)
 |[]=>rfl
 |x::l=>by
  rw[List.filter_cons,v7];split
  ·rw[v7,Db7 c f l]
  ·rw[Db7 c f l,Qkz]
theorem Ae0{f g:α->Int}:∀{l:List α},(∀x∈l,f x<=g x)->sig l f<=sig l g
 |[],_=>Qkx _
 |x::l,h=>by
  rw[v7,v7]
  have:=h x (by simp)
  have:=Ae0 (l:=l) λy hy=>h y (by simp[hy])
  omega
theorem Xc3{f:α->Int}{l:List α}(h:∀x∈l,0<=f x):0<=sig l f:=by
 have:=Ae0 (f:=λ_=>0) h
 rw[Xa2 (λ_ _=>rfl)] at this
 exact this
theorem ec5{f:α->Int}{x:α}:∀{l:List α},l.Nodup->x∈l->(∀y∈l,y≠x->f y=0)->sig l f=f x
 |[],_,h,_=>by cases h
 |y::l,hn,hx,h=>by
  obtain⟨h1,h2⟩:=List.nodup_cons.1 hn;rw[v7]
  rcases Qke.1 hx with rfl|hx
  ·rw[Xa2 (λz hz=>h z (by simp[hz]) λe=>h1 (e ▸ hz)),Qkaa]
  ·rw[h y (by simp) (λe=>h1 (e ▸ hx)),ec5 h2 hx λz hz=>h z (by simp[hz]),Qkz]
theorem Ne3{a c:List α}(ha:a.Nodup)(hc:c.Nodup)(h:∀x,x∈a↔x∈c):a.Perm c:=(List.perm_ext_iff_of_nodup ha hc).2 h
theorem Jd8{a c:List α}(ha:a.Nodup)(hc:c.Nodup)(hs:∀x∈a,x∈c)(hl:c.length<=a.length):a.Perm c:=by
 refine Ne3 ha hc λx=>⟨hs x,λhx=>?_⟩
 apply Qka;intro hn
 have:=List.Nodup.length_le_of_subset (List.nodup_cons.2 ⟨hn,ha⟩) (λy hy=>(Qke.1 hy).elim (λe=>e ▸ hx) (hs y))
 simp only[List.length_cons] at this;omega
theorem Ae1{a:List α}{f:α->α->Int}(h:∀x∈a,∀y∈a,f x y=-f y x):sig a (λx=>sig a (f x))=0:=by
 have e1:=pc3 a f a;have e2:sig a (λy=>sig a λx=>f x y)=-sig a (λy=>sig a (f y)):=by
  rw[<- vd7];refine T9 λy hy=>?_
  rw[<- vd7];exact T9 λx hx=>h x hx y hy
 omega
end
end Go.Ev.Ce
namespace Go.Ev.Ce
open Go Go.Ev Go.Ev.L Go.Proofs
structure Ins(r:List Pln)(x:Pt):Prop where
 w:0<x.pw
 h:∀p∈r,0<rmZ p x
theorem Ins.inr{r:List Pln}{x:Pt}(h:Ins r x):Inr r x:=⟨h.w,λp hp=>Int.le_of_lt (h.h p hp)⟩
theorem Ins.mono{r r':List Pln}{x:Pt}(h:Ins r x)(hs:∀p∈r',p∈r):Ins r' x:=⟨h.w,λp hp=>h.h p (hs p hp)⟩
theorem Inr.mono{r r':List Pln}{x:Pt}(h:Inr r x)(hs:∀p∈r',p∈r):Inr r' x:=⟨h.w,λp hp=>h.h p (hs p hp)⟩
theorem Ins.app{r r':List Pln}{x:Pt}(h:Ins r x)(h':Ins r' x):Ins (r++r') x:=⟨h.w,λp hp=>(Qkf.1 hp).elim (h.h p) (h'.h p)⟩
theorem Inr.app{r r':List Pln}{x:Pt}(h:Inr r x)(h':Inr r' x):Inr (r++r') x:=⟨h.w,λp hp=>(Qkf.1 hp).elim (h.h p) (h'.h p)⟩
theorem far{f g:Pln->Int}:∀l:List Pln,(∀p∈l,0<f p)->∃N:Int,0<=N/\∀M,N<=M->∀p∈l,0<M*f p+g p
 |[],_=>⟨0,Qkx _,λ_ _ p hp=>by cases hp⟩
 |a::l,h=>by
  obtain⟨N,h0,h1⟩:=far l λp hp=>h p (Qks _ hp)
  have ha:=h a Qki;refine⟨max N ((g a).natAbs+1),by omega,λM hM p hp=>?_⟩
  rcases Qke.1 hp with rfl|hp
  ·have:M*1<=M*f p:=Qkac (by omega) (by omega)
   omega
  ·exact h1 M (by omega) p hp
theorem af3:∀p∈ws,okp p=true:=Qkc.1 (by decide)
theorem ma7{n:V3}(h:n≠⟨0,0,0⟩):0<dot n n:=by
 have k:∀a:Int,0<=a*a/\(a≠0->0<a*a):=λa=>by
  rcases Int.lt_trichotomy a 0 with h|h|h
  ·have:=Qkai h h;exact⟨by omega,λ_=>this⟩
  ·subst h;exact⟨by decide,λh=>absurd rfl h⟩
  ·have:=Qkt h h;exact⟨by omega,λ_=>this⟩
 unfold dot
 have:=k n.x;have:=k n.y;have:=k n.z
 by_cases hx:n.x=0
 ·by_cases hy:n.y=0
  ·by_cases hz:n.z=0
   ·exact absurd (V3.ext' hx hy hz) h
   ·have:=(k n.z).2 hz;omega
  ·have:=(k n.y).2 hy;omega
 ·have:=(k n.x).2 hx;omega
theorem Oc5{c:List Pln}(h:(chk c==0)=true):∀p∈c++ws,okp p=true:=λp hp=>by
 rw[beq_iff_eq,Tc5] at h
 rcases Qkf.1 hp with hp|hp
 ·exact h.2 p hp
 ·exact af3 p hp
def Fv:V3:=⟨10000,100,1⟩
structure Crs(l:List V3)(p:Pln)(v:V3):Prop where
 h:∃u w,u∈l/\w∈l/\dot p.n u=p.b/\dot p.n w=p.b/\dot Fv w<dot Fv v/\dot Fv v<dot Fv u/\N3 v u w≠⟨0,0,0⟩
 on:dot p.n v=p.b
section
variable{l:List V3}(hl:l.all inV=true)
include hl
theorem Xc4(hs:Sol l){p q:Pln}(hp:Qa7 l p)(hq:Qa7 l q){u w x:V3}(hu:u∈l)(hw:w∈l)(hx:x∈l)(h3:N3 u w x≠⟨0,0,0⟩)(p1:dot p.n u=p.b)(p2:dot p.n w=p.b)(p3:dot p.n x=p.b)(q1:dot q.n u=q.b)(q2:dot q.n w=q.b)(q3:dot q.n x=q.b):p=q:=by
 have hi:=Qkc.1 hl;have hT:=(ma4 (Fa9 (hi u hu) (hi w hw) (hi x hx) h3)).2;have fl:∀{p:Pln},Qa7 l p->Qa7 l (X6 p)->False:=λ{p} h h'=>by
  obtain⟨v,hv,hne⟩:=hs.off (ob5 h.ok) p.b;have a:=h.hd v hv;have c:=h'.hd v hv;rw[Ob4] at c;have c:-dot p.n v<=-p.b:=c;omega
 rcases Ob5 hT hp.ok p1 p2 p3 with e|e<;>rcases Ob5 hT hq.ok q1 q2 q3 with e'|e'
 ·rw[e,e']
 ·rw[e',<- e] at hq;exact (fl hp hq).elim
 ·rw[e,<- e'] at hp;exact (fl hq hp).elim
 ·rw[e,e']
end
theorem Jd9{α β:Type}{R:α->β->Prop}{X:List α}{L:List β}(hX:X.Nodup)(h:∀q∈X,∃y∈L,R q y)(hi:∀q∈X,∀r∈X,∀y,R q y->R r y->q=r):X.length<=L.length:=by
 have h':∀q:{ q // q∈X },∃y,y∈L/\R q.1 y:=λq=>by
  obtain⟨y,h1,h2⟩:=h q.1 q.2;exact⟨y,h1,h2⟩
 obtain⟨f,hf⟩:=Classical.axiomOfChoice h';have hn:(X.attach.map f).Nodup:=by
  unfold List.Nodup;rw[Qkw];have hXa:X.attach.Nodup:=by
   unfold List.Nodup;have h0:(X.attach.map Subtype.val).Nodup:=by rw[List.attach_map_subtype_val];exact hX
   unfold List.Nodup at h0;rw[Qkw] at h0;exact h0.imp λhne e=>hne (by rw[e])
  refine List.Pairwise.imp (λ{a c} hne e=>hne (Subtype.ext (hi a.1 a.2 c.1 c.2 (f a) (hf a).2 (by rw[e];exact (hf c).2)))) hXa
 have:=List.Nodup.length_le_of_subset hn λy hy=>by
  obtain⟨q,_,rfl⟩:=Qkb.1 hy;exact (hf q).1
 simpa using this
theorem xa1{n N d:V3}(h:c7 n N=⟨0,0,0⟩):dot N N*dot n d=dot n N*dot N d:=by
 have e:dot N N*dot n d-dot n N*dot N d=dot (c7 n N) (c7 d N):=by simp only[dot,c7];grind
 rw[h] at e;have z:dot ⟨0,0,0⟩ (c7 d N)=0:=by simp[dot]
 rw[z] at e;exact Qkal e
theorem Aa6{n a c:V3}(h1:dot n a=0)(h2:dot n c=0):c7 n (c7 a c)=⟨0,0,0⟩:=by
 refine V3.ext' ?_ ?_ ?_
 ·have:(c7 n (c7 a c)).x=a.x*dot n c-c.x*dot n a:=by simp only[c7,dot];grind
  rw[this,h1,h2];simp
 ·have:(c7 n (c7 a c)).y=a.y*dot n c-c.y*dot n a:=by simp only[c7,dot];grind
  rw[this,h1,h2];simp
 ·have:(c7 n (c7 a c)).z=a.z*dot n c-c.z*dot n a:=by simp only[c7,dot];grind
  rw[this,h1,h2];simp
theorem K7(n a c:V3):dot n (e8 a c)=dot n a-dot n c:=by simp only[dot,e8];grind
theorem vd8 {l : List V3} (hl : l.all inV = true) {n u w x : V3} (hu : u ∈ l) (hw : w ∈ l) (hx : x ∈ l) (h3 : N3 u w x ≠ ⟨0, 0, 0⟩) (hle : ∀ v ∈ l, dot n v ≤ dot n u) (e1 : dot n w = dot n u) (e2 : dot n x = dot n u) (hoff : ∃ v ∈ l, dot n v ≠ dot n u) :
  ∃p,Qa7 l p/\dot p.n u=p.b/\dot p.n w=p.b/\dot p.n x=p.b:=by
 have hi:=Qkc.1 hl;have hT:=(ma4 (Fa9 (hi u hu) (hi w hw) (hi x hx) h3)).2;obtain⟨s1,s2,s3⟩:=Uc6 hT;have hT0:=hT;obtain⟨ok,⟨g,hg,g1,g2,g3'⟩,_⟩:=hT;generalize (D0 u w x).1=p at *
 have hN:dot (N3 u w x) (N3 u w x)>0:=ma7 h3;have hpar:c7 n (N3 u w x)=⟨0,0,0⟩:=by
  have a1:dot n (e8 w u)=0:=by rw[K7];omega
  have a2:dot n (e8 x u)=0:=by rw[K7];omega
  exact Aa6 a1 a2
 have hd:∀v,dot (N3 u w x) (N3 u w x)*(dot n v-dot n u)=dot n (N3 u w x)*(g*(dot p.n v-p.b)):=λv=>by
  rw[<- K7,xa1 hpar,<- s1];congr 1
  have:g*(dot p.n v-dot p.n u)=(g*p.n.x)*(v.x-u.x)+(g*p.n.y)*(v.y-u.y)+(g*p.n.z)*(v.z-u.z):=by simp only[dot];grind
  rw[this,g1,g2,g3'];simp only[N3,dot,e8,c7,sub]
 rcases Int.lt_trichotomy (dot n (N3 u w x)) 0 with h|h|h
 ·refine⟨X6 p,nc8 hu hw hx hT0 λv hv=>?_,(Sa7 p u).2 s1,(Sa7 p w).2 s2,(Sa7 p x).2 s3⟩
  rw[Ob4];show -dot p.n v<=-p.b;have k1:=hd v;have k2:dot (N3 u w x) (N3 u w x)*(dot n v-dot n u)<=0:=Qko (by omega) (by have:=hle v hv;omega)
  apply Qka;intro hno
  have:=Qkai h (Qkj hg (show dot p.n v-p.b<0 by omega))
  omega
 ·exfalso;obtain⟨v,hv,hne⟩:=hoff;have k1:=hd v;rw[h,Qkr] at k1
  have:=(Qkk.1 k1).resolve_left (by omega)
  omega
 ·refine⟨p,Jc8 hu hw hx hT0 λv hv=>?_,s1,s2,s3⟩
  have k1:=hd v;have k2:dot (N3 u w x) (N3 u w x)*(dot n v-dot n u)<=0:=Qko (by omega) (by have:=hle v hv;omega)
  apply Qka;intro hno
  have:=Qkt h (Qkt hg (show 0<dot p.n v-p.b by omega))
  omega
structure Sim(l:List V3)(T:V3->V3):Prop where
 li:l.all inV=true
 mi:(l.map T).all inV=true
 dn:∀n:V3,∃n':V3,∃k:Int,0<k/\∀u∈l,∀w∈l,dot n' (T u)-dot n' (T w)=k*(dot n u-dot n w)
 up:∀n':V3,∃n:V3,∃k:Int,0<k/\∀u∈l,∀w∈l,dot n u-dot n w=k*(dot n' (T u)-dot n' (T w))
 n3:∀u∈l,∀w∈l,∀x∈l,N3 u w x≠⟨0,0,0⟩↔N3 (T u) (T w) (T x)≠⟨0,0,0⟩
theorem Vd5{k x:Int}(hk:0<k)(h:x<=0):k*x<=0:=Qko (by omega) h
theorem ua8{k x:Int}(hk:0<k)(h:k*x=0):x=0:=(Qkk.1 h).resolve_left (by omega)
def Car(l:List V3)(T:V3->V3)(p q:Pln):Prop:=∃u w x,u∈l/\w∈l/\x∈l/\N3 u w x≠⟨0,0,0⟩/\(dot p.n u=p.b/\dot p.n w=p.b/\dot p.n x=p.b)/\dot q.n (T u)=q.b/\dot q.n (T w)=q.b/\dot q.n (T x)=q.b/\(∀v∈l,dot p.n v=p.b↔dot q.n (T v)=q.b)
section
variable{l:List V3}{T:V3->V3}(h:Sim l T)(hs:Sol l)(hs':Sol (l.map T))
include h hs hs'
theorem Sim.mem{v:V3}(hv:v∈l):T v∈l.map T:=Qkb.2 ⟨v,hv,rfl⟩
theorem Sim.down{q:Pln}(hq:q∈F0 (l.map T)):∃p∈F0 l,Car l T p q:=by
 have hf:=(N6 h.mi q).1 hq;obtain⟨u',w',x',hu',hw',hx',h3,t1,t2,t3⟩:=hf.on;obtain⟨u,hu,rfl⟩:=Qkb.1 hu';obtain⟨w,hw,rfl⟩:=Qkb.1 hw';obtain⟨x,hx,rfl⟩:=Qkb.1 hx';obtain⟨n,k,hk,hn⟩:=h.up q.n;have h3':=(h.n3 u hu w hw x hx).2 h3;have hle:∀v∈l,dot n v<=dot n u:=λv hv=>by
  have e:=hn v hv u hu
  have:=Vd5 hk (show dot q.n (T v)-dot q.n (T u)<=0 by have:=hf.hd _ (Sim.mem h hs hs' hv);omega)
  omega
 have e1:dot n w=dot n u:=by
  have e:=hn w hw u hu;rw[t2,t1,Qkg,Qkd] at e;omega
 have e2:dot n x=dot n u:=by
  have e:=hn x hx u hu;rw[t3,t1,Qkg,Qkd] at e;omega
 have hoff:∃v∈l,dot n v≠dot n u:=by
  obtain⟨v',hv',hne⟩:=hs'.off (ob5 hf.ok) q.b;obtain⟨v,hv,rfl⟩:=Qkb.1 hv';refine⟨v,hv,λe=>hne ?_⟩
  have e':=hn v hv u hu
  have:=ua8 hk (show k*(dot q.n (T v)-dot q.n (T u))=0 by omega)
  omega
 obtain⟨p,hp,p1,p2,p3⟩:=vd8 h.li hu hw hx h3' hle e1 e2 hoff;refine⟨p,(N6 h.li p).2 hp,u,w,x,hu,hw,hx,h3',⟨p1,p2,p3⟩,t1,t2,t3,λv hv=>?_⟩
 -- on p if and only if n is highest there
 have hT:=(ma4 (Fa9 (Qkc.1 h.li u hu) (Qkc.1 h.li w hw) (Qkc.1 h.li x hx) h3')).2;have hN:dot (N3 u w x) (N3 u w x)>0:=ma7 h3';have c1:c7 n (N3 u w x)=⟨0,0,0⟩:=Aa6 (by rw[K7];omega) (by rw[K7];omega)
 have c2:c7 p.n (N3 u w x)=⟨0,0,0⟩:=Aa6 (by rw[K7];omega) (by rw[K7];omega)
 have d1:=xa1 (d:=e8 v u) c1;have d2:=xa1 (d:=e8 v u) c2;rw[K7] at d1 d2;have n1:dot n (N3 u w x)≠0:=λe=>by
  obtain⟨v0,hv0,hne⟩:=hoff;have d0:=xa1 (d:=e8 v0 u) c1;rw[K7,e,Qkr] at d0
  have:=ua8 hN d0
  omega
 have n2:dot p.n (N3 u w x)≠0:=λe=>by
  obtain⟨v0,hv0,hne⟩:=hs.off (ob5 hp.ok) p.b;have d0:=xa1 (d:=e8 v0 u) c2;rw[K7,e,Qkr] at d0
  have:=ua8 hN d0
  omega
 have e':=hn v hv u hu;constructor
 ·intro hv';rw[show dot p.n v-dot p.n u=0 by omega,Qkd] at d2
  have z:=(Qkk.1 d2.symm).resolve_left n2;rw[z,Qkd] at d1
  have:=ua8 hN d1
  have:=ua8 hk (show k*(dot q.n (T v)-dot q.n (T u))=0 by omega)
  omega
 ·intro hv';rw[hv',t1,Qkg,Qkd] at e';rw[e',Qkd] at d1;have z:=(Qkk.1 d1.symm).resolve_left n1;rw[z,Qkd] at d2
  have:=ua8 hN d2
  omega
theorem Sim.img{p p':Pln}(hp:p∈F0 l)(ok:okp p'=true)(hd:∀v∈l,dot p'.n (T v)<=p'.b)(on:∀v∈l,dot p.n v=p.b->dot p'.n (T v)=p'.b):p'∈F0 (l.map T):=by
 have hf:=(N6 h.li p).1 hp;obtain⟨u,w,x,hu,hw,hx,h3,t1,t2,t3⟩:=hf.on;refine (N6 h.mi p').2 ⟨⟨λv' hv'=>?_,T u,T w,T x,Sim.mem h hs hs' hu,Sim.mem h hs hs' hw,Sim.mem h hs hs' hx,(h.n3 u hu w hw x hx).1 h3,on u hu t1,on w hw t2,on x hx t3⟩,ok⟩
 obtain⟨v,hv,rfl⟩:=Qkb.1 hv';exact hd v hv
theorem Sim.upf{p:Pln}(hp:p∈F0 l):∃q∈F0 (l.map T),Car l T p q:=by
 have hf:=(N6 h.li p).1 hp;obtain⟨u,w,x,hu,hw,hx,h3,t1,t2,t3⟩:=hf.on;obtain⟨n,k,hk,hn⟩:=h.dn p.n;have h3':=(h.n3 u hu w hw x hx).1 h3;obtain⟨q,hq,q1,q2,q3⟩:=vd8 (n:=n) h.mi (Sim.mem h hs hs' hu) (Sim.mem h hs hs' hw) (Sim.mem h hs hs' hx) h3' (λv' hv'=>by
  obtain⟨v,hv,rfl⟩:=Qkb.1 hv';have e:=hn v hv u hu
  have:=Vd5 hk (show dot p.n v-dot p.n u<=0 by have:=hf.hd v hv;omega)
  omega) (by
  have e:=hn w hw u hu;rw[t2,t1,Qkg,Qkd] at e
  omega) (by
  have e:=hn x hx u hu;rw[t3,t1,Qkg,Qkd] at e
  omega) (by
  obtain⟨v,hv,hne⟩:=hs.off (ob5 hf.ok) p.b;refine⟨T v,Sim.mem h hs hs' hv,λe=>hne ?_⟩
  have e':=hn v hv u hu
  have:=ua8 hk (show k*(dot p.n v-dot p.n u)=0 by omega)
  omega)
 obtain⟨p2,hp2,u',w',x',hu',hw',hx',h3'',on2,r1,r2,r3,hall⟩:=Sim.down h hs hs' ((N6 h.mi q).2 hq);have e:p2=p:=Xc4 h.li hs ((N6 h.li p2).1 hp2) hf hu hw hx h3 ((hall u hu).2 q1) ((hall w hw).2 q2) ((hall x hx).2 q3) t1 t2 t3;subst e;exact⟨q,(N6 h.mi q).2 hq,u',w',x',hu',hw',hx',h3'',on2,r1,r2,r3,hall⟩
theorem Sim.len:(F0 (l.map T)).length=(F0 l).length:=by
 refine Nat.le_antisymm ?_ ?_
 ·refine Jd9 (R:=λq p=>Car l T p q) (wc4 (wc3 _)) (λq hq=>Sim.down h hs hs' hq) λq hq r hr p h1 h2=>?_
  obtain⟨u,w,x,hu,hw,hx,h3,⟨p1,p2,p3⟩,q1,q2,q3,_⟩:=h1;obtain⟨_,_,_,_,_,_,_,_,_,_,_,hall⟩:=h2;exact Xc4 h.mi hs' ((N6 h.mi q).1 hq) ((N6 h.mi r).1 hr) (Sim.mem h hs hs' hu) (Sim.mem h hs hs' hw) (Sim.mem h hs hs' hx) ((h.n3 u hu w hw x hx).1 h3) q1 q2 q3 ((hall u hu).1 p1) ((hall w hw).1 p2) ((hall x hx).1 p3)
 ·refine Jd9 (R:=λp q=>Car l T p q) (wc4 (wc3 _)) (λp hp=>Sim.upf h hs hs' hp) λp hp r hr q h1 h2=>?_
  obtain⟨u,w,x,hu,hw,hx,h3,⟨p1,p2,p3⟩,q1,q2,q3,_⟩:=h1;obtain⟨_,_,_,_,_,_,_,_,_,_,_,hall⟩:=h2;exact Xc4 h.li hs ((N6 h.li p).1 hp) ((N6 h.li r).1 hr) hu hw hx h3 p1 p2 p3 ((hall u hu).2 q1) ((hall w hw).2 q2) ((hall x hx).2 q3)
end
theorem kf0(O:List V3)(v:V3):app (bL tV O) [[i v.x,i v.y,i v.z]]=bL tV (O++[v]):=Ia5 tV O [v]
theorem af4(l:List V3)(n:Int):(two (r1L tV) r1I).rd (.tup [eL tV l,i n],[])=some (l,n):=by
 have h:(r1L tV).rd [] (eL tV l)=some l:=ae5 tV l;simp only[two,h];rfl
def rch(n e:V3):Int:=(n.x.natAbs:Int)*e.x+(n.y.natAbs:Int)*e.y+(n.z.natAbs:Int)*e.z
def pq(e:V3)(s:Int)(p:Pln):Pln:=⟨p.n,p.b+s*rch p.n e⟩
def okq(e:V3)(s:Int)(p:Pln):Bool:=okp p&&smb 2097152 (p.b+s*rch p.n e)
structure B12(e:V3):Prop where
 x1:0<=e.x
 x2:e.x<=12
 y1:0<=e.y
 y2:e.y<=12
 z1:0<=e.z
 z2:e.z<=12
section
variable(c:List Pln)(e:V3)(s:Int)
structure PI(j:Nat)(o:List Pln):Prop where
 le:j<=c.length
 o:o=(c.take j).map (pq e s)
 a:(c.take j).all (okq e s)=true
end
section
variable(c:List Pln)(e:V3)(hc:c.length<=1000000)
include hc
end
theorem Pb6:∀(l r:List V3),l.Pairwise LtV->r.Pairwise LtV->(∀v,v∈l↔v∈r)->l=r
 |[],[],_,_,_=>rfl
 |[],y::r,_,_,h=>absurd ((h y).2 (Qki ..)) (by simp)
 |x::l,[],_,_,h=>absurd ((h x).1 (Qki ..)) (by simp)
 |x::l,y::r,h1,h2,h=>by
  obtain⟨a1,a2⟩:=Qkp.1 h1;obtain⟨b1,b2⟩:=Qkp.1 h2;have e:x=y:=by
   rcases Qke.1 ((h x).1 (Qki ..)) with e|hx
   ·exact e
   ·rcases Qke.1 ((h y).2 (Qki ..)) with e|hy
    ·exact e.symm
    ·exact absurd (Tb0 (b1 x hx) (a1 y hy)) (nc9 y)
  subst e
  have:l=r:=Pb6 l r a2 b2 λv=>by
   have hv:=h v;simp only[Qke] at hv;constructor
   ·intro hm
    rcases hv.1 (.inr hm) with e|h'
    ·subst e;exact absurd (a1 v hm) (nc9 v)
    ·exact h'
   ·intro hm
    rcases hv.2 (.inr hm) with e|h'
    ·subst e;exact absurd (b1 v hm) (nc9 v)
    ·exact h'
  rw[this]
theorem ec6{n:Nat}(h:n<=1000000000000):Nat.ble (n*24) room=true:=by
 rw[Nat.ble_eq];unfold room;omega
theorem Kd0(l:List V3)(n:Nat)(h:n<=l.length):u9 (λk=>(λk=>tV.row (gL tV l k)) (0+k)) (List.range (n-0))=bL tV (l.take n):=by
 rw[<- gb0,k9,k9,Qky,Nat.min_eq_left h,Nat.sub_zero];apply List.map_congr_left;intro k hk;rw[Qkl] at hk;show tV.row (gL tV l (0+k))=tV.row (gL tV (l.take n) k);congr 1;simp[gL,List.getD_eq_getElem?_getD,List.getElem?_take,hk]
theorem Kd1(l:List V3)(n:Nat):u9 (λk=>(λk=>tV.row (gL tV l k)) (n+k)) (List.range (l.length-n))=bL tV (l.drop n):=by
 rw[<- gb0,k9,k9,Qkaj];apply List.map_congr_left;intro k hk;show tV.row (gL tV l (n+k))=tV.row (gL tV (l.drop n) k);rw[Jc5]
def Kd2(x:List V3)(y:V3)(n:Nat):List V3:=x.take n++(y::x.drop n)
def atV(x:List V3)(y:V3):Nat:=x.findIdx λp=>!decide (Ja1 p y<0)
noncomputable def ed4(x:List V3)(y:V3):List V3:=if (atV x y<x.length/\eqV (gL tV x (atV x y)) y=true) then x else Kd2 x y (atV x y)
theorem Kd3(x y:V3):Oa6 x y=some (b (decide (Ja1 x y<0)),[]):=by
 have e:decide (Ja1 x y<0)=decide (LtV x y):=by rw[decide_eq_decide];exact Jc4 x y
 rw[e];unfold Oa6;by_cases h1:x.x=y.x
 ·rw[bf (show (x.x != y.x)=false by simp[h1])]
  by_cases h2:x.y=y.y
  ·rw[bf (show (x.y != y.y)=false by simp[h2])]
   have:decide (LtV x y)=decide (x.z<y.z):=by rw[decide_eq_decide];unfold LtV;omega
   rw[this]
  ·rw[bt (show (x.y != y.y)=true by simp[h2])]
   have:decide (LtV x y)=decide (x.y<y.y):=by rw[decide_eq_decide];unfold LtV;omega
   rw[this]
 ·rw[bt (show (x.x != y.x)=true by simp[h1])]
  have:decide (LtV x y)=decide (x.x<y.x):=by rw[decide_eq_decide];unfold LtV;omega
  rw[this]
theorem Ae2(x y:V3):Oa7 x y=decide (Ja1 x y<0):=by unfold Oa7;rw[Kd3];rfl
theorem Ae3(x y:V3):cb9 x y=true:=by unfold cb9;rw[Kd3];rfl
theorem Kd4(x:List V3)(y:V3)(hx:x.length<=1000000):Rd (one (r1L tV)) (xb1 x y) (λr=>r=ed4 x y):=by
 have h:=Oa0 (step:=Da0 ⟨x,y.x,y.y,y.z⟩) (mk:=λj=>(⟨(j:Int)⟩:ma6)) (c:=λp=>!decide (Ja1 p y<0)) (u:=1) (fin:=2) tV x (by omega)
  (λj hj=>by
   simp only[Da0,Ga0,Int.toNat_natCast,Ae3,Ae2,v8 hj (show x.length<=4611686018427387904 by omega)]
   rw[btD (j7 hj),bt (i5 hj),y7];show sl (decide (Ja1 (gL tV x j) y<0)) _ _=_;cases decide (Ja1 (gL tV x j) y<0)<;>rfl)
  (by simp only[Da0,Ga0];rw[bfD (j6 (Qkn _))]) 0 (Nat.zero_le _)
 rw[List.drop_zero] at h;have key:∃t,lp (Da0 ⟨x,y.x,y.y,y.z⟩) ⟨0⟩=(t,⟨((atV x y:Nat):Int)⟩)/\(t=1\/t=2):=by
  rw[show (⟨0⟩:ma6)=⟨((0:Nat):Int)⟩ from rfl,h]
  split
  ·exact⟨1,by rw[Qkak];rfl,.inl rfl⟩
  ·rename_i hn;refine⟨2,?_,.inr rfl⟩
   have:atV x y=x.length:=by
    unfold atV;rw[List.findIdx_eq_length];intro p hp;cases hb:(!decide (Ja1 p y<0)) with
    |false=>rfl
    |true=>exact absurd (Qkh.2 ⟨p,hp,hb⟩) hn
   rw[this]
 obtain⟨t,h1,h2⟩:=key;have h3:atV x y<=x.length:=List.findIdx_le_length;have hdef:ed4 x y=if (atV x y<x.length/\eqV (gL tV x (atV x y)) y=true) then x else Kd2 x y (atV x y):=rfl
 generalize atV x y=n at *
 have hlo:inB (n:Int) (x.length+1)=true:=i5 (by omega)
 have hd:(bL tV (x.take n)).length=n:=by rw[<- l6,ia3,Qky];omega
 have hlen:(Kd2 x y n).length=x.length+1:=by unfold Kd2;simp only[Qkaf,List.length_cons,Qky,Qkaj];omega
 have lt:len (bL tV (x.take n))=n:=by rw[l6];exact hd
 have ld:len (bL tV (x.drop n))=x.length-n:=by rw[ia3,Qkaj]
 have b1:(Nat.beq 1 1&&Nat.ble ((1+(x.length-n))*24) room)=true:=by rw[ec6 (by omega)];rfl
 have b2:(Nat.beq 0 0&&Nat.ble ((0+n)*24) room)=true:=by rw[ec6 (by omega)];rfl
 have e0:app [] (bL tV (x.take n))=bL tV (x.take n):=rfl;have b3:(Nat.beq (0+n) n&&Nat.ble (((0+n)+1)*24) room)=true:=by rw[ec6 (by omega),Qkak,Nat.beq_refl];rfl
 have l3:len (bL tV (x.take n++[y]))=n+1:=by rw[ia3,Qkaf,Qky];simp only[List.length_singleton];omega
 have b4:(Nat.beq ((0+n)+1) (n+1)&&Nat.ble ((((0+n)+1)+(x.length-n))*24) room)=true:=by rw[ec6 (by omega),Qkak,Nat.beq_refl];rfl
 have fin:ed4 x y=Kd2 x y n->∀m r,m=x.length+1->r=bL tV (Kd2 x y n)->Rd (one (r1L tV)) (some (.sl 0 0 m 0,[⟨25,3,r,true,false,0⟩])) (λr=>r=ed4 x y) :=
  λhq m r hm hr=>Td2 (by rw[hlen];exact hm) hr hq.symm
 have tail:ed4 x y=Kd2 x y n->Rd (one (r1L tV)) (some (.sl 0 0 (((0+n)+1)+(x.length-n)) 0,[⟨25,3,app (bL tV (x.take n++[y])) (bL tV (x.drop n)),true,false,0⟩])) (λr=>r=ed4 x y):=λhq=>by
  refine fin hq _ _ (by omega) ?_
  rw[Ia5];unfold Kd2;rw[List.append_assoc];rfl
 unfold xb1;simp only[l5,j9];rw[h1];simp only[Int.toNat_natCast,Kd0 x n h3,Kd1,lt,ld,b1,b2,e0,b3,mc6,l3,b4,hlo,y7]
 have main : Rd (one (r1L tV)) (sl (decide ((n : Int) < (x.length : Int))) (sl (inB (n : Int) x.length) (sl (((gL tV x n).x == y.x) && (((gL tV x n).y == y.y) && (((gL tV x n).z == y.z) && true))) (some (eL tV x, []))
   (some ((.sl 0 0 (((0+n)+1)+(x.length-n)) 0),[⟨25,3,(app (bL tV (x.take n++[y])) (bL tV (x.drop n))),true,false,0⟩]))) none)
   (some ((.sl 0 0 (((0+n)+1)+(x.length-n)) 0),[⟨25,3,(app (bL tV (x.take n++[y])) (bL tV (x.drop n))),true,false,0⟩]))) (λr=>r=ed4 x y):=by
  by_cases hn:n<x.length
  ·rw[btD (j7 hn),bt (i5 hn)];exact Rd.sl (λq=>⟨_,x,rfl,ae5 tV x,by rw[hdef,if_pos ⟨hn,q⟩]⟩) λq=>tail (by
    rw[hdef,if_neg λh=>?_]
    have h:=h.2;rw[show eqV (gL tV x n) y=false from q] at h
    cases h)
  ·rw[bfD (j6 hn)];exact tail (by rw[hdef,if_neg λh=>hn h.1])
 rcases h2 with rfl|rfl
 ·exact main
 ·exact main
def ab3:List V3->V3->List V3
 |[],y=>[y]
 |a::l,y=>if Ja1 a y<0 then a::ab3 l y else if eqV a y then a::l else y::a::l
theorem ce8(y:V3):∀x,ed4 x y=ab3 x y
 |[]=>rfl
 |a::l=>by
  have ih:=ce8 y l;unfold ab3;by_cases h:Ja1 a y<0
  ·rw[if_pos h,<- ih];have e:atV (a::l) y=atV l y+1:=by unfold atV;rw[List.findIdx_cons];simp[h]
   unfold ed4;rw[e];have e2:gL tV (a::l) (atV l y+1)=gL tV l (atV l y):=rfl;rw[e2];simp only[List.length_cons,Nat.add_lt_add_iff_right];split
   ·rfl
   ·rfl
  ·rw[if_neg h];have e:atV (a::l) y=0:=by unfold atV;rw[List.findIdx_cons];simp[h]
   unfold ed4;rw[e];have e2:gL tV (a::l) 0=a:=rfl;rw[e2];simp only[List.length_cons,Nat.zero_lt_succ,true_and];split
   ·rfl
   ·rfl
theorem Ub0(y p:V3):∀x,p∈ab3 x y↔p=y\/p∈x
 |[]=>by simp[ab3]
 |a::l=>by
  unfold ab3;have ih:=Ub0 y p l;split
  ·simp only[Qke,ih];constructor
   ·rintro (h|h|h)
    ·exact .inr (.inl h)
    ·exact .inl h
    ·exact .inr (.inr h)
   ·rintro (h|h|h)
    ·exact .inr (.inl h)
    ·exact .inl h
    ·exact .inr (.inr h)
  ·split
   ·rename_i h;rw[Ua7] at h;subst h;simp only[Qke];constructor
    ·exact λh=>.inr h
    ·rintro (h|h)
     ·exact .inl h
     ·exact h
   ·simp only[Qke]
theorem md0(y:V3):∀{x},wc6 x->wc6 (ab3 x y)
 |[],_=>List.pairwise_singleton _ _
 |a::l,h=>by
  obtain⟨h1,h2⟩:=Qkp.1 h;unfold ab3;split
  ·rename_i hc;rw[Jc4] at hc;refine Qkp.2 ⟨λp hp=>?_,md0 y h2⟩
   rcases (Ub0 y p l).1 hp with e|hp
   ·subst e;exact hc
   ·exact h1 p hp
  ·rename_i hc;rw[Jc4] at hc;split
   ·exact h
   ·rename_i hne;have hlt:LtV y a:=by
     rcases be8 y a with h|h|h
     ·exact h
     ·exact absurd ((Ua7 _ _).2 h.symm) hne
     ·exact absurd h hc
    refine Qkp.2 ⟨λp hp=>?_,h⟩
    rcases Qke.1 hp with e|hp
    ·subst e;exact hlt
    ·exact Tb0 hlt (h1 p hp)
theorem ce9(x:List V3)(y:V3)(hx:x.length<=1000000):Tb3 x y=ab3 x y:=(Kd4 x y hx).p.trans (ce8 y x)
theorem de0(x:List V3)(y:V3)(hx:x.length<=1000000):Tb4 x y=true:=(Kd4 x y hx).g
noncomputable def nrm(F:List Pln)(v:V3):List V3:=(own F v).map λp=>p.n
theorem Ne4(F:List Pln)(v:V3)(hF:F.length<=1000000):∃t s,lp (Ia2 ⟨F,v.x,v.y,v.z⟩) ⟨0,0,0,[]⟩=(t,s)/\(t=phV (nrm F v)+1/\∃j:Int,s=⟨phV (nrm F v),j,(nrm F v).length,bL tV (nrm F v)⟩):=by
 refine F9 (step:=Ia2 ⟨F,v.x,v.y,v.z⟩) (mk:=λj (o:List V3)=>(⟨phV o,(j:Int),o.length,bL tV o⟩:A7)) F.length (λj o=>j<=F.length/\o=((F.take j).filter λp=>U5 p v==0).map λp=>p.n) (λt s=>t=phV (nrm F v)+1/\∃j:Int,s=⟨phV (nrm F v),j,(nrm F v).length,bL tV (nrm F v)⟩) (by omega)
  (λj o hj hi=>?_) (λj o hj hi=>?_) 0 [] ⟨Nat.zero_le _,by simp⟩
 ·obtain⟨_,hi⟩:=hi;have hlen:o.length<=1000000:=by
   rw[hi,Qkq];have h1:=Qkam (λp=>U5 p v==0) (F.take j)
   have h2:=List.length_take_le j F;omega
  have hn:=v8 hj (show F.length<=4611686018427387904 by omega)
  have hb:=i5 hj;have hT:((F.take (j+1)).filter (λp=>U5 p v==0)).map (λp=>p.n)=o++(if (U5 (gL tP F j) v==0)=true then [(gL tP F j).n] else []):=by
   rw[Ca9 tP hj,List.filter_append,List.map_append,<- hi,List.filter_cons,List.filter_nil]
   split<;>rfl
  have hnext : ∀ {s : A7} {o' : List V3}, o' = ((F.take (j + 1)).filter fun p => U5 p v == 0).map (fun p => p.n) → s = ⟨phV o', ((j + 1 : Nat) : Int), o'.length, bL tV o'⟩ → Nx (.next s) (fun t => t = phV (nrm F v) + 1 ∧ ∃ j' : Int, (⟨phV o, (j : Int), o.length, bL tV o⟩ : A7) = ⟨phV (nrm F v), j', (nrm F v).length, bL tV (nrm F v)⟩)
    (λs=>∃o',s=(⟨phV o',((j+1:Nat):Int),o'.length,bL tV o'⟩:A7)/\(j+1<=F.length/\o'=((F.take (j+1)).filter λp=>U5 p v==0).map λp=>p.n)):=λ{s o'} ho' hs=>.nx ⟨o',hs,by omega,ho'⟩
  clear hi
  cases o with
  |nil =>
   show Nx (X7 Stp.next Stp.exit Stp.fail _ _) _ _;simp only[X7,Int.toNat_natCast,Uc3,Ob0,hn,hb];rw[btD (j7 hj)];cases hs:U5 (gL tP F j) v==0 with
   |true=>exact hnext (o':=[(gL tP F j).n]) (by rw[hT,hs];rfl) rfl
   |false=>exact hnext (o':=[]) (by rw[hT,hs];rfl) rfl
  |cons q o =>
   have rr:(Nat.beq (q::o).length (len (bL tV (q::o)))&&Nat.ble (((q::o).length+1)*24) room)=true:=ae9 rfl (by omega)
   show Nx (X8 Stp.next Stp.exit Stp.fail _ _) _ _;simp only[X8,Int.toNat_natCast,Uc3,Ob0,hn,hb,rr,kf0];rw[btD (j7 hj)];cases hs:U5 (gL tP F j) v==0 with
   |true=>exact hnext (o':=q::o++[(gL tP F j).n]) (by rw[hT,hs];rfl) (by rw[Qkaf];rfl)
   |false=>exact hnext (o':=q::o) (by rw[hT,hs,if_neg (by simp),List.append_nil]) rfl
 ·obtain⟨h1,hi⟩:=hi;have e:j=F.length:=by omega
  subst e;have hO:o=nrm F v:=by rw[hi,List.take_length];rfl
  rw[<- hO];cases o with
  |nil =>
   refine⟨1,?_,rfl,_,rfl⟩;show X7 Stp.next Stp.exit Stp.fail _ _=_;simp only[X7];rw[bfD (j6 (Qkn _))]
  |cons q o =>
   refine⟨2,?_,rfl,_,rfl⟩;show X8 Stp.next Stp.exit Stp.fail _ _=_;simp only[X8];rw[bfD (j6 (Qkn _))]
def N46(n:V3):Prop:=Sm 4608 n.x/\Sm 4608 n.y/\Sm 4608 n.z
noncomputable def cr3(N:List V3)(a c k:Nat):Bool:=dot (c7 (gL tV N a) (gL tV N c)) (gL tV N k) != 0
noncomputable def cr2(N:List V3)(a c:Nat):Bool:=(List.range c).any (cr3 N a c)
noncomputable def cr1(N:List V3)(a:Nat):Bool:=(List.range a).any (cr2 N a)
noncomputable def cr0(N:List V3):Bool:=(List.range N.length).any (cr1 N)
theorem sf3{x y z:V3}(hx:N46 x)(hy:N46 y)(hz:N46 z):aa9 (Z6 x y) z=dot (c7 x y) z:=by
 obtain⟨k1,k2,k3⟩:=wb4 hx hy;obtain⟨⟨a1,a2⟩,⟨a3,a4⟩,a5,a6⟩:=hz;rw[ae3,sb0 (k1.mono (by omega)),sb0 (k2.mono (by omega)),sb0 (k3.mono (by omega))]
 have r1:=mb k1.1 k1.2 a1 a2;have r2:=mb k2.1 k2.2 a3 a4;have r3:=mb k3.1 k3.2 a5 a6;unfold aa9;simp only[Nb0,dc8];rw[qa7 (by omega) (by omega)]
 rfl
section
variable(N:List V3)(hN:∀n∈N,N46 n)(hl:N.length<=1000000)
include hN hl
theorem Ne5(a c:Nat)(ha:a<N.length)(hc:c<a):∃j,lp (ua3 ⟨N.length,(a:Int),(c:Int),bL tV N⟩) ⟨0,0⟩=(if cr2 N a c then 1 else 2,⟨0,((j:Nat):Int)⟩) :=
 Ob3 (step:=ua3 ⟨N.length,(a:Int),(c:Int),bL tV N⟩) (mk:=λj=>(⟨0,(j:Int)⟩:E1)) c (cr3 N a c) 1 2 (by omega)
  (λj hj=>by
   have hcN:c<N.length:=by omega
   have hjN:j<N.length:=by omega
   show X9 Stp.next Stp.exit Stp.fail _ _=_;simp only[X9,Int.toNat_natCast,Bb9 ha,Bb9 hcN,Bb9 hjN,Ob6 ha,Ob6 hcN,Ob6 hjN,sf3 (hN _ (ja1 tV ha)) (hN _ (ja1 tV hcN)) (hN _ (ja1 tV hjN)),i5 ha,i5 hcN,i5 hjN,v8 hj (show c<=4611686018427387904 by omega)]
   rw[btD (j7 hj)]
   rfl)
  (by
   show X9 Stp.next Stp.exit Stp.fail _ _=_;simp only[X9];rw[bfD (j6 (Qkn _))])
theorem Ne6(a:Nat)(ha:a<N.length):∃j,lp (ua4 ⟨(a:Int)⟩) ⟨0,N.length,0,bL tV N⟩=(if cr1 N a then 1 else 2,⟨0,N.length,((j:Nat):Int),bL tV N⟩) :=
 Ob3 (step:=ua4 ⟨(a:Int)⟩) (mk:=λj=>(⟨0,N.length,(j:Int),bL tV N⟩:E2)) a (cr2 N a) 1 2 (by omega)
  (λj hj=>by
   obtain⟨j',h1⟩:=Ne5 N hN hl a j ha hj;show Y0 Stp.next Stp.exit Stp.fail _ _=_;simp only[Y0,h1,v8 hj (show a<=4611686018427387904 by omega)]
   rw[btD (j7 hj)];cases cr2 N a j<;>rfl)
  (by
   show Y0 Stp.next Stp.exit Stp.fail _ _=_;simp only[Y0];rw[bfD (j6 (Qkn _))])
theorem Ne7:∃j,lp (L1 ⟨⟩) ⟨1,0,N.length,bL tV N⟩=(if cr0 N then 1 else 3,⟨1,((j:Nat):Int),N.length,bL tV N⟩) :=
 Ob3 (step:=L1 ⟨⟩) (mk:=λj=>(⟨1,(j:Int),N.length,bL tV N⟩:E3)) N.length (cr1 N) 1 3 (by omega)
  (λj hj=>by
   obtain⟨j',h1⟩:=Ne6 N hN hl j hj;show Y1 Stp.next Stp.exit Stp.fail ⟨⟩ _=_;simp only[Y1,h1,v8 hj (show N.length<=4611686018427387904 by omega)]
   rw[btD (j7 hj)];cases cr1 N j<;>rfl)
  (by
   show Y1 Stp.next Stp.exit Stp.fail ⟨⟩ _=_;simp only[Y1];rw[bfD (j6 (Qkn _))])
end
theorem Ne8(N:List V3):cr0 N=true↔∃x y z,x∈N/\y∈N/\z∈N/\dot (c7 x y) z≠0:=by
 constructor
 ·intro h;obtain⟨a,ha,h⟩:=Qkh.1 h;obtain⟨c,hc,h⟩:=Qkh.1 h;obtain⟨k,hk,h⟩:=Qkh.1 h;rw[Qkl] at ha hc hk;exact⟨_,_,_,ja1 tV ha,ja1 tV (show c<N.length by omega),ja1 tV (show k<N.length by omega),bne_iff_ne.1 h⟩
 ·rintro⟨x,y,z,hx,hy,hz,hw⟩;obtain⟨i1,h1,rfl⟩:=Qkab.1 hx;obtain⟨i2,h2,rfl⟩:=Qkab.1 hy;obtain⟨i3,h3,rfl⟩:=Qkab.1 hz;rw[<- ib9 tV h1,<- ib9 tV h2,<- ib9 tV h3] at hw;have key:∀a c k,a<N.length->c<a->k<c->dot (c7 (gL tV N a) (gL tV N c)) (gL tV N k)≠0->cr0 N=true:=λa c k ha hc hk hw =>
   Qkh.2 ⟨a,Qkl.2 ha,Qkh.2 ⟨c,Qkl.2 hc,Qkh.2 ⟨k,Qkl.2 hk,bne_iff_ne.2 hw⟩⟩⟩
  have p1:∀x y z:V3,dot (c7 y x) z=-dot (c7 x y) z:=λx y z=>by simp only[dot,c7];grind
  have p2:∀x y z:V3,dot (c7 x z) y=-dot (c7 x y) z:=λx y z=>by simp only[dot,c7];grind
  have q0:∀x z:V3,dot (c7 x x) z=0:=λx z=>by simp only[dot,c7];grind
  have q1:∀x y:V3,dot (c7 x y) y=0:=λx y=>by simp only[dot,c7];grind
  have q2:∀x y:V3,dot (c7 x y) x=0:=λx y=>by simp only[dot,c7];grind
  have n12:i1≠i2:=λe=>hw (by subst e;exact q0 _ _)
  have n23:i2≠i3:=λe=>hw (by subst e;exact q1 _ _)
  have n13:i1≠i3:=λe=>hw (by subst e;exact q2 _ _)
  rcases Qkag n12 with h12|h12<;>rcases Qkag n23 with h23|h23<;>rcases Qkag n13 with h13|h13
  ·-- 1<2<3:(3,2,1)
   exact key i3 i2 i1 h3 h23 h12 λe=>hw (by rw[p1,p2,p1] at e;omega)
  ·omega
  ·-- 1<3<2:(2,3,1)
   exact key i2 i3 i1 h2 h23 h13 λe=>hw (by rw[p2,p1] at e;omega)
  ·-- 3<1<2:(2,1,3)
   exact key i2 i1 i3 h2 h12 h13 λe=>hw (by rw[p1] at e;omega)
  ·-- 2<1<3:(3,1,2)
   exact key i3 i1 i2 h3 h13 h12 λe=>hw (by rw[p1,p2] at e;omega)
  ·-- 2<3<1:(1,3,2)
   exact key i1 i3 i2 h1 h13 h23 λe=>hw (by rw[p2] at e;omega)
  ·omega
  ·exact key i1 i2 i3 h1 h12 h23 hw
theorem me1(F:List Pln)(v:V3):cr0 (nrm F v)=kv F v:=by
 rw[Bool.eq_iff_iff,Ne8];unfold kv;rw[ce4];unfold nrm;have e:∀p q s:Pln,mw p q s=dot (c7 p.n q.n) s.n:=λp q s=>by simp only[mw,dot,c7];grind
 constructor
 ·rintro⟨x,y,z,hx,hy,hz,hw⟩;obtain⟨p,hp,rfl⟩:=Qkb.1 hx;obtain⟨q,hq,rfl⟩:=Qkb.1 hy;obtain⟨s,hs,rfl⟩:=Qkb.1 hz;exact⟨p,q,s,hp,hq,hs,by rw[e];exact hw⟩
 ·rintro⟨p,q,s,hp,hq,hs,hw⟩;exact⟨_,_,_,Qkb.2 ⟨p,hp,rfl⟩,Qkb.2 ⟨q,hq,rfl⟩,Qkb.2 ⟨s,hs,rfl⟩,by rw[e] at hw;exact hw⟩
theorem Kd5(F:List Pln)(v:V3)(hF:OkF F):Oa8 F v=some (b (kv F v),[]):=by
 obtain⟨t,s,h,rfl,j,rfl⟩:=Ne4 F v hF.l;have hN:∀n∈nrm F v,N46 n:=λn hn=>by
  obtain⟨p,hp,rfl⟩:=Qkb.1 hn;have hb:=Bb8 (hF.v p (Qku.1 hp).1);exact⟨⟨hb.x1,hb.x2⟩,⟨hb.y1,hb.y2⟩,hb.z1,hb.z2⟩
 have hl:(nrm F v).length<=1000000:=by
  unfold nrm own;rw[Qkq];exact Nat.le_trans (Qkam _ _) hF.l
 unfold Oa8;rw[<- me1];simp only[l5,j9,h];cases hn:nrm F v with
 |nil =>
  have h0:lp (L1 ⟨⟩) ⟨0,0,0,[]⟩=(2,⟨0,0,0,[]⟩):=td2 (step:=L1 ⟨⟩) rfl;rw[h0];rfl
 |cons q o =>
  rw[hn] at hN hl;obtain⟨j',h1⟩:=Ne7 (q::o) hN hl;show sl (true&&true) (sl (Nat.beq 2 1) _ (sl (Nat.beq 2 2) (sl (Nat.beq (lp (L1 ⟨⟩) ⟨1,0,(q::o).length,bL tV (q::o)⟩).1 1) _ (sl (Nat.beq (lp (L1 ⟨⟩) ⟨1,0,(q::o).length,bL tV (q::o)⟩).1 2) _ (sl (Nat.beq (lp (L1 ⟨⟩) ⟨1,0,(q::o).length,bL tV (q::o)⟩).1 3) _ _))) _)) _=_;rw[h1];cases cr0 (q::o)<;>rfl
theorem Kd6(F:List Pln)(v:V3)(hF:OkF F):Oa9 F v=kv F v:=by unfold Oa9;rw[Kd5 F v hF];rfl
theorem Kd7(F:List Pln)(v:V3)(hF:OkF F):Pa0 F v=true:=by unfold Pa0;rw[Kd5 F v hF];rfl
theorem kf1{l:List V3}(hl:l.all inV=true)(h48:l.length<=48):V1 l=Vb4 l:=by
 have hin:l.any (λv=>!inV v)=false:=by rw[List.any_eq_false];intro v hv;rw[Qkc.1 hl v hv];simp
 have h48':¬ (l.length:Int)>48:=by omega
 unfold Vb4 V1;rw[if_neg h48',if_neg h48',if_pos hl,hin,if_neg (by simp)]
 cases hf:nf0 l with
 |true =>
  have h0:=xb0 h48 hl (ye4 hf);unfold V1 at h0;rw[if_neg h48',hin,if_neg (by simp)] at h0
  rw[h0];rfl
 |false =>
  cases hb:Ob7 l with
  |true=>rfl
  |false =>
   have h0:V1 l=0:=by
    unfold V1;rw[if_neg h48',hin,if_neg (by simp),hb];rfl
   have:=jf8 hl (la0 h0).2.2
   rw[hf] at this;cases this
theorem Ae4(l:List V3):V1 l=Vb4 l:=by
 by_cases h48:(l.length:Int)>48
 ·unfold V1 Vb4;rw[if_pos h48,if_pos h48]
 ·cases hl:l.all inV with
  |true=>exact kf1 hl (by omega)
  |false =>
   have hin:l.any (λv=>!inV v)=true:=by
    rw[List.all_eq_false] at hl;obtain⟨v,hv,h⟩:=hl;exact Qkh.2 ⟨v,hv,by simpa using h⟩
   unfold V1 Vb4;rw[if_neg h48,if_neg h48,hin,hl];rfl
theorem Ae5(l:List V3):td5 l=U6 l:=by
 unfold td5 U6;rw[Ae4]
theorem Xc5(l:List V3)(hl:l.length<=1000000):Rd (two (r1L tP) r1I) (ya6 l) (λr=>r=U6 l):=by
 by_cases h:l.length<=48
 ·rw[<- Ae5];exact ye2 l h
 ·have hv:Vb4 l=2:=by unfold Vb4;rw[if_pos (by omega)]
  have hc:V1 l=2:=by rw[Ae4,hv]
  unfold ya6 U6;simp only[l5,L5,kd3 l (by omega),kd0 l (by omega),hv]
  rw[hc,if_neg (by omega)]
  exact⟨_,([],2),rfl,rfl,rfl⟩
theorem Xc6(l:List V3)(hl:l.length<=1000000):Ja9 l=U6 l:=(Xc5 l hl).p
theorem Xc7(l:List V3)(hl:l.length<=1000000):nb7 l=true:=(Xc5 l hl).g
noncomputable def exS(F:List Pln)(o:List V3)(v:V3):List V3:=if kv F v=true then ab3 o v else o
theorem Ae6(o:List V3)(v:V3):ab3 o v≠[]:=λe=>by
 have:=(Ub0 v v o).2 (.inl rfl)
 rw[e] at this;cases this
theorem md1(v:V3):∀o:List V3,(ab3 o v).length<=o.length+1
 |[]=>by simp[ab3]
 |a::l=>by
  have:=md1 v l
  unfold ab3;split
  ·simp only[List.length_cons];omega
  ·split<;>simp only[List.length_cons]<;>omega
theorem Xc8(F:List Pln)(w:V3):∀(l o:List V3),w∈l.foldl (exS F) o↔w∈o\/(w∈l/\kv F w=true)
 |[],o=>by simp
 |v::l,o=>by
  rw[List.foldl_cons,Xc8 F w l];unfold exS;split
  ·rename_i h;rw[Ub0];constructor
   ·rintro ((rfl|h1)|h1)
    ·exact .inr ⟨Qki,h⟩
    ·exact .inl h1
    ·exact .inr ⟨Qks _ h1.1,h1.2⟩
   ·rintro (h1|⟨h1,h2⟩)
    ·exact .inl (.inr h1)
    ·rcases Qke.1 h1 with rfl|h1
     ·exact .inl (.inl rfl)
     ·exact .inr ⟨h1,h2⟩
  ·rename_i h;constructor
   ·rintro (h1|h1)
    ·exact .inl h1
    ·exact .inr ⟨Qks _ h1.1,h1.2⟩
   ·rintro (h1|⟨h1,h2⟩)
    ·exact .inl h1
    ·rcases Qke.1 h1 with rfl|h1
     ·exact absurd h2 h
     ·exact .inr ⟨h1,h2⟩
theorem Xc9(F:List Pln):∀(l o:List V3),wc6 o->wc6 (l.foldl (exS F) o)
 |[],o,h=>h
 |v::l,o,h=>by
  rw[List.foldl_cons];refine Xc9 F l _ ?_;unfold exS;split
  ·exact md0 v h
  ·exact h
theorem me2(F:List Pln)(l:List V3):l.foldl (exS F) []=ea8 F l:=by
 refine Pb6 _ _ (Xc9 F l [] .nil) ?_ λv=>?_
 ·exact (Ud0 l).filter _
 ·rw[Xc8];unfold ea8;rw[Qku,Cb0];simp
theorem me3(l:List V3)(F:List Pln)(hl:l.length<=1000000)(hF:OkF F):∃t s,lp (Da1 ⟨l,F⟩) ⟨0,0,[]⟩=(t,s)/\(t=phV (ea8 F l)+1/\∃j:Int,s=⟨phV (ea8 F l),j,ea8 F l⟩):=by
 refine F9 (step:=Da1 ⟨l,F⟩) (mk:=λj (o:List V3)=>(⟨phV o,(j:Int),o⟩:A0)) l.length (λj o=>j<=l.length/\o.length<=j/\o=(l.take j).foldl (exS F) []) (λt s=>t=phV (ea8 F l)+1/\∃j:Int,s=⟨phV (ea8 F l),j,ea8 F l⟩) (by omega)
  (λj o hj hi=>?_) (λj o hj hi=>?_) 0 [] ⟨Nat.zero_le _,by simp,by simp⟩
 ·obtain⟨_,hlen,hi⟩:=hi;have hn:=v8 hj (show l.length<=4611686018427387904 by omega)
  have hb:=i5 hj;have hT:(l.take (j+1)).foldl (exS F) []=exS F o (gL tV l j):=by
   rw[Ca9 tV hj,List.foldl_append,<- hi];rfl
  have hLen:(exS F o (gL tV l j)).length<=j+1:=by
   unfold exS;split
   ·have:=md1 (gL tV l j) o;omega
   ·omega
  have hnext : ∀ {s : A0}, s = ⟨phV (exS F o (gL tV l j)), ((j + 1 : Nat) : Int), exS F o (gL tV l j)⟩ → Nx (.next s) (fun t => t = phV (ea8 F l) + 1 ∧ ∃ j' : Int, (⟨phV o, (j : Int), o⟩ : A0) = ⟨phV (ea8 F l), j', ea8 F l⟩)
    (λs=>∃o',s=(⟨phV o',((j+1:Nat):Int),o'⟩:A0)/\(j+1<=l.length/\o'.length<=j+1/\o'=(l.take (j+1)).foldl (exS F) [])):=λ{s} hs=>.nx ⟨_,hs,by omega,hLen,hT.symm⟩
  have ph1:∀o:List V3,phV (ab3 o (gL tV l j))=1:=λo=>by
   cases h:ab3 o (gL tV l j) with
   |nil=>exact absurd h (Ae6 _ _)
   |cons _ _=>rfl
  clear hi
  cases o with
  |nil =>
   show Nx (T2 Stp.next Stp.exit Stp.fail _ _) _ _;simp only[T2,Int.toNat_natCast,l5,L5,Kd6 F _ hF,Kd7 F _ hF,ce9 [] _ (show ([]:List V3).length<=1000000 by simp),de0 [] _ (show ([]:List V3).length<=1000000 by simp),hn,hb]
   rw[btD (j7 hj)];cases hs:kv F (gL tV l j) with
   |true=>exact hnext (by unfold exS;rw[hs,if_pos rfl,ph1])
   |false=>exact hnext (by unfold exS;rw[hs];rfl)
  |cons q o =>
   show Nx (T3 Stp.next Stp.exit Stp.fail _ _) _ _;simp only[T3,Int.toNat_natCast,l5,L5,Kd6 F _ hF,Kd7 F _ hF,ce9 (q::o) _ (show (q::o).length<=1000000 by omega),de0 (q::o) _ (show (q::o).length<=1000000 by omega),hn,hb]
   rw[btD (j7 hj)];cases hs:kv F (gL tV l j) with
   |true=>exact hnext (by unfold exS;rw[hs,if_pos rfl,ph1])
   |false=>exact hnext (by unfold exS;rw[hs];rfl)
 ·obtain⟨h1,hlen,hi⟩:=hi;have e:j=l.length:=by omega
  subst e;have hO:o=ea8 F l:=by rw[hi,List.take_length,me2]
  rw[<- hO];cases o with
  |nil =>
   refine⟨1,?_,rfl,_,rfl⟩;show T2 Stp.next Stp.exit Stp.fail _ _=_;simp only[T2];rw[bfD (j6 (Qkn _))]
  |cons q o =>
   refine⟨2,?_,rfl,_,rfl⟩;show T3 Stp.next Stp.exit Stp.fail _ _=_;simp only[T3];rw[bfD (j6 (Qkn _))]
theorem Kd8(l:List V3)(hl:l.length<=1000000):Rd (two (r1L tV) r1I) (Ga2 l) (λr=>r=Vb5 l):=by
 unfold Ga2 Vb5;simp only[l5,L5,j9,Xc6 l hl,Xc7 l hl];unfold U6;by_cases h:V1 l=0
 ·obtain⟨h1,h2,h3⟩:=la0 h;have hF:OkF (F0 l):=⟨Ob8 h1 h2,λp hp=>(Td8 hp).ok⟩
  obtain⟨t,s,k,rfl,j,rfl⟩:=me3 l (F0 l) hl hF;rw[if_pos h,if_pos h];simp only[k];cases ea8 (F0 l) l with
  |nil=>exact⟨_,([],0),rfl,rfl,rfl⟩
  |cons q o=>exact⟨_,(q::o,0),rfl,af4 _ _,rfl⟩
 ·have hne:(V1 l != 0)=true:=bne_iff_ne.2 h;rw[if_neg h,if_neg h];simp only[hne,y7];exact⟨_,([],V1 l),rfl,rfl,rfl⟩
theorem af5(l:List V3)(hl:l.length<=1000000):Ua8 l=Vb5 l:=(Kd8 l hl).p
theorem af6(l:List V3)(hl:l.length<=1000000):sb2 l=true:=(Kd8 l hl).g
theorem Ne9{l:List V3}(hl:l.all inV=true):∀p∈ws,∀v∈l,dot p.n v<=p.b:=λp hp v hv=>by
 have:=Ze0 (Qkc.1 hl v hv) p hp
 simp only[rmZ,ipt,dot] at this ⊢;omega
section
variable{l:List V3}(hl:l.all inV=true)(h4:Sol l)
include hl
theorem vd9(v:V3):v∈ea8 (F0 l) l↔v∈l/\Spn (F0 l) v:=by
 unfold ea8;rw[Qku,Cb0];exact⟨λh=>⟨h.1,(ze9 hl h.1).1 h.2⟩,λh=>⟨h.1,(ze9 hl h.1).2 h.2⟩⟩
include h4
theorem Db8{n:V3}{b:Int}(hv:∀v∈ea8 (F0 l) l,dot n v<=b):∀x∈l,dot n x<=b:=by
 have hfacs:=be7 hl λp hp=>(N6 hl p).2 hp
 have hall:∀p∈F0 l++ws,∀v∈l,dot p.n v<=p.b:=λp hp=>by
  rcases Qkf.1 hp with hp|hp
  ·exact ((N6 hl p).1 hp).hd
  ·exact Ne9 hl p hp
 intro x hx;have hz:∀(a:Pln) (v:V3),rmZ a ⟨v.x,v.y,v.z,1⟩=a.b-dot a.n v:=λa v=>by simp only[rmZ,dot];omega
 have hI:Inr (F0 l++ws) ⟨x.x,x.y,x.z,1⟩:=⟨by show (0:Int)<1;omega,λp hp=>by rw[hz];have:=hall p hp x hx;omega⟩
 have key:=ua2 (xe1 (F0 l)) (h:=⟨n,b⟩) (λy hy=>by
  obtain⟨v,hvl,he,hs⟩:=Le1 h4 hfacs hall hy;have h1:=hv v ((vd9 hl v).2 ⟨hvl,hs⟩);have h2:=he.rm ⟨n,b⟩;rw[hz] at h2;have hw:=hy.w;have h3:0<=(b-dot n v)*y.pw:=Qkad (by omega) (by omega)
  have h4:rmZ ⟨n,b⟩ y*1=(b-dot n v)*y.pw:=h2
  omega) hI
 rw[hz] at key;have key:0<=b-dot n x:=key;omega
theorem Va1{v:V3}(hv:v∈ea8 (F0 l) l):v∈l:=((vd9 hl v).1 hv).1
theorem af7:∃v,v∈ea8 (F0 l) l:=by
 apply Qka;intro hno;obtain⟨x,hx⟩:=h4.ne
 have:=Db8 hl h4 (n:=⟨0,0,0⟩) (b:=-1) (λv hv=>absurd ⟨v,hv⟩ hno) x hx
 simp[dot] at this
theorem Oe0:Sol (ea8 (F0 l) l):=by
 obtain⟨a,ha⟩:=af7 hl h4
 rcases td6 ((ea8 (F0 l) l).map λv=>e8 v a) with⟨x,y,z,hx,hy,hz,hw⟩|⟨d,hd,h⟩
 ·obtain⟨u,hu,rfl⟩:=Qkb.1 hx;obtain⟨v,hv,rfl⟩:=Qkb.1 hy;obtain⟨w,hw',rfl⟩:=Qkb.1 hz;exact⟨a,v,w,u,ha,hv,hw',hu,λe=>hw (by rw[<- e];simp only[dot,c7,N3];grind)⟩
 ·exfalso;have e:∀v∈ea8 (F0 l) l,dot d v=dot d a:=λv hv=>by
   have:=h _ (Qkb.2 ⟨v,hv,rfl⟩)
   simp only[dot,e8] at this ⊢
   grind
  obtain⟨v,hv,hne⟩:=h4.off hd (dot d a);have h1:=Db8 hl h4 (n:=d) (b:=dot d a) (λw hw=>by rw[e w hw];exact Qkx _) v hv
  have h2:=Db8 hl h4 (n:=neg d) (b:=-dot d a) (λw hw=>by
   have:=e w hw
   have h3:dot (neg d) w=-dot d w:=by simp only[dot,neg];grind
   omega) v hv
  have h3:dot (neg d) v=-dot d v:=by simp only[dot,neg];grind
  omega
theorem de1:(ea8 (F0 l) l).all inV=true:=Qkc.2 λv hv=>Qkc.1 hl v (Va1 hl h4 hv)
theorem wd0{p:Pln}(hp:Qa7 l p):Qa7 (ea8 (F0 l) l) p:=by
 refine⟨⟨λv hv=>hp.hd v (Va1 hl h4 hv),?_⟩,hp.ok⟩
 obtain⟨u,w,x,hu,hw,hx,h3,t1,t2,t3⟩:=hp.on
 -- a Td4 on the plane
 obtain⟨a,ha,ta⟩:∃a∈ea8 (F0 l) l,dot p.n a=p.b:=by
  apply Qka;intro hno
  have:=Db8 hl h4 (n:=p.n) (b:=p.b-1) (λv hv=>by
   have h1:=hp.hd v (Va1 hl h4 hv);have h2:dot p.n v≠p.b:=λe=>hno ⟨v,hv,e⟩
   omega) u hu
  omega
 rcases td6 (p.n::(((ea8 (F0 l) l).filter λv=>dot p.n v==p.b).map λv=>e8 v a)) with⟨n1,n2,n3,k1,k2,k3,hne⟩|⟨d,hd,hz⟩
 ·have on : ∀ {n}, n ∈ p.n :: (((ea8 (F0 l) l).filter fun v => dot p.n v == p.b).map fun v => e8 v a) → n = p.n ∨ ∃ v ∈ ea8 (F0 l) l, dot p.n v = p.b ∧ n = e8 v a := fun {n} hn => by
   rcases Qke.1 hn with e|hn
   ·exact .inl e
   ·obtain⟨v,hv,rfl⟩:=Qkb.1 hn;obtain⟨h1,h2⟩:=Qku.1 hv;exact .inr ⟨v,h1,beq_iff_eq.1 h2,rfl⟩
  have fin:∀{v1 v2:V3},v1∈ea8 (F0 l) l->v2∈ea8 (F0 l) l->dot p.n v1=p.b->dot p.n v2=p.b->dot p.n (c7 (e8 v1 a) (e8 v2 a))≠0->∃u w x,u∈ea8 (F0 l) l/\w∈ea8 (F0 l) l/\x∈ea8 (F0 l) l/\N3 u w x≠⟨0,0,0⟩/\dot p.n u=p.b/\dot p.n w=p.b/\dot p.n x=p.b:=λ{v1 v2} hv1 hv2 e1 e2 h=>⟨a,v1,v2,ha,hv1,hv2,kd4 h,ta,e1,e2⟩
  rcases on k1 with rfl|⟨v1,m1,e1,rfl⟩<;>rcases on k2 with rfl|⟨v2,m2,e2,rfl⟩<;>rcases on k3 with rfl|⟨v3,m3,e3,rfl⟩
  ·exact absurd (by simp only[dot,c7];grind) hne
  ·exact absurd (by simp only[dot,c7];grind) hne
  ·exact absurd (by simp only[dot,c7];grind) hne
  ·exact fin m2 m3 e2 e3 hne
  ·exact absurd (by simp only[dot,c7];grind) hne
  ·exact fin m3 m1 e3 e1 λe=>hne (by rw[<- e];simp only[dot,c7];grind)
  ·exact fin m1 m2 e1 e2 λe=>hne (by rw[<- e];simp only[dot,c7];grind)
  ·exfalso;have q:∀v:V3,dot p.n v=p.b->dot p.n (e8 v a)=0:=λv e=>by
    have:dot p.n (e8 v a)=dot p.n v-dot p.n a:=by simp only[dot,e8];grind
    omega
   have r1:=q v1 e1;have r2:=q v2 e2;have r3:=q v3 e3;have hw:mw ⟨e8 v1 a,0⟩ ⟨e8 v2 a,0⟩ ⟨e8 v3 a,0⟩≠0:=hne;refine ob5 hp.ok (jb9 hw ?_ ?_ ?_)
   ·rw[<- r1];simp only[dot];grind
   ·rw[<- r2];simp only[dot];grind
   ·rw[<- r3];simp only[dot];grind
 ·exfalso;have hdn:dot p.n d=0:=hz _ Qki;have hdv:∀v∈ea8 (F0 l) l,dot p.n v=p.b->dot d v=dot d a:=λv hv e=>by
   have:=hz _ (Qks _ (Qkb.2 ⟨v,Qku.2 ⟨hv,beq_iff_eq.2 e⟩,rfl⟩))
   simp only[dot,e8] at this ⊢
   grind
  -- one of the Kb4 points is off the line
  have hoff:¬ (dot d u=dot d a/\dot d w=dot d a/\dot d x=dot d a):=λ⟨g1,g2,g3⟩=>by
   have ht:=(ma4 (Fa9 (Qkc.1 hl u hu) (Qkc.1 hl w hw) (Qkc.1 hl x hx) h3)).2;have hm:mw p ⟨e8 w u,0⟩ ⟨e8 x u,0⟩≠0:=by
    have hN:mw p ⟨e8 w u,0⟩ ⟨e8 x u,0⟩=dot p.n (N3 u w x):=rfl;rw[hN];intro e;obtain⟨_,⟨g,hg,f1,f2,f3⟩,_⟩:=ht;have f1:g*(D0 u w x).1.n.x=(N3 u w x).x:=f1;have f2:g*(D0 u w x).1.n.y=(N3 u w x).y:=f2;have f3:g*(D0 u w x).1.n.z=(N3 u w x).z:=f3;have e2:g*dot p.n (D0 u w x).1.n=0:=by rw[<- e];simp only[dot];rw[<- f1,<- f2,<- f3];grind
    have e3:=(Qkk.1 e2).resolve_left (by omega)
    have hpn:=ob5 hp.ok;have hpos:=be6 hpn
    rcases Ob5 ((ma4 (Fa9 (Qkc.1 hl u hu) (Qkc.1 hl w hw) (Qkc.1 hl x hx) h3)).2) hp.ok t1 t2 t3 with hq|hq
    ·rw[<- hq] at e3;omega
    ·have : dot p.n (D0 u w x).1.n = -dot p.n p.n := by
      have h5:p.n=⟨-(D0 u w x).1.n.x,-(D0 u w x).1.n.y,-(D0 u w x).1.n.z⟩:=congrArg Pln.n hq;have h6:(D0 u w x).1.n=⟨-p.n.x,-p.n.y,-p.n.z⟩:=by
       rw[h5];simp
      rw[h6];simp only[dot]
      grind
     omega
   refine hd (jb9 hm hdn ?_ ?_)
   ·show dot (e8 w u) d=0
    have:dot (e8 w u) d=dot d w-dot d u:=by simp only[dot,e8];grind
    omega
   ·show dot (e8 x u) d=0
    have:dot (e8 x u) d=dot d x-dot d u:=by simp only[dot,e8];grind
    omega
  -- so a plane that is turned a little would jf3 it out
  have main:∀(e:V3) (t:V3),t∈l->dot p.n t=p.b->(∀v∈ea8 (F0 l) l,dot p.n v=p.b->dot e v=dot e a)->dot e t<=dot e a:=λe t ht hte hev=>by
   obtain⟨N,hN,hbig⟩:=big e ((ea8 (F0 l) l).map λv=>⟨e8 v a,0⟩)
   have:=Db8 hl h4 (n:=⟨e.x+N*p.n.x,e.y+N*p.n.y,e.z+N*p.n.z⟩) (b:=dot e a+N*p.b) (λv hv=>by
    have h1:dot ⟨e.x+N*p.n.x,e.y+N*p.n.y,e.z+N*p.n.z⟩ v=dot e v+N*dot p.n v:=by simp only[dot];grind
    rw[h1];by_cases hvp:dot p.n v=p.b
    ·rw[hvp,hev v hv hvp];exact Qkx _
    ·have h2:=hp.hd v (Va1 hl h4 hv);have h3:=(hbig _ (Qkb.2 ⟨v,hv,rfl⟩)).1;have h4:dot (e8 v a) e=dot e v-dot e a:=by simp only[dot,e8];grind
     have h3:dot (e8 v a) e<=N:=h3;have h5:N*dot p.n v<=N*(p.b-1):=Qkac (by omega) (by omega)
     rw[Int.mul_sub,Int.mul_one] at h5
     omega) t ht
   have h1:dot ⟨e.x+N*p.n.x,e.y+N*p.n.y,e.z+N*p.n.z⟩ t=dot e t+N*dot p.n t:=by simp only[dot];grind
   rw[h1,hte] at this;omega
  have both:∀t,t∈l->dot p.n t=p.b->dot d t=dot d a:=λt ht hte=>by
   have g1:=main d t ht hte hdv;have g2:=main (neg d) t ht hte (λv hv e=>by
    have:=hdv v hv e
    have q1:∀z:V3,dot (neg d) z=-dot d z:=λz=>by simp only[dot,neg];grind
    rw[q1,q1];omega)
   have q1:∀z:V3,dot (neg d) z=-dot d z:=λz=>by simp only[dot,neg];grind
   rw[q1,q1] at g2;omega
  exact hoff ⟨both u hu t1,both w hw t2,both x hx t3⟩
theorem af8:F0 (ea8 (F0 l) l)=F0 l:=by
 refine wc1 (wc3 _) (wc3 _) λp=>?_
 rw[N6 (de1 hl h4),N6 hl];refine⟨λh=>⟨⟨Db8 hl h4 h.hd,?_⟩,h.ok⟩,λh=>wd0 hl h4 h⟩
 obtain⟨u,w,x,hu,hw,hx,hr⟩:=h.on;exact⟨u,w,x,Va1 hl h4 hu,Va1 hl h4 hw,Va1 hl h4 hx,hr⟩
end
theorem wd1{l:List V3}(hl:l.all inV=true)(h4:Sol l){v:V3}(hv:v∈l):v∈ea8 (F0 l) l↔∃n,∀w∈l,w≠v->dot n w<dot n v:=by
 constructor
 ·intro h;obtain⟨p,q,s,hp,hq,hs,hm,e1,e2,e3⟩:=((vd9 hl v).1 h).2;refine⟨⟨p.n.x+q.n.x+s.n.x,p.n.y+q.n.y+s.n.y,p.n.z+q.n.z+s.n.z⟩,λw hw hne=>?_⟩
  have hd:∀x:V3,dot ⟨p.n.x+q.n.x+s.n.x,p.n.y+q.n.y+s.n.y,p.n.z+q.n.z+s.n.z⟩ x=dot p.n x+dot q.n x+dot s.n x:=λx=>by simp only[dot];grind
  rw[hd,hd];have g1:=((N6 hl p).1 hp).hd w hw;have g2:=((N6 hl q).1 hq).hd w hw;have g3:=((N6 hl s).1 hs).hd w hw;apply Qka;intro hno;have z:=jb9 hm (d:=e8 w v) (by rw[K7];omega) (by rw[K7];omega) (by rw[K7];omega)
  simp only[e8,V3.mk.injEq] at z;exact hne (V3.ext' (by omega) (by omega) (by omega))
 ·rintro⟨n,hn⟩;apply Qka;intro hno
  have:=Db8 hl h4 (n:=n) (b:=dot n v-1) (λw hw=>by
   have:=hn w (Va1 hl h4 hw) λe=>hno (e ▸ hw)
   omega) v hv
  omega
section
variable{l:List V3}{T:V3->V3}(h:Sim l T)
include h
theorem Sim.inj{u w:V3}(hu:u∈l)(hw:w∈l)(e:T u=T w):u=w:=by
 have key:∀n:V3,dot n u=dot n w:=λn=>by
  obtain⟨n',k,hk,hn⟩:=h.dn n;have e':=hn u hu w hw;rw[e,Qkg] at e'
  have:=ua8 hk e'.symm
  omega
 have k1:=key ⟨1,0,0⟩;have k2:=key ⟨0,1,0⟩;have k3:=key ⟨0,0,1⟩;simp only[dot] at k1 k2 k3;exact V3.ext' (by omega) (by omega) (by omega)
theorem Ae7{u w x v n:V3}(h3:N3 u w x≠⟨0,0,0⟩)(e1:dot n w=dot n u)(e2:dot n x=dot n u)(hv:dot n v≠dot n u):dot (N3 u w x) (e8 v u)≠0:=λe=>by
 have hN:dot (N3 u w x) (N3 u w x)>0:=ma7 h3;have c1:c7 n (N3 u w x)=⟨0,0,0⟩:=Aa6 (by rw[K7];omega) (by rw[K7];omega)
 have d1:=xa1 (d:=e8 v u) c1;rw[e,Qkd,K7] at d1
 have:=ua8 hN d1
 omega
omit h in
theorem de2(u w x:V3):dot (N3 u w x) w=dot (N3 u w x) u/\dot (N3 u w x) x=dot (N3 u w x) u:=by
 constructor<;>simp only[N3,dot,c7,e8]<;>grind
theorem Sim.sol:Sol l↔Sol (l.map T):=by
 constructor
 ·rintro⟨a,c,k,v,ha,hc,hk,hv,hne⟩;have h3:N3 a c k≠⟨0,0,0⟩:=λe=>hne (by rw[e];simp[dot])
  obtain⟨n',m,hm,hn⟩:=h.dn (N3 a c k);obtain⟨p1,p2⟩:=de2 a c k;refine⟨T a,T c,T k,T v,Qkb.2 ⟨a,ha,rfl⟩,Qkb.2 ⟨c,hc,rfl⟩,Qkb.2 ⟨k,hk,rfl⟩,Qkb.2 ⟨v,hv,rfl⟩,Ae7 h (n:=n') ((h.n3 a ha c hc k hk).1 h3) ?_ ?_ ?_⟩
  ·have e:=hn c hc a ha;rw[p1,Qkg,Qkd] at e;omega
  ·have e:=hn k hk a ha;rw[p2,Qkg,Qkd] at e;omega
  ·intro e';have e:=hn v hv a ha
   have:=ua8 hm (show m*(dot (N3 a c k) v-dot (N3 a c k) a)=0 by omega)
   rw[K7] at hne;omega
 ·rintro⟨a',c',k',v',ha',hc',hk',hv',hne⟩;obtain⟨a,ha,rfl⟩:=Qkb.1 ha';obtain⟨c,hc,rfl⟩:=Qkb.1 hc';obtain⟨k,hk,rfl⟩:=Qkb.1 hk';obtain⟨v,hv,rfl⟩:=Qkb.1 hv';have h3:N3 (T a) (T c) (T k)≠⟨0,0,0⟩:=λe=>hne (by rw[e];simp[dot])
  obtain⟨n,m,hm,hn⟩:=h.up (N3 (T a) (T c) (T k));obtain⟨p1,p2⟩:=de2 (T a) (T c) (T k);refine⟨a,c,k,v,ha,hc,hk,hv,Ae7 h (n:=n) ((h.n3 a ha c hc k hk).2 h3) ?_ ?_ ?_⟩
  ·have e:=hn c hc a ha;rw[p1,Qkg,Qkd] at e;omega
  ·have e:=hn k hk a ha;rw[p2,Qkg,Qkd] at e;omega
  ·intro e';have e:=hn v hv a ha
   have:=ua8 hm (show m*(dot (N3 (T a) (T c) (T k)) (T v)-dot (N3 (T a) (T c) (T k)) (T a))=0 by omega)
   rw[K7] at hne;omega
theorem Sim.ext(hs:Sol l){v:V3}(hv:v∈l):v∈ea8 (F0 l) l↔T v∈ea8 (F0 (l.map T)) (l.map T):=by
 rw[wd1 h.li hs hv,wd1 h.mi ((Sim.sol h).1 hs) (Qkb.2 ⟨v,hv,rfl⟩)];constructor
 ·rintro⟨n,hn⟩;obtain⟨n',k,hk,hd⟩:=h.dn n;refine⟨n',λw' hw' hne=>?_⟩
  obtain⟨w,hw,rfl⟩:=Qkb.1 hw';have e:=hd w hw v hv
  have:=Qkj hk (show dot n w-dot n v<0 by have:=hn w hw λe=>hne (by rw[e]);omega)
  omega
 ·rintro⟨n',hn⟩;obtain⟨n,k,hk,hd⟩:=h.up n';refine⟨n,λw hw hne=>?_⟩
  have e:=hd w hw v hv
  have:=Qkj hk (show dot n' (T w)-dot n' (T v)<0 by have:=hn (T w) (Qkb.2 ⟨w,hw,rfl⟩) λe=>hne (Sim.inj h hw hv e);omega)
  omega
end
structure Mat(l:List V3)(T:V3->V3)(r0 r1 r2:V3)(D:Int):Prop where
 d:0<D
 det:0<dot r0 (c7 r1 r2)
 t:∀u∈l,∀w∈l,D*((T u).x-(T w).x)=dot r0 (e8 u w)/\D*((T u).y-(T w).y)=dot r1 (e8 u w)/\D*((T u).z-(T w).z)=dot r2 (e8 u w)
theorem Ae8(r0 r1 r2 n d:V3):dot ⟨dot n (c7 r1 r2),dot n (c7 r2 r0),dot n (c7 r0 r1)⟩ ⟨dot r0 d,dot r1 d,dot r2 d⟩=dot r0 (c7 r1 r2)*dot n d:=by simp only[dot,c7];grind
theorem Vd6(r0 r1 r2 a c:V3):c7 ⟨dot r0 a,dot r1 a,dot r2 a⟩ ⟨dot r0 c,dot r1 c,dot r2 c⟩=⟨dot (c7 r1 r2) (c7 a c),dot (c7 r2 r0) (c7 a c),dot (c7 r0 r1) (c7 a c)⟩:=by
 refine V3.ext' ?_ ?_ ?_<;>simp only[dot,c7]<;>grind
theorem me4(r0 r1 r2 v:V3):(dot r0 (c7 r1 r2)*v.x=dot (c7 r1 r2) v*r0.x+dot (c7 r2 r0) v*r1.x+dot (c7 r0 r1) v*r2.x)/\(dot r0 (c7 r1 r2)*v.y=dot (c7 r1 r2) v*r0.y+dot (c7 r2 r0) v*r1.y+dot (c7 r0 r1) v*r2.y)/\(dot r0 (c7 r1 r2)*v.z=dot (c7 r1 r2) v*r0.z+dot (c7 r2 r0) v*r1.z+dot (c7 r0 r1) v*r2.z):=by
 refine⟨?_,?_,?_⟩<;>simp only[dot,c7]<;>grind
theorem ma8{k x:Int}(hk:0<k)(h:k*x=0):x=0:=(Qkk.1 h).resolve_left (by omega)
theorem Oe1{l:List V3}{T:V3->V3}{r0 r1 r2:V3}{D:Int}(h:Mat l T r0 r1 r2 D)(hl:l.all inV=true)(hm:(l.map T).all inV=true):Sim l T:=by
 refine⟨hl,hm,λn=>⟨⟨D*dot n (c7 r1 r2),D*dot n (c7 r2 r0),D*dot n (c7 r0 r1)⟩,dot r0 (c7 r1 r2),h.det,λu hu w hw=>?_⟩,λn'=>⟨⟨n'.x*r0.x+n'.y*r1.x+n'.z*r2.x,n'.x*r0.y+n'.y*r1.y+n'.z*r2.y,n'.x*r0.z+n'.y*r1.z+n'.z*r2.z⟩,D,h.d,λu hu w hw=>?_⟩,λu hu w hw x hx=>?_⟩
 ·obtain⟨t1,t2,t3⟩:=h.t u hu w hw;have e:=Ae8 r0 r1 r2 n (e8 u w);rw[<- t1,<- t2,<- t3,K7 n u w] at e;rw[<- e];generalize dot n (c7 r1 r2)=A;generalize dot n (c7 r2 r0)=B;generalize dot n (c7 r0 r1)=C;simp only[dot]
  grind
 ·obtain⟨t1,t2,t3⟩:=h.t u hu w hw;have e:dot ⟨n'.x*r0.x+n'.y*r1.x+n'.z*r2.x,n'.x*r0.y+n'.y*r1.y+n'.z*r2.y,n'.x*r0.z+n'.y*r1.z+n'.z*r2.z⟩ u-dot ⟨n'.x*r0.x+n'.y*r1.x+n'.z*r2.x,n'.x*r0.y+n'.y*r1.y+n'.z*r2.y,n'.x*r0.z+n'.y*r1.z+n'.z*r2.z⟩ w=n'.x*dot r0 (e8 u w)+n'.y*dot r1 (e8 u w)+n'.z*dot r2 (e8 u w):=by simp only[dot,e8];grind
  rw[e,<- t1,<- t2,<- t3];simp only[dot]
  grind
 ·obtain⟨t1,t2,t3⟩:=h.t w hw u hu;obtain⟨s1,s2,s3⟩:=h.t x hx u hu;have e:=Vd6 r0 r1 r2 (e8 w u) (e8 x u);rw[<- t1,<- t2,<- t3,<- s1,<- s2,<- s3] at e;have eN:c7 (e8 w u) (e8 x u)=N3 u w x:=rfl;rw[eN] at e;have eT:c7 ⟨D*((T w).x-(T u).x),D*((T w).y-(T u).y),D*((T w).z-(T u).z)⟩ ⟨D*((T x).x-(T u).x),D*((T x).y-(T u).y),D*((T x).z-(T u).z)⟩=⟨D*(D*(N3 (T u) (T w) (T x)).x),D*(D*(N3 (T u) (T w) (T x)).y),D*(D*(N3 (T u) (T w) (T x)).z)⟩:=by
   refine V3.ext' ?_ ?_ ?_<;>simp only[N3,c7,e8]<;>grind
  rw[eT] at e;simp only[V3.mk.injEq] at e;obtain⟨e1,e2,e3⟩:=e;obtain⟨b1,b2,b3⟩:=me4 r0 r1 r2 (N3 u w x);have hd:=h.d;have hdet:=h.det;constructor
  ·intro hne h0;rw[h0] at e1 e2 e3;simp only[Qkd] at e1 e2 e3;rw[<- e1,<- e2,<- e3] at b1 b2 b3;simp only[Qkr,Qkaa] at b1 b2 b3;exact hne (V3.ext' (ma8 hdet b1) (ma8 hdet b2) (ma8 hdet b3))
  ·intro hne h0;rw[h0] at e1 e2 e3;have z:∀v:V3,dot v ⟨0,0,0⟩=0:=λv=>by simp[dot]
   rw[z] at e1 e2 e3;exact hne (V3.ext' (ma8 hd (ma8 hd e1)) (ma8 hd (ma8 hd e2)) (ma8 hd (ma8 hd e3)))
theorem Ae9 {r0 r1 r2 : V3} {D : Int} (h00 : dot r0 r0 = D * D) (h11 : dot r1 r1 = D * D) (h22 : dot r2 r2 = D * D) (h01 : dot r0 r1 = 0) (h02 : dot r0 r2 = 0) (h12 : dot r1 r2 = 0) (hdet : dot r0 (c7 r1 r2) ≠ 0) (d : V3) :
  dot r0 d*dot r0 d+dot r1 d*dot r1 d+dot r2 d*dot r2 d=D*D*dot d d:=by
 have key:(⟨D*D*d.x-(dot r0 d*r0.x+dot r1 d*r1.x+dot r2 d*r2.x),D*D*d.y-(dot r0 d*r0.y+dot r1 d*r1.y+dot r2 d*r2.y),D*D*d.z-(dot r0 d*r0.z+dot r1 d*r1.z+dot r2 d*r2.z)⟩:V3)=⟨0,0,0⟩:=by
  have ex:∀r:V3,dot r ⟨D*D*d.x-(dot r0 d*r0.x+dot r1 d*r1.x+dot r2 d*r2.x),D*D*d.y-(dot r0 d*r0.y+dot r1 d*r1.y+dot r2 d*r2.y),D*D*d.z-(dot r0 d*r0.z+dot r1 d*r1.z+dot r2 d*r2.z)⟩=D*D*dot r d-(dot r0 d*dot r r0+dot r1 d*dot r r1+dot r2 d*dot r r2):=λr=>by
   generalize dot r0 d=A;generalize dot r1 d=B;generalize dot r2 d=C;simp only[dot]
   grind
  have cm:∀a c:V3,dot a c=dot c a:=λa c=>by simp only[dot];grind
  refine jb9 (p:=⟨r0,0⟩) (q:=⟨r1,0⟩) (s:=⟨r2,0⟩) hdet ?_ ?_ ?_
  ·rw[ex,h00,h01,h02];grind
  ·rw[ex,cm r1 r0,h01,h11,h12];grind
  ·rw[ex,cm r2 r0,cm r2 r1,h02,h12,h22];grind
 simp only[V3.mk.injEq] at key;obtain⟨k1,k2,k3⟩:=key;have e:D*D*dot d d-(dot r0 d*dot r0 d+dot r1 d*dot r1 d+dot r2 d*dot r2 d)=d.x*(D*D*d.x-(dot r0 d*r0.x+dot r1 d*r1.x+dot r2 d*r2.x))+d.y*(D*D*d.y-(dot r0 d*r0.y+dot r1 d*r1.y+dot r2 d*r2.y))+d.z*(D*D*d.z-(dot r0 d*r0.z+dot r1 d*r1.z+dot r2 d*r2.z)):=by
  simp only[dot]
  grind
 rw[k1,k2,k3] at e;simp only[Qkd,Qkaa] at e;exact (Qkal e).symm
theorem Kd9{l:List V3}(h48:l.length<=48)(hl:l.all inV=true):(Sol l->V1 l=0)/\(¬ Sol l->V1 l=11):=by
 refine⟨xb0 h48 hl,λhn=>?_⟩
 by_cases h0:V1 l=0
 ·exact (hn (la0 h0).2.2).elim
 ·unfold V1 at h0 ⊢;rw[if_neg (by omega),if_neg (by rw[<- List.not_all_eq_any_not,hl];simp)] at h0 ⊢
  split
  ·rfl
  ·rename_i h;rw[if_neg h] at h0;exact (h0 rfl).elim
section
variable{l:List V3}{T:V3->V3}(h:Sim l T)(h48:l.length<=48)
include h h48
theorem Sim.chk:V1 (l.map T)=V1 l:=by
 have h1:=Kd9 h48 h.li;have h2:=Kd9 (l:=l.map T) (by rw[Qkq];exact h48) h.mi
 by_cases hs:Sol l
 ·rw[h1.1 hs,h2.1 ((Sim.sol h).1 hs)]
 ·rw[h1.2 hs,h2.2 λk=>hs ((Sim.sol h).2 k)]
theorem Sim.plane{p p':Pln}(hp:p∈(U6 l).1)(ok:okp p'=true)(hd:∀v∈l,dot p'.n (T v)<=p'.b)(on:∀v∈l,dot p.n v=p.b->dot p'.n (T v)=p'.b):p'∈(U6 (l.map T)).1:=by
 have hc:=Sim.chk h h48;unfold U6 at hp ⊢;rw[hc];by_cases h0:V1 l=0
 ·rw[if_pos h0] at hp ⊢;have hs:=(la0 h0).2.2;exact Sim.img h hs ((Sim.sol h).1 hs) hp ok hd on
 ·rw[if_neg h0] at hp;cases hp
end
theorem Be0 {r0 r1 r2 : V3} {D : Int} (h00 : dot r0 r0 = D * D) (h11 : dot r1 r1 = D * D) (h22 : dot r2 r2 = D * D) (h01 : dot r0 r1 = 0) (h02 : dot r0 r2 = 0) (h12 : dot r1 r2 = 0) (hdet : dot r0 (c7 r1 r2) ≠ 0) (n d : V3) :
  dot r0 n*dot r0 d+dot r1 n*dot r1 d+dot r2 n*dot r2 d=D*D*dot n d:=by
 have l:=λv=>Ae9 h00 h11 h22 h01 h02 h12 hdet v
 have add:∀r:V3,dot r ⟨n.x+d.x,n.y+d.y,n.z+d.z⟩=dot r n+dot r d:=λr=>by simp only[dot];grind
 have e:=l ⟨n.x+d.x,n.y+d.y,n.z+d.z⟩;have e1:=l n;have e2:=l d;have sq:dot (⟨n.x+d.x,n.y+d.y,n.z+d.z⟩:V3) ⟨n.x+d.x,n.y+d.y,n.z+d.z⟩=dot n n+2*dot n d+dot d d:=by simp only[dot];grind
 rw[sq,add,add,add] at e;generalize dot r0 n=a0 at *
 generalize dot r1 n=a1 at *
 generalize dot r2 n=a2 at *
 generalize dot r0 d=c0 at *
 generalize dot r1 d=c1 at *
 generalize dot r2 d=c2 at *
 generalize dot n n=nn at *
 generalize dot d d=dd at *
 generalize dot n d=nd at *
 generalize D*D=DD at *
 have k:2*(a0*c0+a1*c1+a2*c2)=2*(DD*nd):=by grind
 omega
structure Rot(l:List V3)(T:V3->V3)(r0 r1 r2:V3)(D:Int):Prop extends Mat l T r0 r1 r2 D where
 h00:dot r0 r0=D*D
 h11:dot r1 r1=D*D
 h22:dot r2 r2=D*D
 h01:dot r0 r1=0
 h02:dot r0 r2=0
 h12:dot r1 r2=0
section
variable{l:List V3}{T:V3->V3}{r0 r1 r2:V3}{D:Int}(h:Rot l T r0 r1 r2 D)
include h
theorem Rot.dots(n d:V3):dot r0 n*dot r0 d+dot r1 n*dot r1 d+dot r2 n*dot r2 d=D*D*dot n d :=
 Be0 h.h00 h.h11 h.h22 h.h01 h.h02 h.h12 (by have:=h.det;omega) n d
theorem Rot.same{u w:V3}(hu:u∈l)(hw:w∈l):dot (e8 (T u) (T w)) (e8 (T u) (T w))=dot (e8 u w) (e8 u w):=by
 obtain⟨t1,t2,t3⟩:=h.t u hu w hw;have e:=Rot.dots h (e8 u w) (e8 u w);rw[<- t1,<- t2,<- t3] at e;have f:D*((T u).x-(T w).x)*(D*((T u).x-(T w).x))+D*((T u).y-(T w).y)*(D*((T u).y-(T w).y))+D*((T u).z-(T w).z)*(D*((T u).z-(T w).z))=D*D*dot (e8 (T u) (T w)) (e8 (T u) (T w)):=by simp only[dot,e8];grind
 rw[f] at e;have hd:=Qkt h.d h.d;exact Qkv (by omega) e
theorem Rot.nrm{n n':V3}{g:Int}(e1:g*n'.x=dot r0 n)(e2:g*n'.y=dot r1 n)(e3:g*n'.z=dot r2 n){u w:V3}(hu:u∈l)(hw:w∈l):g*(dot n' (T u)-dot n' (T w))=D*(dot n u-dot n w):=by
 obtain⟨t1,t2,t3⟩:=h.t u hu w hw;have e:=Rot.dots h n (e8 u w);rw[<- t1,<- t2,<- t3,<- e1,<- e2,<- e3,K7] at e;have f:g*n'.x*(D*((T u).x-(T w).x))+g*n'.y*(D*((T u).y-(T w).y))+g*n'.z*(D*((T u).z-(T w).z))=D*(g*(dot n' (T u)-dot n' (T w))):=by simp only[dot];grind
 rw[f,Int.mul_assoc] at e;exact Qkv (by have:=h.d;omega) e
theorem Rot.plane (hl : l.all inV = true) (hm : (l.map T).all inV = true) (h48 : l.length ≤ 48) {p p' : Pln} {g : Int} (hp : p ∈ (U6 l).1) (ok : okp p' = true) (hg : 0 < g) (e1 : g * p'.n.x = dot r0 p.n) (e2 : g * p'.n.y = dot r1 p.n) (e3 : g * p'.n.z = dot r2 p.n)
  {u:V3} (hu:u∈l) (on:dot p.n u=p.b) (on':dot p'.n (T u)=p'.b):p'∈(U6 (l.map T)).1:=by
 have hs:=Oe1 h.toMat hl hm;have hf:Qa7 l p:=by
  unfold U6 at hp;by_cases h0:V1 l=0
  ·rw[if_pos h0] at hp;exact (N6 hl p).1 hp
  ·rw[if_neg h0] at hp;cases hp
 have hd:=h.d;refine Sim.plane hs h48 hp ok (λv hv=>?_) λv hv hv'=>?_
 ·have e:=Rot.nrm h e1 e2 e3 hv hu;have k:=Vd5 hd (show dot p.n v-dot p.n u<=0 by have:=hf.hd v hv;omega)
  apply Qka;intro hno
  have:=Qkt hg (show 0<dot p'.n (T v)-dot p'.n (T u) by omega)
  omega
 ·have e:=Rot.nrm h e1 e2 e3 hv hu;rw[show dot p.n v-dot p.n u=0 by omega,Qkd] at e
  have:=ua8 hg e
  omega
end
section
variable{l:List V3}{T:V3->V3}{r0 r1 r2:V3}{D:Int}(h:Rot l T r0 r1 r2 D)
include h
theorem Rot.off{n n' sft:V3}{g:Int}(e1:g*n'.x=dot r0 n)(e2:g*n'.y=dot r1 n)(e3:g*n'.z=dot r2 n){u:V3}(t:D*((T u).x-sft.x)=dot r0 u/\D*((T u).y-sft.y)=dot r1 u/\D*((T u).z-sft.z)=dot r2 u):g*(dot n' (T u)-dot n' sft)=D*dot n u:=by
 obtain⟨t1,t2,t3⟩:=t;have e:=Rot.dots h n u;rw[<- t1,<- t2,<- t3,<- e1,<- e2,<- e3] at e;have f:g*n'.x*(D*((T u).x-sft.x))+g*n'.y*(D*((T u).y-sft.y))+g*n'.z*(D*((T u).z-sft.z))=D*(g*(dot n' (T u)-dot n' sft)):=by simp only[dot];grind
 rw[f,Int.mul_assoc] at e;exact Qkv (by have:=h.d;omega) e
end
def crs(n a c:V3):Int:=dot n (c7 a c)
def orp(n a c v:V3):Int:=crs n (e8 c a) (e8 v a)
theorem Yc0(n a c v:V3):orp n a v c=-orp n a c v:=by simp only[orp,crs,dot,c7,e8];grind
theorem Oe2(n a c v:V3):orp n c v a=orp n a c v:=by simp only[orp,crs,dot,c7,e8];grind
theorem Vd7(n a c v:V3):orp n a c v=crs n (e8 a v) (e8 c v):=by simp only[orp,crs,dot,c7,e8];grind
theorem wd2(n a c:V3):orp n a c c=0:=by simp only[orp,crs,dot,c7,e8];grind
theorem Vd8(n a c:V3):orp n a c a=0:=by simp only[orp,crs,dot,c7,e8];grind
theorem wd3(a c:V3):dot a c=dot c a:=by simp only[dot];grind
theorem kf2{n a c v:V3}(hn:n≠⟨0,0,0⟩)(h1:dot a n=0)(h2:dot c n=0)(h3:dot v n=0):dot a (c7 c v)=0:=by
 apply Qka;intro h;exact hn (jb9 (p:=⟨a,0⟩) (q:=⟨c,0⟩) (s:=⟨v,0⟩) h h1 h2 h3)
theorem md2 {n m a c v : V3} (hn : n ≠ ⟨0, 0, 0⟩) (h1 : dot a n = 0) (h2 : dot c n = 0) (h3 : dot v n = 0) (m1 : dot m a < 0) (m2 : dot m c < 0) (m3 : dot m v < 0)
  (c1:0<crs n a c) (c2:0<crs n c v):0<crs n a v:=by
 have e:crs n c v*dot m a+crs n v a*dot m c+crs n a c*dot m v=dot a (c7 c v)*dot m n:=by simp only[crs,dot,c7];grind
 rw[kf2 hn h1 h2 h3,Qkr] at e;have k1:=Qkj c2 m1;have k2:=Qkj c1 m3;have k3:0<crs n v a*dot m c:=by omega
 have k4:crs n v a<0:=by
  apply Qka;intro hno
  have:=Qkad (show 0<=crs n v a by omega) (show 0<=-dot m c by omega)
  rw[Int.mul_neg] at this;omega
 have:crs n a v=-crs n v a:=by simp only[crs,dot,c7];grind
 omega
theorem Oe3{n a c:V3}(hn:n≠⟨0,0,0⟩)(h1:dot n a=0)(h2:dot n c=0)(h:crs n a c=0):c7 a c=⟨0,0,0⟩:=by
 apply Qka;intro hne;have hp:=xa1 (d:=n) (Aa6 h1 h2);rw[show dot n (c7 a c)=0 from h,Qkr] at hp
 rcases Qkk.1 hp with e|e
 ·have:=ma7 hne;omega
 ·have:=ma7 hn;omega
theorem xc6{a c m:V3}(h:c7 a c=⟨0,0,0⟩)(m':V3):dot m c*dot m' a=dot m a*dot m' c:=by
 have e:dot m c*dot m' a-dot m a*dot m' c=-dot (c7 m m') (c7 a c):=by simp only[dot,c7];grind
 rw[h] at e;have z:dot (c7 m m') ⟨0,0,0⟩=0:=by simp[dot]
 rw[z] at e;omega
theorem Da5(m a c:V3):dot m (e8 a c)=dot m a-dot m c:=by simp only[dot,e8];grind
theorem kf3(n a c:V3):dot (e8 a c) n=dot n a-dot n c:=by simp only[dot,e8];grind
def Hi(X:List V3)(v m:V3):Prop:=∀w∈X,w≠v->dot m w<dot m v
theorem Oe4 {X : List V3} (hX : ∀ v ∈ X, ∃ m, Hi X v m) {n a c v : V3} {k : Int} (hn : n ≠ ⟨0, 0, 0⟩) (ha : a ∈ X) (hc : c ∈ X) (hv : v ∈ X) (pa : dot n a = k) (pc : dot n c = k) (pv : dot n v = k)
  (h1:a≠c) (h2:a≠v) (h3:c≠v):orp n a c v≠0:=by
 intro h;have hz:=Oe3 hn (by rw[Da5];omega) (by rw[Da5];omega) h
 obtain⟨m1,k1⟩:=hX a ha;obtain⟨m2,k2⟩:=hX c hc;obtain⟨m3,k3⟩:=hX v hv;have a1:=k1 c hc (Ne.symm h1);have a2:=k1 v hv (Ne.symm h2);have b1:=k2 a ha h1;have b2:=k2 v hv (Ne.symm h3);have c1:=k3 a ha h2;have c2:=k3 c hc h3;have e2:=xc6 (m:=m1) hz m2;have e3:=xc6 (m:=m1) hz m3;rw[Da5,Da5,Da5,Da5] at e2 e3;obtain⟨r,hr⟩:∃r,r=dot m1 a-dot m1 v:=⟨_,rfl⟩;obtain⟨s,hs⟩:∃s,s=dot m1 a-dot m1 c:=⟨_,rfl⟩;obtain⟨x2,hx2⟩:∃x,x=dot m2 c-dot m2 a:=⟨_,rfl⟩;obtain⟨y2,hy2⟩:∃x,x=dot m2 v-dot m2 a:=⟨_,rfl⟩;obtain⟨x3,hx3⟩:∃x,x=dot m3 c-dot m3 a:=⟨_,rfl⟩;obtain⟨y3,hy3⟩:∃x,x=dot m3 v-dot m3 a:=⟨_,rfl⟩;rw[show dot m1 v-dot m1 a=-r by omega,show dot m1 c-dot m1 a=-s by omega,<- hx2,<- hy2,Qkae,Qkae] at e2
 rw[show dot m1 v-dot m1 a=-r by omega,show dot m1 c-dot m1 a=-s by omega,<- hx3,<- hy3,Qkae,Qkae] at e3
 have r0:0<r:=by omega
 have s0:0<s:=by omega
 have p1:0<x2:=by omega
 have p2:y2<x2:=by omega
 have p3:0<y3:=by omega
 have p4:x3<y3:=by omega
 have q2:r*x2=s*y2:=by omega
 have q3:r*x3=s*y3:=by omega
 have hrs:r<s:=by
  apply Qka;intro hno;have t1:s*y2<s*x2:=Qkah p2 s0;have t2:s*x2<=r*x2:=Int.mul_le_mul_of_nonneg_right (by omega) (by omega)
  omega
 have t1:r*y3<s*y3:=Int.mul_lt_mul_of_pos_right hrs p3;have t2:r*x3<r*y3:=Qkah p4 r0;omega
structure Rim(X C:List V3)(n:V3)(k:Int):Prop where
 n0:n≠⟨0,0,0⟩
 hx:∀v∈X,∃m,Hi X v m
 sub:∀c∈C,c∈X/\dot n c=k
 nd:C.Nodup
 two:2<=C.length
def Edg(C:List V3)(n a c:V3):Prop:=a∈C/\c∈C/\a≠c/\∀v∈C,v≠a->v≠c->0<orp n a c v
def nxF(n a:V3):List V3->V3->V3
 |[],best=>best
 |w::l,best=>if (!eqV w a&&(eqV best a||decide (orp n a best w<0)))=true then nxF n a l w else nxF n a l best
def nxt(C:List V3)(n a:V3):V3:=nxF n a C a
theorem Edg.out{C:List V3}{n a c d:V3}(h1:Edg C n a c)(h2:Edg C n a d):c=d:=by
 apply Qka;intro hne;have e1:=h1.2.2.2 d h2.2.1 (Ne.symm h2.2.2.1) (Ne.symm hne);have e2:=h2.2.2.2 c h1.2.1 (Ne.symm h1.2.2.1) hne;rw[Yc0] at e2;omega
theorem Edg.inn{C:List V3}{n a c d:V3}(h1:Edg C n a c)(h2:Edg C n d c):a=d:=by
 apply Qka;intro hne;have e1:=h1.2.2.2 d h2.1 (Ne.symm hne) h2.2.2.1;have e2:=h2.2.2.2 a h1.1 hne h1.2.2.1;rw[Oe2,Yc0] at e2;omega
section
variable{X C:List V3}{n:V3}{k:Int}(h:Rim X C n k)
include h
theorem Rim.perp{a c:V3}(ha:a∈C)(hc:c∈C):dot (e8 a c) n=0:=by
 rw[kf3,(h.sub a ha).2,(h.sub c hc).2,Qkg]
theorem Rim.orp_tr{a c v w:V3}(ha:a∈C)(hc:c∈C)(hv:v∈C)(hw:w∈C)(ca:c≠a)(va:v≠a)(wa:w≠a)(h1:0<orp n a c v)(h2:0<orp n a v w):0<orp n a c w:=by
 obtain⟨m,hm⟩:=h.hx a (h.sub a ha).1;have m1:=hm c (h.sub c hc).1 ca;have m2:=hm v (h.sub v hv).1 va;have m3:=hm w (h.sub w hw).1 wa;exact md2 (m:=m) h.n0 (h.perp hc ha) (h.perp hv ha) (h.perp hw ha) (by rw[Da5];omega) (by rw[Da5];omega) (by rw[Da5];omega) h1 h2
theorem Rim.ne0{a c v:V3}(ha:a∈C)(hc:c∈C)(hv:v∈C)(h1:a≠c)(h2:a≠v)(h3:c≠v):orp n a c v≠0 :=
 Oe4 h.hx h.n0 (h.sub a ha).1 (h.sub c hc).1 (h.sub v hv).1 (h.sub a ha).2 (h.sub c hc).2 (h.sub v hv).2 h1 h2 h3
def Fnd(D:List V3)(n a best:V3):Prop:=(best=a/\∀c∈D,c=a)\/(best∈D/\best≠a/\∀c∈D,c≠a->c≠best->0<orp n a best c)
theorem Rim.fnd{a:V3}(ha:a∈C):∀(l D:List V3) (best:V3),(∀x∈D,x∈C)->(∀x∈l,x∈C)->Fnd D n a best->Fnd (D++l) n a (nxF n a l best)
 |[],D,best,_,_,hf=>by rw[List.append_nil];exact hf
 |w::l,D,best,hD,hl,hf=>by
  have hw:=hl w (by simp)
  have rec':=λb hb=>Rim.fnd ha l (D++[w]) b (λx hx=>(Qkf.1 hx).elim (hD x) λe=>by rw[Qkm.1 e];exact hw) (λx hx=>hl x (by simp[hx])) hb
  rw[List.append_assoc] at rec';unfold nxF;by_cases hwa:w=a
  ·rw[if_neg (by rw[show eqV w a=true from (Ua7 _ _).2 hwa];simp)]
   refine rec' best ?_
   rcases hf with⟨e,hf⟩|⟨e1,e2,hf⟩
   ·exact .inl ⟨e,λc hc=>(Qkf.1 hc).elim (hf c) λe=>(Qkm.1 e).trans hwa⟩
   ·exact .inr ⟨List.mem_append_left _ e1,e2,λc hc h1 h2=>(Qkf.1 hc).elim (λk=>hf c k h1 h2) λe=>absurd ((Qkm.1 e).trans hwa) h1⟩
  ·have ew : eqV w a = false := by
    cases hq:eqV w a with
    |false=>rfl
    |true=>exact absurd ((Ua7 _ _).1 hq) hwa
   rcases hf with⟨e,hf⟩|⟨e1,e2,hf⟩
   ·rw[if_pos (by rw[ew,(Ua7 _ _).2 e];rfl)]
    refine rec' w (.inr ⟨by simp,hwa,λc hc h1 h2=>?_⟩)
    rcases Qkf.1 hc with k|k
    ·exact absurd (hf c k) h1
    ·exact absurd (Qkm.1 k) h2
   ·have eb : eqV best a = false := by
     cases hq:eqV best a with
     |false=>rfl
     |true=>exact absurd ((Ua7 _ _).1 hq) e2
    have hb:=hD best e1;by_cases ho:orp n a best w<0
    ·rw[if_pos (by rw[ew,eb,decide_eq_true ho];rfl)]
     have o1:0<orp n a w best:=by rw[Yc0];omega
     refine rec' w (.inr ⟨by simp,hwa,λc hc h1 h2=>?_⟩)
     rcases Qkf.1 hc with k|k
     ·by_cases hcb:c=best
      ·rw[hcb];exact o1
      ·exact h.orp_tr ha hw hb (hD c k) hwa e2 h1 o1 (hf c k h1 hcb)
     ·exact absurd (Qkm.1 k) h2
    ·rw[if_neg (by rw[ew,eb,decide_eq_false ho];simp)]
     refine rec' best (.inr ⟨List.mem_append_left _ e1,e2,λc hc h1 h2=>?_⟩)
     rcases Qkf.1 hc with k|k
     ·exact hf c k h1 h2
     ·rw[Qkm.1 k] at h2 ⊢
      have:=h.ne0 ha hb hw (Ne.symm e2) (Ne.symm hwa) (Ne.symm h2)
      omega
theorem Rim.other(a:V3):∃c∈C,c≠a:=by
 apply Qka;intro hno
 have:C.length<=[a].length:=List.Nodup.length_le_of_subset h.nd λc hc=>by
  have:c=a:=Qka λhne=>hno ⟨c,hc,hne⟩
  simp[this]
 have:=h.two
 simp only[List.length_singleton] at *
 omega
theorem Rim.nx{a:V3}(ha:a∈C):Edg C n a (nxt C n a):=by
 have hf:=h.fnd ha C [] a (λx hx=>by cases hx) (λx hx=>hx) (.inl ⟨rfl,λc hc=>by cases hc⟩)
 rw[List.nil_append] at hf;obtain⟨c,hc,hca⟩:=h.other a
 rcases hf with⟨_,hf⟩|⟨e1,e2,hf⟩
 ·exact absurd (hf c hc) hca
 ·exact⟨ha,e1,Ne.symm e2,hf⟩
theorem Rim.nx_mem{a:V3}(ha:a∈C):nxt C n a∈C:=(h.nx ha).2.1
theorem Rim.nx_inj{a c:V3}(ha:a∈C)(hc:c∈C)(e:nxt C n a=nxt C n c):a=c:=(h.nx ha).inn (e ▸ h.nx hc)
def itr(C:List V3)(n a:V3):Nat->V3
 |0=>a
 |i+1=>nxt C n (itr C n a i)
theorem Rim.it_mem{a:V3}(ha:a∈C):∀i,itr C n a i∈C
 |0=>ha
 |i+1=>h.nx_mem (Rim.it_mem ha i)
theorem Rim.it_back{a:V3}(ha:a∈C):∀i j,itr C n a i=itr C n a (i+j)->a=itr C n a j
 |0,j,e=>by rw[Qkak] at e;exact e
 |i+1,j,e=>Rim.it_back ha i j (by
  rw[Nat.add_right_comm] at e;exact h.nx_inj (h.it_mem ha i) (h.it_mem ha (i+j)) e)
theorem Rim.it_ret{a:V3}(ha:a∈C){m:Nat}(hm:0<m)(e:itr C n a m=a):∀x∈C,∃i,i<m/\itr C n a i=x:=λx hx=>by
 apply Qka;intro hno;have hne:∀i,i<=m->itr C n a i≠x:=λi hi he=>by
  by_cases k:i<m
  ·exact hno ⟨i,k,he⟩
  ·have:i=m:=by omega
   subst this;exact hno ⟨0,hm,by rw[<- he,e];rfl⟩
 obtain⟨w,hw⟩:=h.hx x (h.sub x hx).1;have hlow:∀i,i<=m->dot w (e8 (itr C n a i) x)<0:=λi hi=>by
  have:=hw _ (h.sub _ (h.it_mem ha i)).1 (hne i hi)
  rw[Da5];omega
 have hstep:∀i,i+1<=m->0<crs n (e8 (itr C n a i) x) (e8 (itr C n a (i+1)) x):=λi hi=>by
  rw[<- Vd7];exact (h.nx (h.it_mem ha i)).2.2.2 x hx (Ne.symm (hne i (by omega))) (Ne.symm (hne (i+1) hi))
 have key:∀j,j+1<=m->0<crs n (e8 (itr C n a 0) x) (e8 (itr C n a (j+1)) x):=λj=>by
  induction j with
  |zero=>exact hstep 0
  |succ j ih=>exact λhj=>md2 (m:=w) h.n0 (h.perp (h.it_mem ha _) hx) (h.perp (h.it_mem ha _) hx) (h.perp (h.it_mem ha _) hx) (hlow 0 (by omega)) (hlow (j+1) (by omega)) (hlow (j+2) hj) (ih (by omega)) (hstep (j+1) hj)
 have:=key (m-1) (by omega)
 rw[show m-1+1=m by omega,e] at this
 have z:crs n (e8 a x) (e8 a x)=0:=by simp only[crs,dot,c7,e8];grind
 have:0<crs n (e8 a x) (e8 a x):=this
 omega
theorem Rim.it_len{a:V3}(ha:a∈C){m:Nat}(hm:0<m)(e:itr C n a m=a):C.length<=m:=by
 have:=List.Nodup.length_le_of_subset h.nd (l₂:=(List.range m).map (itr C n a)) λx hx=>by
  obtain⟨i,hi,rfl⟩:=h.it_ret ha hm e x hx;exact Qkb.2 ⟨i,Qkl.2 hi,rfl⟩
 rw[Qkq,List.length_range] at this;exact this
theorem Rim.it_nd{a:V3}(ha:a∈C):((List.range C.length).map (itr C n a)).Nodup:=by
 unfold List.Nodup;rw[Qkw];refine List.Pairwise.imp_of_mem (λ{i j} hi hj hij e=>?_) List.pairwise_lt_range
 have hj':=Qkl.1 hj
 have:=h.it_back ha i (j-i) (by rw[show i+(j-i)=j by omega];exact e)
 have:=h.it_len ha (m:=j-i) (by omega) this.symm
 omega
theorem Rim.it_perm{a:V3}(ha:a∈C):((List.range C.length).map (itr C n a)).Perm C:=by
 refine Jd8 (h.it_nd ha) h.nd (λx hx=>?_) (by rw[Qkq,List.length_range];exact Nat.le_refl _)
 obtain⟨i,_,rfl⟩:=Qkb.1 hx;exact h.it_mem ha i
theorem Rim.it_end{a:V3}(ha:a∈C):itr C n a C.length=a:=by
 have:=(h.it_perm ha).mem_iff.2 (h.it_mem ha C.length)
 obtain⟨i,hi,e⟩:=Qkb.1 this;have hi:=Qkl.1 hi;have hb:=h.it_back ha i (C.length-i) (by rw[show i+(C.length-i)=C.length by omega];exact e)
 have:=h.it_len ha (m:=C.length-i) (by omega) hb.symm
 have:i=0:=by omega
 subst this;exact e.symm
theorem Rim.nx_perm:(C.map (nxt C n)).Perm C:=by
 refine Jd8 ?_ h.nd (λx hx=>?_) (by rw[Qkq];exact Nat.le_refl _)
 ·unfold List.Nodup;rw[Qkw];exact List.Pairwise.imp_of_mem (λ{a c} ha hc hne e=>hne (h.nx_inj ha hc e)) h.nd
 ·obtain⟨a,ha,rfl⟩:=Qkb.1 hx;exact h.nx_mem ha
theorem Rim.sig_nx(f:V3->Int):sig C (λa=>f (nxt C n a))=sig C f:=by rw[<- Kc2 (nxt C n) f,Jd7 h.nx_perm]
theorem Rim.sig_it(f:V3->Int){a:V3}(ha:a∈C):sig C f=sig (List.range C.length) (λi=>f (itr C n a i)):=by rw[<- Kc2 (itr C n a) f,Jd7 (h.it_perm ha)]
end
def AR(C:List V3)(n d:V3):Int:=sig C λa=>dot (c7 a (nxt C n a)) d
def D3(a c v:V3):Int:=dot (c7 a c) v
theorem Be1(C:List V3)(n d e:V3):AR C n (e8 d e)=AR C n d-AR C n e:=by
 unfold AR;rw[<- pc2];exact T9 λa _=>Da5 _ _ _
theorem Be2(C:List V3)(n d:V3)(k:Int):AR C n ⟨k*d.x,k*d.y,k*d.z⟩=k*AR C n d:=by
 unfold AR;rw[<- ce7];exact T9 λa _=>by simp only[dot];grind
section
variable{X C:List V3}{n:V3}{k:Int}(h:Rim X C n k)
include h
theorem Rim.ar_o(o d:V3):sig C (λa=>D3 (e8 a o) (e8 (nxt C n a) o) d)=AR C n d:=by
 have e:∀a c:V3,D3 (e8 a o) (e8 c o) d=dot (c7 a c) d-(dot (c7 o c) d-dot (c7 o a) d):=λa c=>by simp only[D3,dot,c7,e8];grind
 have h1:sig C (λa=>D3 (e8 a o) (e8 (nxt C n a) o) d)=sig C (λa=>dot (c7 a (nxt C n a)) d-(dot (c7 o (nxt C n a)) d-dot (c7 o a) d)):=T9 λa _=>e a _
 rw[h1,pc2,pc2,h.sig_nx (λc=>dot (c7 o c) d)]
 show AR C n d-_=_;omega
theorem Rim.ne:∃a,a∈C:=by
 obtain⟨c,hc,_⟩:=h.other ⟨0,0,0⟩;exact⟨c,hc⟩
theorem Rim.ar_perp{d:V3}(hd:dot d n=0):AR C n d=0:=by
 obtain⟨o,ho⟩:=h.ne;rw[<- h.ar_o o d];refine Xa2 λa ha=>?_
 have:=kf2 h.n0 hd (h.perp ha ho) (h.perp (h.nx_mem ha) ho)
 rw[show D3 (e8 a o) (e8 (nxt C n a) o) d=dot d (c7 (e8 a o) (e8 (nxt C n a) o)) from wd3 _ _]
 exact this
theorem Rim.ar_n(d:V3):dot n n*AR C n d=dot n d*AR C n n:=by
 have e:AR C n (e8 ⟨dot n n*d.x,dot n n*d.y,dot n n*d.z⟩ ⟨dot n d*n.x,dot n d*n.y,dot n d*n.z⟩)=0:=h.ar_perp (by simp only[dot,e8];grind)
 rw[Be1,Be2,Be2] at e;omega
theorem Rim.ar_pos(h3:3<=C.length):0<AR C n n:=by
 obtain⟨o,ho⟩:=h.ne;rw[<- h.ar_o o n];have term:∀a∈C,D3 (e8 a o) (e8 (nxt C n a) o) n=orp n a (nxt C n a) o:=λa _=>by rw[Vd7];simp only[D3,crs];exact wd3 _ _
 have nn:∀a∈C,0<=D3 (e8 a o) (e8 (nxt C n a) o) n:=λa ha=>by
  rw[term a ha];by_cases e1:o=a
  ·rw[e1,Vd8];exact Qkx _
  ·by_cases e2:o=nxt C n a
   ·rw[<- e2,wd2];exact Qkx _
   ·have:=(h.nx ha).2.2.2 o ho e1 e2;omega
 -- the corner behind the next one
 have ha:=h.nx_mem ho;have hne:o≠nxt C n o:=(h.nx ho).2.2.1;have hne2:o≠nxt C n (nxt C n o):=λe=>by
  have:=h.it_len ho (m:=2) (by omega) e.symm
  omega
 have hp:0<D3 (e8 (nxt C n o) o) (e8 (nxt C n (nxt C n o)) o) n:=by
  rw[term _ ha];exact (h.nx ha).2.2.2 o ho hne hne2
 have hsum:∀(l:List V3),(∀a∈l,0<=D3 (e8 a o) (e8 (nxt C n a) o) n)->nxt C n o∈l->0<sig l (λa=>D3 (e8 a o) (e8 (nxt C n a) o) n):=λl=>by
  induction l with
  |nil=>intro _ hx;cases hx
  |cons x l ih =>
   intro hl hx;rw[v7];have h1:=hl x (by simp)
   have h2:0<=sig l (λa=>D3 (e8 a o) (e8 (nxt C n a) o) n):=Xc3 λa ha=>hl a (by simp[ha])
   rcases Qke.1 hx with e|hx
   ·rw[e] at hp;omega
   ·have:=ih (λa ha=>hl a (by simp[ha])) hx;omega
 exact hsum C nn ha
theorem Rim.cone(h3:3<=C.length){c:V3}(hc:dot n c=k)(o:V3):(dot n o<k->0<AR C n (e8 c o))/\(dot n o=k->AR C n (e8 c o)=0)/\(k<dot n o->AR C n (e8 c o)<0):=by
 have e:=h.ar_n (e8 c o);rw[Da5,hc] at e;have hp:=h.ar_pos h3;have hn:=ma7 h.n0;refine⟨λhk=>?_,λhk=>?_,λhk=>?_⟩
 ·have:=Qkt (show 0<k-dot n o by omega) hp
  apply Qka;intro hno
  have:=Qkad (show 0<=dot n n by omega) (show 0<=-AR C n (e8 c o) by omega)
  rw[Int.mul_neg] at this;omega
 ·rw[show k-dot n o=0 by omega,Qkr] at e
  exact (Qkk.1 e).resolve_left (by omega)
 ·have:=Qkt (show 0<dot n o-k by omega) hp
  apply Qka;intro hno;have h1:=Qkad (show 0<=dot n n by omega) (show 0<=AR C n (e8 c o) by omega)
  have:(dot n o-k)*AR C n n=-((k-dot n o)*AR C n n):=by rw[<- Qkae];congr 1;omega
  omega
theorem Rim.sum_edges(f:V3->V3->Int):sig C (λa=>sig C (λc=>@ite _ (Edg C n a c) (Classical.propDecidable _) (f a c) 0))=sig C (λa=>f a (nxt C n a)):=by
 refine T9 λa ha=>?_
 rw[ec5 h.nd (h.nx_mem ha) λc hc hne=>?_]
 ·rw[if_pos (h.nx ha)]
 ·rw[if_neg λhe=>hne (he.out (h.nx ha))]
end
theorem Rim.fan{X C:List V3}{n:V3}{k:Int}(h:Rim X C n k){a:V3}(ha:a∈C):sig (List.range (C.length-2)) (λi=>D3 a (itr C n a (i+1)) (itr C n a (i+2)))=AR C n a:=by
 have e1:AR C n a=sig (List.range C.length) (λi=>dot (c7 (itr C n a i) (itr C n a (i+1))) a):=h.sig_it (λv=>dot (c7 v (nxt C n v)) a) ha
 rw[e1];have h2:=h.two;obtain⟨m,hm⟩:∃m,C.length=m+2:=⟨C.length-2,by omega⟩
 rw[hm,show m+2-2=m by omega]
 have hend:=h.it_end ha;rw[hm] at hend;have hr:List.range (m+2)=0::(List.range m).map (·+1)++[m+1]:=by
  rw[List.range_succ,List.range_succ_eq_map]
 rw[hr,List.cons_append,v7,ob9,Kc2,v7,Pa6];have z1:dot (c7 (itr C n a 0) (itr C n a (0+1))) a=0:=by
  show dot (c7 a _) a=0;simp only[dot,c7];grind
 have z2:dot (c7 (itr C n a (m+1)) (itr C n a (m+1+1))) a=0:=by
  rw[show m+1+1=m+2 from rfl,hend]
  simp only[dot,c7];grind
 rw[z1,z2,Qkz,Qkaa,Qkaa];exact T9 λi _=>by simp only[D3,dot,c7];grind
end Go.Ev.Ce
