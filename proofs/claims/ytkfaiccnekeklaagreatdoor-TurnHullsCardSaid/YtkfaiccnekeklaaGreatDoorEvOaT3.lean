/- Own work. -/
import Derived.Test.YtkfaiccnekeklaaGreatDoorEvOaN8
set_option linter.all false
noncomputable section
def Qja:=@List.all_eq_true
def Qjb:=@List.any_eq_true
def Qjc:=@List.length_append
def Qjd:=@List.mem_map
def Qje:=@List.length_take
def Qjf:=@Int.mul_eq_zero
def Qjg:=@Nat.lt_irrefl
def Qjh:=@Nat.zero_add
def Qji:=@Bool.false_eq_true
def Qjj:=@List.mem_range
def Qjk:=@Classical.byContradiction
def Qjl:=@Bool.and_eq_true
def Qjm:=@Int.mul_zero
def Qjn:=@Nat.le_refl
def Qjo:=@Nat.zero_le
def Qjp:=@List.mem_filter
def Qjq:=@Int.mul_le_mul_of_nonneg_left
def Qjr:=@List.drop_zero
def Qjs:=@List.append_nil
def Qjt:=@Bool.and_true
def Qju:=@Int.mul_nonpos_of_nonneg_of_nonpos
def Qjv:=@List.mem_iff_getElem
def Qjw:=@Nat.beq_refl
def Qjx:=@List.mem_cons
def Qjy:=@List.mem_cons_self
def Qjz:=@List.length_set
def Qjaa:=@List.filter_append
def Qjab:=@List.take_append_of_le_length
def Qjac:=@Int.zero_mul
def Qjad:=@Bool.not_eq_true
def Qjae:=@List.mem_cons_of_mem
def Qjaf:=@List.findIdx_getElem
def Qjag:=@List.filter_cons
def Qjah:=@List.getD_eq_getElem?_getD
def Qjai:=@List.mem_append
def Qjaj:=@Int.sub_self
def Qjak:=@Nat.lt_or_gt_of_ne
def Qjal:=@Int.mul_nonneg
def Qjam:=@List.take_succ_eq_append_getElem
def Qjan:=@List.findIdx_lt_length_of_exists
def Qjao:=@List.length_filter_le
def Qjap:=@Int.nonneg_of_mul_nonneg_right
def Qjaq:=@List.pairwise_cons
def Qjar:=@List.mem_singleton
def Qjas:=@Int.eq_of_mul_eq_mul_left
def Qjat:=@Int.mul_pos_of_neg_of_neg
def Qjau:=@List.drop_eq_getElem_cons
def Qjav:=@Nat.ble_eq
def Qjaw:=@Int.le_of_lt
def Qjax:=@List.length_drop
def Qjay:=@Int.eq_ofNat_of_zero_le
def Qjaz:=@List.drop_eq_nil_of_le
def Qjba:=@List.getElem_set_self
def Qjbb:=@List.take_take
def Qjbc:=@List.length_replicate
def Qjbd:=@Go.Ev.Ce.V3.ext'
namespace Go.Ev.Ce
open Go Go.Ev Go.Ev.L Go.Proofs
set_option maxRecDepth 100000
def ob3:=ma1 sb1
def ua7:=ma1 jb7
def Ca8:=ma1 rb7
def Ea0:=ma1 yb2
def ob4:=ma1 rb9
def Gb3:=ma1 Ob6
def Dc6:=ma1 Jc3
def Kc9:=ma1 Zc7
def ia1:=ma1 Wb3
def Ha0:=ma1 pc2
def Jb9:=ma1 Yc2
def gc2:=ma1 pc6
def qc0:=ma1 Cc4
def Kb0:=ma1 qa3
def Kb1:=ma1 Oa8
def Kb2:=ma1 bd0
def qc1:=ma1 Dc5
def bd1:=ma1 nd4
def Lc0:List (Nat×Sum):=[(47,Ka9),(48,ia0),(50,pa0),(49,sa1),(51,Ka6),(52,ab5)]
theorem Dc7:j5 prog GI Lc0:=⟨ob3,ua7,Ca8,Ea0,ob4,Gb3,trivial⟩
def ob5(x:Trn):Option (c7×List c8):=let t1:=(Ka7 x.m x.d);let t2:=(B5 x.m x.d);let t3:=(oa9 x.m);let t4:=(sa0 x.m t3);let t5:=(Ka5 (⟨(⟨1,0,0⟩:V3),(⟨0,1,0⟩:V3),(⟨0,0,1⟩:V3)⟩:M3) (W (x.d*x.d)));let t6:=(ab4 x.m);(sl (decide (x.d<1)) (some (b false,[])) (sl (decide (x.d>25)) (some (b false,[])) (sl (Ka8 x.m x.d) (sl (!t1) (some (b false,[])) (sl (O1 x.m x.d) (sl ((t4.r0.x==t5.r0.x)&&((t4.r0.y==t5.r0.y)&&((t4.r0.z==t5.r0.z)&&((t4.r1.x==t5.r1.x)&&((t4.r1.y==t5.r1.y)&&((t4.r1.z==t5.r1.z)&&((t4.r2.x==t5.r2.x)&&((t4.r2.y==t5.r2.y)&&((t4.r2.z==t5.r2.z)&&true))))))))) (sl (t6==(W ((W (x.d*x.d))*x.d))) (some (b (t2.2==x.d),[])) (some (b false,[]))) (some (b false,[]))) none)) none)))
def W8(x:Trn):Bool:=J0 (one r1B) (ob5 x)
def W9(x:Trn):Bool:=okO (one r1B) (ob5 x)
def ob6:Sum:=K2 (w9 tT) (λx=>.guard (W9 x) (.ret ((one r1B).enc (W8 x),[])))
theorem Kb3:g8 prog GI 17 ob6:=ta0 (bdI b17 Dc7) (one r1B) (o:=ob5) λx=>n9 (by kernel_rfl)
def Lc1:List (Nat×Sum):=[(68,Wb4),(17,ob6)]
theorem Dc8:j5 prog GI Lc1:=⟨Dc6,Kb3,trivial⟩
def Ca9(x:Frm):Option (c7×List c8):=let t1:=(Qa4 x.s);let t2:=(W8 x.t);(sl (Qa5 x.s) (sl t1 (sl (W9 x.t) (some (b t2,[])) none) (some (b false,[]))) none)
def X0(x:Frm):Bool:=J0 (one r1B) (Ca9 x)
def X1(x:Frm):Bool:=okO (one r1B) (Ca9 x)
def ra3:Sum:=K2 (w9 tF) (λx=>.guard (X1 x) (.ret ((one r1B).enc (X0 x),[])))
theorem ua8:g8 prog GI 29 ra3:=ta0 (bdI b29 Dc8) (one r1B) (o:=Ca9) λx=>n9 (by kernel_rfl)
def Lc2:List (Nat×Sum):=[(29,ra3),(30,jc5),(32,ga3),(31,Ca4),(33,wb3)]
theorem Dc9:j5 prog GI Lc2:=⟨ua8,Kc9,ia1,Ha0,Jb9,trivial⟩
def Da0(x:Frm)(y:V3):Option (c7×List c8):=let t1:=(X0 x);let t2:=(ab8 y);let t3:=(Q7 x.t.m y);let t4:=(ga5 t3 x.t.d);let t5:=(Ja7 t4.1 x.s);let t6:=(ab8 t5);(sl (X1 x) (sl (!t1) (some (.tup [.agg [i 0,i 0,i 0],b false],[])) (sl (!t2) (some (.tup [.agg [i 0,i 0,i 0],b false],[])) (sl (ga6 t3 x.t.d) (sl (!t4.2) (some (.tup [.agg [i 0,i 0,i 0],b false],[])) (sl (!t6) (some (.tup [.agg [i 0,i 0,i 0],b false],[])) (some (.tup [.agg [i t5.x,i t5.y,i t5.z],b true],[])))) none))) none)
def E3(x:Frm)(y:V3):V3×Bool:=J0 (two r1V r1B) (Da0 x y)
def y9(x:Frm)(y:V3):Bool:=okO (two r1V r1B) (Da0 x y)
def Qa8:Sum:=Y2 (w9 tF) (w9 tV) (λx y=>.guard (y9 x y) (.ret ((two r1V r1B).enc (E3 x y),[])))
theorem eb9:g8 prog GI 8 Qa8:=Xa3 (bdI b8 Dc9) (two r1V r1B) (o:=Da0) λx y=>n9 (by kernel_rfl)
def Lc3:List (Nat×Sum):=[(29,ra3),(40,zb0),(32,ga3),(41,Jb2),(10,ga7)]
theorem Ec0:j5 prog GI Lc3:=⟨ua8,gc2,ia1,qc0,Kb0,trivial⟩
def Da1(x:Frm)(y:Pln):Option (c7×List c8):=let t1:=(X0 x);let t2:=(Ca6 y);let t3:=(Q7 x.t.m y.n);let t4:=(ka2 t3);let t5:=(r7 t4.1 x.s);let t6:=(Ca6 (⟨t4.1,W ((W (Int.tdiv (W (x.t.d*y.b)) t4.2))+t5)⟩:Pln));(sl (X1 x) (sl (!t1) (some (.tup [.agg [i 0,i 0,i 0,i 0],b false],[])) (sl (!t2) (some (.tup [.agg [i 0,i 0,i 0,i 0],b false],[])) (sl (ua6 t3) (sl (t4.2==0) (some (.tup [.agg [i 0,i 0,i 0,i 0],b false],[])) (sl (t4.2==0) none (sl ((Int.tmod (W (x.t.d*y.b)) t4.2) != 0) (some (.tup [.agg [i 0,i 0,i 0,i 0],b false],[])) (sl (t4.2==0) none (sl (!t6) (some (.tup [.agg [i 0,i 0,i 0,i 0],b false],[])) (some (.tup [.agg [i t4.1.x,i t4.1.y,i t4.1.z,i (W ((W (Int.tdiv (W (x.t.d*y.b)) t4.2))+t5))],b true],[]))))))) none))) none)
def R5(x:Frm)(y:Pln):Pln×Bool:=J0 (two r1P r1B) (Da1 x y)
def L3(x:Frm)(y:Pln):Bool:=okO (two r1P r1B) (Da1 x y)
def Qa9:Sum:=Y2 (w9 tF) (w9 tP) (λx y=>.guard (L3 x y) (.ret ((two r1P r1B).enc (R5 x y),[])))
theorem fb0:g8 prog GI 12 Qa9:=Xa3 (bdI b12 Ec0) (two r1P r1B) (o:=Da1) λx y=>n9 (by kernel_rfl)
def Ec1:List (Nat×Sum):=[(29,ra3)]
theorem qc2:j5 prog GI Ec1:=⟨ua8,trivial⟩
def fb1(x:M3)(y:Int)(z:V3):Option (c7×List c8):=let t1:=(X0 (⟨(⟨x,y⟩:Trn),z⟩:Frm));(sl (X1 (⟨(⟨x,y⟩:Trn),z⟩:Frm)) (sl (!t1) (some (.tup [.agg [i 0,i 0,i 0,i 0,i 0,i 0,i 0,i 0,i 0,i 0,i 0,i 0,i 0],b false],[])) (some (.tup [.agg [i x.r0.x,i x.r0.y,i x.r0.z,i x.r1.x,i x.r1.y,i x.r1.z,i x.r2.x,i x.r2.y,i x.r2.z,i y,i z.x,i z.y,i z.z],b true],[]))) none)
def fb2(x:M3)(y:Int)(z:V3):Frm×Bool:=J0 (two r1F r1B) (fb1 x y z)
def fb3(x:M3)(y:Int)(z:V3):Bool:=okO (two r1F r1B) (fb1 x y z)
def fb4:Sum:=Sb5 (w9 tN) cI (w9 tV) (λx y z=>.guard (fb3 x y z) (.ret ((two r1F r1B).enc (fb2 x y z),[])))
theorem zb9:g8 prog GI 54 fb4:=Qd7 (bdI b54 qc2) (two r1F r1B) (o:=fb1) λx y z=>n9 (by kernel_rfl)
def bd2:List (Nat×Sum):=[(29,ra3),(50,pa0),(32,ga3),(31,Ca4),(9,xa8),(54,fb4)]
theorem Lc4:j5 prog GI bd2:=⟨ua8,Ca8,ia1,Ha0,Kb1,zb9,trivial⟩
def Ab0(x:Frm):Option (c7×List c8):=let t1:=(X0 x);let t2:=(oa9 x.t.m);let t3:=(Q7 t2 x.s);let t4:=(ga5 t3 x.t.d);let t5:=(O5 (⟨0,0,0⟩:V3) t4.1);let t6:=(fb2 t2 x.t.d t5);(sl (X1 x) (sl (!t1) (some (.tup [.agg [i 0,i 0,i 0,i 0,i 0,i 0,i 0,i 0,i 0,i 0,i 0,i 0,i 0],b false],[])) (sl (ga6 t3 x.t.d) (sl (!t4.2) (some (.tup [.agg [i 0,i 0,i 0,i 0,i 0,i 0,i 0,i 0,i 0,i 0,i 0,i 0,i 0],b false],[])) (sl (fb3 t2 x.t.d t5) (some (.tup [.agg [i t6.1.t.m.r0.x,i t6.1.t.m.r0.y,i t6.1.t.m.r0.z,i t6.1.t.m.r1.x,i t6.1.t.m.r1.y,i t6.1.t.m.r1.z,i t6.1.t.m.r2.x,i t6.1.t.m.r2.y,i t6.1.t.m.r2.z,i t6.1.t.d,i t6.1.s.x,i t6.1.s.y,i t6.1.s.z],b t6.2],[])) none)) none)) none)
def kc5(x:Frm):Frm×Bool:=J0 (two r1F r1B) (Ab0 x)
def H5(x:Frm):Bool:=okO (two r1F r1B) (Ab0 x)
def kc6:Sum:=K2 (w9 tF) (λx=>.guard (H5 x) (.ret ((two r1F r1B).enc (kc5 x),[])))
theorem bd3:g8 prog GI 21 kc6:=ta0 (bdI b21 Lc4) (two r1F r1B) (o:=Ab0) λx=>n9 (by kernel_rfl)
def Lc5:List (Nat×Sum):=[(29,ra3),(32,ga3),(31,Ca4),(49,sa1),(48,ia0),(33,wb3),(54,fb4)]
theorem Ec2:j5 prog GI Lc5:=⟨ua8,ia1,Ha0,Ea0,ua7,Jb9,zb9,trivial⟩
def ob7(x:Frm)(y:Frm):Option (c7×List c8):=let t1:=(X0 x);let t2:=(X0 y);let t3:=(Q7 y.t.m x.s);let t4:=(ga5 t3 y.t.d);let t5:=(sa0 y.t.m x.t.m);let t6:=(B5 t5 (W (x.t.d*y.t.d)));let t7:=(Ja7 t4.1 y.s);let t8:=(fb2 t6.1 t6.2 t7);(sl (X1 x) (sl (!t1) (some (.tup [.agg [i 0,i 0,i 0,i 0,i 0,i 0,i 0,i 0,i 0,i 0,i 0,i 0,i 0],b false],[])) (sl (X1 y) (sl (!t2) (some (.tup [.agg [i 0,i 0,i 0,i 0,i 0,i 0,i 0,i 0,i 0,i 0,i 0,i 0,i 0],b false],[])) (sl (ga6 t3 y.t.d) (sl (!t4.2) (some (.tup [.agg [i 0,i 0,i 0,i 0,i 0,i 0,i 0,i 0,i 0,i 0,i 0,i 0,i 0],b false],[])) (sl (O1 t5 (W (x.t.d*y.t.d))) (sl (fb3 t6.1 t6.2 t7) (some (.tup [.agg [i t8.1.t.m.r0.x,i t8.1.t.m.r0.y,i t8.1.t.m.r0.z,i t8.1.t.m.r1.x,i t8.1.t.m.r1.y,i t8.1.t.m.r1.z,i t8.1.t.m.r2.x,i t8.1.t.m.r2.y,i t8.1.t.m.r2.z,i t8.1.t.d,i t8.1.s.x,i t8.1.s.y,i t8.1.s.z],b t8.2],[])) none) none)) none)) none)) none)
def Xb8(x:Frm)(y:Frm):Frm×Bool:=J0 (two r1F r1B) (ob7 x y)
def B6(x:Frm)(y:Frm):Bool:=okO (two r1F r1B) (ob7 x y)
def Xb9:Sum:=Y2 (w9 tF) (w9 tF) (λx y=>.guard (B6 x y) (.ret ((two r1F r1B).enc (Xb8 x y),[])))
theorem Lc6:g8 prog GI 22 Xb9:=Xa3 (bdI b22 Ec2) (two r1F r1B) (o:=ob7) λx y=>n9 (by kernel_rfl)
def Lc7:List (Nat×Sum):=[(8,Qa8)]
theorem Ec3:j5 prog GI Lc7:=⟨eb9,trivial⟩
def ob8(x:Frm)(y:V3)(z:V3):Option (c7×List c8):=let t1:=(E3 x y);(sl (y9 x y) (sl t1.2 (some (b ((t1.1.x==z.x)&&((t1.1.y==z.y)&&((t1.1.z==z.z)&&true))),[])) (some (b false,[]))) none)
def ob9(x:Frm)(y:V3)(z:V3):Bool:=J0 (one r1B) (ob8 x y z)
def Da2(x:Frm)(y:V3)(z:V3):Bool:=okO (one r1B) (ob8 x y z)
def Yb0:Sum:=Sb5 (w9 tF) (w9 tV) (w9 tV) (λx y z=>.guard (Da2 x y z) (.ret ((one r1B).enc (ob9 x y z),[])))
theorem Lc8:g8 prog GI 19 Yb0:=Qd7 (bdI b19 Ec3) (one r1B) (o:=ob8) λx y z=>n9 (by kernel_rfl)
def Ec4:List (Nat×Sum):=[(12,Qa9)]
theorem qc3:j5 prog GI Ec4:=⟨fb0,trivial⟩
def fb5(x:Frm)(y:Pln)(z:Pln):Option (c7×List c8):=let t1:=(R5 x y);(sl (L3 x y) (sl t1.2 (some (b ((t1.1.n.x==z.n.x)&&((t1.1.n.y==z.n.y)&&((t1.1.n.z==z.n.z)&&((t1.1.b==z.b)&&true)))),[])) (some (b false,[]))) none)
def ka4(x:Frm)(y:Pln)(z:Pln):Bool:=J0 (one r1B) (fb5 x y z)
def r9(x:Frm)(y:Pln)(z:Pln):Bool:=okO (one r1B) (fb5 x y z)
def Kb4:Sum:=Sb5 (w9 tF) (w9 tP) (w9 tP) (λx y z=>.guard (r9 x y z) (.ret ((one r1B).enc (ka4 x y z),[])))
theorem Ec5:g8 prog GI 20 Kb4:=Qd7 (bdI b20 qc3) (one r1B) (o:=fb5) λx y z=>n9 (by kernel_rfl)
def qc4:List (Nat×Sum):=[(7,zb8),(16,Jb8),(17,ob6),(18,Dc2),(8,Qa8),(19,Yb0),(12,Qa9),(20,Kb4),(21,kc6),(22,Xb9)]
theorem gc3:j5 prog GI qc4:=⟨Kb2,qc1,Kb3,bd1,eb9,Lc8,fb0,Ec5,bd3,Lc6,trivial⟩
def Da3  : Option (c7×List c8):=let t1:=(q9 1 2 3);let t2:=(ka3 (⟨(⟨0,-1,0⟩:V3),(⟨1,0,0⟩:V3),(⟨0,0,1⟩:V3)⟩:M3) 1 t1);let t3:=(ka3 (⟨(⟨3,-4,0⟩:V3),(⟨4,3,0⟩:V3),(⟨0,0,5⟩:V3)⟩:M3) 5 (⟨0,0,0⟩:V3));let t4:=(W8 t3.t);let t5:=(W8 (⟨(⟨(⟨0,-1,0⟩:V3),(⟨1,0,0⟩:V3),(⟨0,0,1⟩:V3)⟩:M3),2⟩:Trn));let t6:=(W8 (⟨(⟨(⟨0,-2,0⟩:V3),(⟨2,0,0⟩:V3),(⟨0,0,2⟩:V3)⟩:M3),2⟩:Trn));let t7:=(W8 (⟨(⟨(⟨0,0,0⟩:V3),(⟨0,0,0⟩:V3),(⟨0,0,0⟩:V3)⟩:M3),0⟩:Trn));let t8:=Dc1;let t9:=(ka3 (⟨(⟨0,-1,0⟩:V3),(⟨1,0,0⟩:V3),(⟨0,0,1⟩:V3)⟩:M3) 1 (⟨0,0,0⟩:V3));let t10:=(q9 25 0 0);let t11:=(E3 t9 t10);let t12:=(q9 5 9 2);let t13:=(E3 t3 t12);let t14:=(q9 4 5 6);let t15:=(q9 (-4) 6 9);let t16:=(ob9 t2 t14 t15);let t17:=(q9 5 10 2);let t18:=(q9 (-5) 10 2);let t19:=(ob9 t3 t17 t18);let t20:=(q9 3 (-4) 0);let t21:=(R5 t3 (⟨t20,1⟩:Pln));let t22:=(q9 1 0 0);let t23:=(q9 0 1 0);let t24:=(ka4 t2 (⟨t22,4⟩:Pln) (⟨t23,6⟩:Pln));let t25:=(q9 3 4 0);let t26:=(ka4 t3 (⟨t22,4⟩:Pln) (⟨t25,20⟩:Pln));let t27:=(q9 1 2 0);let t28:=(q9 (-1) 2 0);let t29:=(ka4 t3 (⟨t27,1⟩:Pln) (⟨t28,1⟩:Pln));let t30:=(q9 2 0 1);let t31:=(q9 6 8 5);let t32:=(ka4 t3 (⟨t30,3⟩:Pln) (⟨t31,15⟩:Pln));let t33:=(ka4 t3 (⟨t20,5⟩:Pln) (⟨t22,1⟩:Pln));let t34:=(kc5 t2);let t35:=(Xb8 t3 t3);let t36:=(q9 (-2) 1 (-3));let t37:=(ka3 (⟨(⟨0,1,0⟩:V3),(⟨-1,0,0⟩:V3),(⟨0,0,1⟩:V3)⟩:M3) 1 t36);let t38:=(ka3 (⟨(⟨-7,-24,0⟩:V3),(⟨24,-7,0⟩:V3),(⟨0,0,25⟩:V3)⟩:M3) 25 (⟨0,0,0⟩:V3));let a0:=(((gL tT t8 0).m.r0.x==(-1))&&(((gL tT t8 0).m.r0.y==0)&&(((gL tT t8 0).m.r0.z==0)&&(((gL tT t8 0).m.r1.x==0)&&(((gL tT t8 0).m.r1.y==(-1))&&(((gL tT t8 0).m.r1.z==0)&&(((gL tT t8 0).m.r2.x==0)&&(((gL tT t8 0).m.r2.y==0)&&(((gL tT t8 0).m.r2.z==1)&&(((gL tT t8 0).d==1)&&true))))))))));let a1:=((↑(List.length t8):Int)==24);let w0:Option (c7×List c8):=(sl (L3 t3 (⟨t20,1⟩:Pln)) (sl (r9 t2 (⟨t22,4⟩:Pln) (⟨t23,6⟩:Pln)) (sl t24 (sl (r9 t3 (⟨t22,4⟩:Pln) (⟨t25,20⟩:Pln)) (sl t26 (sl (r9 t3 (⟨t27,1⟩:Pln) (⟨t28,1⟩:Pln)) (sl t29 (sl (r9 t3 (⟨t30,3⟩:Pln) (⟨t31,15⟩:Pln)) (sl t32 (sl (r9 t3 (⟨t20,5⟩:Pln) (⟨t22,1⟩:Pln)) (sl t33 (sl (H5 t2) (sl (B6 t3 t3) (some (b false,[])) none) none) (sl (H5 t2) (sl (B6 t3 t3) (some (b false,[])) none) none)) none) (sl (H5 t2) (sl (B6 t3 t3) (some (b false,[])) none) none)) none) (sl (H5 t2) (sl (B6 t3 t3) (some (b false,[])) none) none)) none) (sl (H5 t2) (sl (B6 t3 t3) (some (b false,[])) none) none)) none) (sl (H5 t2) (sl (B6 t3 t3) (some (b false,[])) none) none)) none) none);let w1:Option (c7×List c8):=(sl (L3 t3 (⟨t20,1⟩:Pln)) (sl (r9 t2 (⟨t22,4⟩:Pln) (⟨t23,6⟩:Pln)) (sl t24 (sl (r9 t3 (⟨t22,4⟩:Pln) (⟨t25,20⟩:Pln)) (sl t26 (sl (r9 t3 (⟨t27,1⟩:Pln) (⟨t28,1⟩:Pln)) (sl t29 (sl (r9 t3 (⟨t30,3⟩:Pln) (⟨t31,15⟩:Pln)) (sl t32 (sl (r9 t3 (⟨t20,5⟩:Pln) (⟨t22,1⟩:Pln)) (sl t33 (sl (H5 t2) (sl (B6 t3 t3) (sl (!t7) (some (b false,[])) (some (b false,[]))) none) none) (sl (H5 t2) (sl (B6 t3 t3) (sl (!t7) (some (b false,[])) (some (b false,[]))) none) none)) none) (sl (H5 t2) (sl (B6 t3 t3) (sl (!t7) (some (b false,[])) (some (b false,[]))) none) none)) none) (sl (H5 t2) (sl (B6 t3 t3) (sl (!t7) (some (b false,[])) (some (b false,[]))) none) none)) none) (sl (H5 t2) (sl (B6 t3 t3) (sl (!t7) (some (b false,[])) (some (b false,[]))) none) none)) none) (sl (H5 t2) (sl (B6 t3 t3) (sl (!t7) (some (b false,[])) (some (b false,[]))) none) none)) none) none);let w2:Option (c7×List c8):=(sl (H5 t2) (sl (B6 t3 t3) (sl (!t7) (sl (!t13.2) (some (b false,[])) (some (b false,[]))) (some (b false,[]))) none) none);let w3:Option (c7×List c8):=(sl Ob9 (sl (y9 t9 t10) (sl (y9 t3 t12) (sl a1 (sl (inB 0 (List.length t8)) (sl a0 (sl (Da2 t2 t14 t15) (sl t16 (sl (!t11.2) (sl (Da2 t3 t17 t18) (sl t19 w0 w0) none) w0) w0) none) w0) none) w0) none) none) none);(sl (W9 t3.t) (sl t4 (sl (W9 (⟨(⟨(⟨0,-1,0⟩:V3),(⟨1,0,0⟩:V3),(⟨0,0,1⟩:V3)⟩:M3),2⟩:Trn)) (sl (!t5) (sl (W9 (⟨(⟨(⟨0,-2,0⟩:V3),(⟨2,0,0⟩:V3),(⟨0,0,2⟩:V3)⟩:M3),2⟩:Trn)) (sl (!t6) (sl (W9 (⟨(⟨(⟨0,0,0⟩:V3),(⟨0,0,0⟩:V3),(⟨0,0,0⟩:V3)⟩:M3),0⟩:Trn)) (sl Ob9 (sl (y9 t9 t10) (sl (y9 t3 t12) (sl a1 (sl (inB 0 (List.length t8)) (sl a0 (sl (Da2 t2 t14 t15) (sl t16 (sl (!t11.2) (sl (Da2 t3 t17 t18) (sl t19 (sl (L3 t3 (⟨t20,1⟩:Pln)) (sl (r9 t2 (⟨t22,4⟩:Pln) (⟨t23,6⟩:Pln)) (sl t24 (sl (r9 t3 (⟨t22,4⟩:Pln) (⟨t25,20⟩:Pln)) (sl t26 (sl (r9 t3 (⟨t27,1⟩:Pln) (⟨t28,1⟩:Pln)) (sl t29 (sl (r9 t3 (⟨t30,3⟩:Pln) (⟨t31,15⟩:Pln)) (sl t32 (sl (r9 t3 (⟨t20,5⟩:Pln) (⟨t22,1⟩:Pln)) (sl t33 (sl (H5 t2) (sl (B6 t3 t3) (sl (!t7) (sl (!t13.2) (sl (!t21.2) (sl t34.2 (sl ((t34.1.t.m.r0.x==t37.t.m.r0.x)&&((t34.1.t.m.r0.y==t37.t.m.r0.y)&&((t34.1.t.m.r0.z==t37.t.m.r0.z)&&((t34.1.t.m.r1.x==t37.t.m.r1.x)&&((t34.1.t.m.r1.y==t37.t.m.r1.y)&&((t34.1.t.m.r1.z==t37.t.m.r1.z)&&((t34.1.t.m.r2.x==t37.t.m.r2.x)&&((t34.1.t.m.r2.y==t37.t.m.r2.y)&&((t34.1.t.m.r2.z==t37.t.m.r2.z)&&((t34.1.t.d==t37.t.d)&&((t34.1.s.x==t37.s.x)&&((t34.1.s.y==t37.s.y)&&((t34.1.s.z==t37.s.z)&&true))))))))))))) (sl t35.2 (some (b ((t35.1.t.m.r0.x==t38.t.m.r0.x)&&((t35.1.t.m.r0.y==t38.t.m.r0.y)&&((t35.1.t.m.r0.z==t38.t.m.r0.z)&&((t35.1.t.m.r1.x==t38.t.m.r1.x)&&((t35.1.t.m.r1.y==t38.t.m.r1.y)&&((t35.1.t.m.r1.z==t38.t.m.r1.z)&&((t35.1.t.m.r2.x==t38.t.m.r2.x)&&((t35.1.t.m.r2.y==t38.t.m.r2.y)&&((t35.1.t.m.r2.z==t38.t.m.r2.z)&&((t35.1.t.d==t38.t.d)&&((t35.1.s.x==t38.s.x)&&((t35.1.s.y==t38.s.y)&&((t35.1.s.z==t38.s.z)&&true))))))))))))),[])) (some (b false,[]))) (some (b false,[]))) (some (b false,[]))) (some (b false,[]))) (some (b false,[]))) (some (b false,[]))) none) none) w2) none) w2) none) w2) none) w2) none) w2) none) none) w1) none) w1) w1) none) w1) none) w1) none) none) none) none) w3) none) w3) none) w3) none)
def Da4  : Bool:=J0 (one r1B) Da3
def Da5  : Bool:=okO (one r1B) Da3
def Ab1:Sum:=Wc5  (.guard Da5 (.ret ((one r1B).enc Da4,[])))
theorem qc5:g8 prog GI 4 Ab1:=oe0 (bdI b4 gc3) (one r1B) (o:=Da3) (n9 (by kernel_rfl))
def re7(t:Trn):Bool :=
 decide (1<=t.d)&&(decide (t.d<=25)&&(smb 25 t.m.r0.x&&(smb 25 t.m.r0.y&&(smb 25 t.m.r0.z&&(smb 25 t.m.r1.x&&(smb 25 t.m.r1.y&&(smb 25 t.m.r1.z&&(smb 25 t.m.r2.x&&(smb 25 t.m.r2.y&&(smb 25 t.m.r2.z
 && (decide (dot t.m.r0 t.m.r0=t.d*t.d)&&(decide (dot t.m.r1 t.m.r1=t.d*t.d)&&(decide (dot t.m.r2 t.m.r2=t.d*t.d)&&(decide (dot t.m.r0 t.m.r1=0)&&(decide (dot t.m.r0 t.m.r2=0)&&(decide (dot t.m.r1 t.m.r2=0)&&decide (0<dot t.m.r0 (d7 t.m.r1 t.m.r2))))))))))))))))))
structure OkT(t:Trn):Prop where
 d1:1<=t.d
 d25:t.d<=25
 b0:Sm 25 t.m.r0.x/\Sm 25 t.m.r0.y/\Sm 25 t.m.r0.z
 b1:Sm 25 t.m.r1.x/\Sm 25 t.m.r1.y/\Sm 25 t.m.r1.z
 b2:Sm 25 t.m.r2.x/\Sm 25 t.m.r2.y/\Sm 25 t.m.r2.z
 h00:dot t.m.r0 t.m.r0=t.d*t.d
 h11:dot t.m.r1 t.m.r1=t.d*t.d
 h22:dot t.m.r2 t.m.r2=t.d*t.d
 h01:dot t.m.r0 t.m.r1=0
 h02:dot t.m.r0 t.m.r2=0
 h12:dot t.m.r1 t.m.r2=0
 det:0<dot t.m.r0 (d7 t.m.r1 t.m.r2)
 pv:W8 t=true
 gv:W9 t=true
theorem re8{t:Trn}(h:re7 t=true)(hp:W8 t=true)(hg:W9 t=true):OkT t:=by
 simp only[re7,Qjl,decide_eq_true_eq,ab6] at h;obtain⟨a1,a2,a3,a4,a5,a6,a7,a8,a9,a10,a11,a12,a13,a14,a15,a16,a17,a18⟩:=h;exact⟨a1,a2,⟨a3,a4,a5⟩,⟨a6,a7,a8⟩,⟨a9,a10,a11⟩,a12,a13,a14,a15,a16,a17,a18,hp,hg⟩
def frT(a:Int)(k:Nat):Frm×Bool:=zb6 ⟨Ja2 a,⟨0,0,0⟩⟩ ⟨gL tT jb8 k,⟨0,0,0⟩⟩
def frG(a:Int)(k:Nat):Bool:=zb7 ⟨Ja2 a,⟨0,0,0⟩⟩ ⟨gL tT jb8 k,⟨0,0,0⟩⟩&&eb8 a
def re9(a k:Nat):Bool:=frG a k&&(re7 (frT a k).1.t&&(W8 (frT a k).1.t&&W9 (frT a k).1.t))
theorem se0:((List.range 8).all λa=>(List.range 24).all λk=>re9 a k)=true:=by kernel_rfl
theorem ze7:List.length jb8=24:=by kernel_rfl
theorem ze8:gc1=true:=by kernel_rfl
structure bd4(f:Frm):Prop where
 t:OkT f.t
 s:Sm 4 f.s.x/\Sm 4 f.s.y/\Sm 4 f.s.z
theorem Rc2(x:List Int):Rd (one r1F) (Ca7 x) bd4:=by
 obtain⟨v,j,e1,a1,b1,c1,d1⟩:=Ca5 8 x 0 (by omega) (by omega) (by omega) (by omega)
 obtain⟨w,j2,e2,a2,b2,c2,d2⟩:=Ca5 24 x j (by omega) (by omega) (by omega) (by omega)
 obtain⟨sx,sy,sz,j3,e3,a3,b3,c3,_⟩:=re0 4 x j2 (by omega) (by omega) (by omega) (by omega)
 obtain⟨m,rfl⟩:=Qjay a1;obtain⟨k,rfl⟩:=Qjay a2;have hc:re9 m k=true:=by
  have h:=Qja.1 se0 m (Qjj.2 (by omega))
  exact Qja.1 h k (Qjj.2 (by omega))
 have hc':=hc;unfold re9 frG frT at hc';simp only[Qjl] at hc';obtain⟨⟨g1,g2⟩,ct,pv,gv⟩:=hc';have hin:inB (k:Int) 24=true:=j9 (by omega)
 unfold Ca7;simp only[w5,o9,e1,e2,e3,ze8,ze7,Int.toNat_natCast,g1,g2,hin,Qjw,Qjt,r5];exact⟨_,⟨(frT m k).1.t,⟨sx,sy,sz⟩⟩,rfl,rfl,re8 ct pv gv,a3,b3,c3⟩
theorem Wd8(x:List Int):bd4 (Qa7 x):=(Rc2 x).p
theorem Wd9(x:List Int):ob2 x=true:=(Rc2 x).g
def Yb1(l:List Pln)(p:Pln):Bool:=l.any λq=>eqP q p
theorem nd5(l:List Pln)(p:Pln):Yb1 l p=true↔p∈l:=by
 unfold Yb1;rw[Qjb];exact⟨λ⟨q,h,e⟩=>by rw[Wb9] at e;exact e ▸ h,λh=>⟨p,h,(Wb9 p p).2 rfl⟩⟩
def ipt(v:V3):Pt:=⟨v.x,v.y,v.z,1⟩
theorem se1{v:V3}(h:inV v=true):∀p∈ws,0<=rmZ p (ipt v):=by
 obtain⟨⟨a1,a2⟩,⟨a3,a4⟩,a5,a6⟩:=(la9 v).1 h;intro p hp;simp only[ws,Qjx,List.not_mem_nil,or_false] at hp
 rcases hp with rfl|rfl|rfl|rfl|rfl|rfl<;>simp only[rmZ,ipt]<;>omega
def nd6 (l:List V3) (a c:Nat) (out:List Pln) (k:Nat):List Pln :=
  if (I0 (gL tV l a) (gL tV l c) (gL tV l k)).2 then
    (if hold (pa3 (I0 (gL tV l a) (gL tV l c) (gL tV l k)).1) l then Zc5 (if hold (I0 (gL tV l a) (gL tV l c) (gL tV l k)).1 l then Zc5 out (I0 (gL tV l a) (gL tV l c) (gL tV l k)).1 else out) (pa3 (I0 (gL tV l a) (gL tV l c) (gL tV l k)).1)
     else (if hold (I0 (gL tV l a) (gL tV l c) (gL tV l k)).1 l then Zc5 out (I0 (gL tV l a) (gL tV l c) (gL tV l k)).1 else out))
  else out
def F2(l:List V3)(a:Nat)(out:List Pln)(c:Nat):List Pln:=(List.range c).foldl (nd6 l a c) out
def F1(l:List V3)(out:List Pln)(a:Nat):List Pln:=(List.range a).foldl (F2 l a) out
def F0(l:List V3):List Pln:=(List.range l.length).foldl (F1 l) []
theorem I7 {τ:Type} (f:τ→Nat→τ) (a:τ) (n:Nat):(List.range (n+1)).foldl f a=f ((List.range n).foldl f a) n:=by
  rw[List.range_succ,List.foldl_append];rfl
theorem Ec6 {f:List Pln→Nat→List Pln} {m:Nat} (h:∀ o k,(f o k).length≤o.length+m) (o:List Pln):∀ n,((List.range n).foldl f o).length≤o.length+m*n
  |0=>Qjn _
  | n+1=>by
    rw[I7];have h1:=h ((List.range n).foldl f o) n;have h2:=Ec6 h o n;rw[Nat.mul_succ];omega
theorem bd5{p:Pln}(h:okp p=true):g3 p.n=1:=by
 unfold okp at h;simp only[Qjl,beq_iff_eq] at h;exact h.2.1
theorem Kb5{p:Pln}(h:okp p=true):p.n≠⟨0,0,0⟩:=λe=>by
 have:=bd5 h
 rw[e] at this
 revert this
 decide
theorem yd1(c:Int)(n:V3):g3 ⟨c*n.x,c*n.y,c*n.z⟩=c.natAbs*g3 n:=by
 unfold g3;simp only[Int.natAbs_mul,Nat.gcd_mul_left];rw[Int.natCast_mul]
theorem nd7{m n:V3}(hm:g3 m=1)(hn:g3 n=1)(h:d7 m n=⟨0,0,0⟩):n=m\/n=neg m:=by
 unfold d7 at h;simp only[V3.mk.injEq] at h;obtain⟨c1,c2,c3⟩:=h;have k:∀{c d:Int},c*m.x=d*n.x->c*m.y=d*n.y->c*m.z=d*n.z->c.natAbs=d.natAbs:=λ{c d} e1 e2 e3=>by
  have a1:=yd1 c m;have a2:=yd1 d n;rw[e1,e2,e3,a2,hm,hn] at a1;omega
 have ax:=k (c:=n.x) (d:=m.x) (by grind) (by grind) (by grind)
 have ay:=k (c:=n.y) (d:=m.y) (by grind) (by grind) (by grind)
 have az:=k (c:=n.z) (d:=m.z) (by grind) (by grind) (by grind)
 have sg:∀{a c:Int},a.natAbs=c.natAbs->a=c\/a=-c:=λh=>by omega
 -- the sign of one component that is not zero is that of all
 have go:∀{s u t v:Int},u≠0->s*v=u*t->s=u->t=v:=λ{s u t v} hu h e=>by
  subst e;exact (Qjas hu h).symm
 have gn:∀{s u t v:Int},u≠0->s*v=u*t->s=-u->t=-v:=λ{s u t v} hu h e=>by
  subst e
  have:u*t=u*(-v):=by rw[<- h];grind
  exact Qjas hu this
 by_cases hx:m.x=0
 ·have hx':n.x=0:=by omega
  by_cases hy:m.y=0
  ·have hy':n.y=0:=by omega
   rcases sg az with e|e
   ·exact .inl (Qjbd (by omega) (by omega) e)
   ·exact .inr (Qjbd (by show n.x=-m.x;omega) (by show n.y=-m.y;omega) e)
  ·rcases sg ay with e|e
   ·exact .inl (Qjbd (by omega) e (go hy (by grind) e))
   ·exact .inr (Qjbd (by show n.x=-m.x;omega) e (gn hy (by grind) e))
 ·rcases sg ax with e|e
  ·exact .inl (Qjbd e (go hx (by grind) e) (go hx (by grind) e))
  ·exact .inr (Qjbd e (gn hx (by grind) e) (gn hx (by grind) e))
structure Ke3(l:List V3):Prop where
 h:∃a c k v,a∈l/\c∈l/\k∈l/\v∈l/\dot (d7 (sub c a) (sub k a)) (sub v a)≠0
theorem gLm{l:List V3}{j:Nat}(h:j<l.length):gL tV l j∈l:=Ma5 tV h
theorem jb9{p:Pln}{l:List V3}(hp:okp p=true)(hl:l.all inV=true):hold p l=true↔∀v∈l,dot p.n v<=p.b:=by
 unfold hold;rw[Bool.not_eq_true',<- Qjad,Qjb];constructor
 ·intro h v hv;have h1:¬ ea5 p v>0:=λh'=>h ⟨v,hv,by simpa using h'⟩
  rw[md7 hp (Qja.1 hl v hv)] at h1;omega
 ·rintro h ⟨v,hv,h1⟩;have h1:ea5 p v>0:=by simpa using h1
  rw[md7 hp (Qja.1 hl v hv)] at h1
  have:=h v hv
  omega
structure Fct(l:List V3)(p:Pln):Prop where
 ok:okp p=true
 hd:hold p l=true
theorem Ab2(p:Pln)(v:V3):dot (pa3 p).n v=-dot p.n v:=by unfold dot pa3;grind
theorem Md0 (l : List V3) (a c k : Nat) (out : List Pln) (p : Pln) : p ∈ nd6 l a c out k ↔ p ∈ out ∨ ((I0 (gL tV l a) (gL tV l c) (gL tV l k)).2 = true ∧
  ((p=(I0 (gL tV l a) (gL tV l c) (gL tV l k)).1/\hold p l=true)\/(p=pa3 (I0 (gL tV l a) (gL tV l c) (gL tV l k)).1/\hold p l=true))):=by
 unfold nd6;generalize I0 (gL tV l a) (gL tV l c) (gL tV l k)=T;cases h2:T.2 with
 |false=>simp
 |true =>
  simp only[if_true];cases h4:hold (pa3 T.1) l with
  |false =>
   simp only[Qji,if_false];cases h3:hold T.1 l with
   |false =>
    simp only[Qji,if_false];constructor
    ·exact λh=>.inl h
    ·rintro (h|⟨_,⟨rfl,h⟩|⟨rfl,h⟩⟩)
     ·exact h
     ·rw[h3] at h;cases h
     ·rw[h4] at h;cases h
   |true =>
    simp only[if_true,yb8];constructor
    ·rintro (rfl|h)
     ·exact .inr ⟨trivial,.inl ⟨rfl,h3⟩⟩
     ·exact .inl h
    ·rintro (h|⟨_,⟨rfl,h⟩|⟨rfl,h⟩⟩)
     ·exact .inr h
     ·exact .inl rfl
     ·rw[h4] at h;cases h
  |true =>
   simp only[if_true,yb8];cases h3:hold T.1 l with
   |false =>
    simp only[Qji,if_false];constructor
    ·rintro (rfl|h)
     ·exact .inr ⟨trivial,.inr ⟨rfl,h4⟩⟩
     ·exact .inl h
    ·rintro (h|⟨_,⟨rfl,h⟩|⟨rfl,h⟩⟩)
     ·exact .inr h
     ·rw[h3] at h;cases h
     ·exact .inl rfl
   |true =>
    simp only[if_true,yb8];constructor
    ·rintro (rfl|rfl|h)
     ·exact .inr ⟨trivial,.inr ⟨rfl,h4⟩⟩
     ·exact .inr ⟨trivial,.inl ⟨rfl,h3⟩⟩
     ·exact .inl h
    ·rintro (h|⟨_,⟨rfl,h⟩|⟨rfl,h⟩⟩)
     ·exact .inr (.inr h)
     ·exact .inr (.inl rfl)
     ·exact .inl rfl
theorem Xa1{f:List Pln->Nat->List Pln}{Q:Nat->Pln->Prop}(h:∀o k p,p∈f o k↔p∈o\/Q k p)(o:List Pln)(p:Pln):∀n,p∈(List.range n).foldl f o↔p∈o\/∃k,k<n/\Q k p
 |0=>by simp
 |n+1=>by
  rw[I7,h,Xa1 h o p n];constructor
  ·rintro ((h|⟨k,hk,h⟩)|h)
   ·exact .inl h
   ·exact .inr ⟨k,by omega,h⟩
   ·exact .inr ⟨n,by omega,h⟩
  ·rintro (h|⟨k,hk,h⟩)
   ·exact .inl (.inl h)
   ·by_cases e:k=n
    ·subst e;exact .inr h
    ·exact .inl (.inr ⟨k,by omega,h⟩)
def Fq (l : List V3) (a c k : Nat) (p : Pln) : Prop := (I0 (gL tV l a) (gL tV l c) (gL tV l k)).2 = true ∧
  ((p=(I0 (gL tV l a) (gL tV l c) (gL tV l k)).1/\hold p l=true)\/(p=pa3 (I0 (gL tV l a) (gL tV l c) (gL tV l k)).1/\hold p l=true))
theorem se2(l:List V3)(a c:Nat)(out:List Pln)(p:Pln):p∈F2 l a out c↔p∈out\/∃k,k<c/\Fq l a c k p:=Xa1 (λo k p=>Md0 l a c k o p) out p c
theorem se3(l:List V3)(a:Nat)(out:List Pln)(p:Pln):p∈F1 l out a↔p∈out\/∃c,c<a/\∃k,k<c/\Fq l a c k p:=Xa1 (λo c p=>se2 l a c o p) out p a
theorem yd2(l:List V3)(p:Pln):p∈F0 l↔∃a,a<l.length/\∃c,c<a/\∃k,k<c/\Fq l a c k p:=by
 have:=Xa1 (λo a p=>se3 l a o p) [] p l.length
 simpa [F0] using this
theorem Md1{l:List V3}{a c:Nat}{out:List Pln}{k:Nat}(h:La1 out):La1 (nd6 l a c out k):=by
 unfold nd6;split
 ·split
  ·refine Xb0 _ ?_;split
   ·exact Xb0 _ h
   ·exact h
  ·split
   ·exact Xb0 _ h
   ·exact h
 ·exact h
theorem Yb2{f:List Pln->Nat->List Pln}(h:∀o k,La1 o->La1 (f o k)){o:List Pln}(ho:La1 o):∀n,La1 ((List.range n).foldl f o)
 |0=>ho
 |n+1=>by rw[I7];exact h _ _ (Yb2 h ho n)
theorem se4{l:List V3}{a c:Nat}{out:List Pln}(h:La1 out):La1 (F2 l a out c):=Yb2 (λ_ _ h=>Md1 h) h c
theorem se5{l:List V3}{a:Nat}{out:List Pln}(h:La1 out):La1 (F1 l out a):=Yb2 (λ_ _ h=>se4 h) h a
theorem yd3(l:List V3):La1 (F0 l):=Yb2 (λ_ _ h=>se5 h) .nil l.length
theorem Rc3{l:List Pln}(h:La1 l):l.Nodup:=List.Pairwise.imp (λ{x y} (h:LtP x y) (e:x=y)=>sc0 y (e ▸ h)) h
theorem Xd0{l:List V3}{p:Pln}(hp:p∈F0 l):Fct l p:=by
 obtain⟨a,ha,c,hc,k,hk,h1,⟨h2,h3⟩|⟨h2,h3⟩⟩:=(yd2 l p).1 hp
 ·exact⟨h2 ▸ (ma0 h1).2.ok,h3⟩
 ·exact⟨h2 ▸ Xb1 (ma0 h1).2.ok,h3⟩
structure ze9(c:List Pln):Prop where
 l:c.length<=47
 v:∀p∈c,okp p=true
 f:Je7 (c++ws)
theorem ze9.chk{c:List Pln}(h:ze9 c):(chk c==0)=true:=by
 rw[beq_iff_eq,md3];exact⟨by have:=h.l;omega,h.v⟩
structure Ins(r:List Pln)(x:Pt):Prop where
 w:0<x.pw
 h:∀p∈r,0<rmZ p x
theorem Ins.inr{r:List Pln}{x:Pt}(h:Ins r x):Inr r x:=⟨h.w,λp hp=>Qjaw (h.h p hp)⟩
theorem Ins.mono{r r':List Pln}{x:Pt}(h:Ins r x)(hs:∀p∈r',p∈r):Ins r' x:=⟨h.w,λp hp=>h.h p (hs p hp)⟩
theorem Inr.mono{r r':List Pln}{x:Pt}(h:Inr r x)(hs:∀p∈r',p∈r):Inr r' x:=⟨h.w,λp hp=>h.h p (hs p hp)⟩
theorem Ins.app{r r':List Pln}{x:Pt}(h:Ins r x)(h':Ins r' x):Ins (r++r') x:=⟨h.w,λp hp=>(Qjai.1 hp).elim (h.h p) (h'.h p)⟩
theorem Inr.app{r r':List Pln}{x:Pt}(h:Inr r x)(h':Inr r' x):Inr (r++r') x:=⟨h.w,λp hp=>(Qjai.1 hp).elim (h.h p) (h'.h p)⟩
theorem far{f g:Pln->Int}:∀l:List Pln,(∀p∈l,0<f p)->∃N:Int,0<=N/\∀M,N<=M->∀p∈l,0<M*f p+g p
 |[],_=>⟨0,Int.le_refl _,λ_ _ p hp=>by cases hp⟩
 |a::l,h=>by
  obtain⟨N,h0,h1⟩:=far l λp hp=>h p (Qjae _ hp)
  have ha:=h a Qjy;refine⟨max N ((g a).natAbs+1),by omega,λM hM p hp=>?_⟩
  rcases Qjx.1 hp with rfl|hp
  ·have:M*1<=M*f p:=Qjq (by omega) (by omega)
   omega
  ·exact h1 M (by omega) p hp
theorem se6:∀p∈ws,okp p=true:=Qja.1 (by decide)
theorem Yb3{n:V3}(h:n≠⟨0,0,0⟩):0<dot n n:=by
 have k:∀a:Int,0<=a*a/\(a≠0->0<a*a):=λa=>by
  rcases Int.lt_trichotomy a 0 with h|h|h
  ·have:=Qjat h h;exact⟨by omega,λ_=>this⟩
  ·subst h;exact⟨by decide,λh=>absurd rfl h⟩
  ·have:=Int.mul_pos h h;exact⟨by omega,λ_=>this⟩
 unfold dot
 have:=k n.x;have:=k n.y;have:=k n.z
 by_cases hx:n.x=0
 ·by_cases hy:n.y=0
  ·by_cases hz:n.z=0
   ·exact absurd (Qjbd hx hy hz) h
   ·have:=(k n.z).2 hz;omega
  ·have:=(k n.y).2 hy;omega
 ·have:=(k n.x).2 hx;omega
theorem xc5{c:List Pln}(h:(chk c==0)=true):∀p∈c++ws,okp p=true:=λp hp=>by
 rw[beq_iff_eq,md3] at h
 rcases Qjai.1 hp with hp|hp
 ·exact h.2 p hp
 ·exact se6 p hp
end Go.Ev.Ce
namespace Go.Ev.Ce
def o8(a b:V3):V3:=⟨a.x-b.x,a.y-b.y,a.z-b.z⟩
def N3(u w x:V3):V3:=d7 (o8 w u) (o8 x u)
def sb4:List V3->V3
 |[]=>⟨0,0,0⟩
 |v::l=>⟨v.x+(sb4 l).x,v.y+(sb4 l).y,v.z+(sb4 l).z⟩
def Yb4:List Int->Int
 |[]=>0
 |x::l=>x+Yb4 l
theorem nd8(n:V3):∀l:List V3,dot n (sb4 l)=Yb4 (l.map (dot n))
 |[]=>by simp[sb4,Yb4,dot]
 |v::l=>by
  have:=nd8 n l
  simp only[List.map_cons,Yb4,<- this];simp only[sb4,dot]
  grind
theorem nd9(m s:Int):∀l:List Int,Yb4 (l.map λa=>m*a-s)=m*Yb4 l-s*l.length
 |[]=>by simp[Yb4]
 |a::l=>by
  have:=nd9 m s l
  simp only[List.map_cons,Yb4,this,List.length_cons]
  grind
theorem kc7:∀{l:List Int},(∀a∈l,a<=0)->Yb4 l<=0
 |[],_=>by simp[Yb4]
 |a::l,h=>by
  have:=kc7 (l:=l) λx hx=>h x (Qjae _ hx)
  have:=h a Qjy
  simp only[Yb4];omega
theorem gc4:∀{l:List Int},(∀a∈l,a<=0)->Yb4 l=0->∀a∈l,a=0
 |[],_,_=>λa ha=>by cases ha
 |a::l,h,h0=>by
  have h1:=kc7 (l:=l) λx hx=>h x (Qjae _ hx)
  have h2:=h a Qjy;simp only[Yb4] at h0;intro b hb
  rcases Qjx.1 hb with rfl|hb
  ·omega
  ·exact gc4 (l:=l) (λx hx=>h x (Qjae _ hx)) (by omega) b hb
def Sol(l:List V3):Prop:=∃a c k v,a∈l/\c∈l/\k∈l/\v∈l/\dot (N3 a c k) (o8 v a)≠0
theorem Sol.off{l:List V3}(h:Sol l){n:V3}(hn:n≠⟨0,0,0⟩)(b:Int):∃v∈l,dot n v≠b:=by
 obtain⟨a,c,k,v,ha,hc,hk,hv,hd⟩:=h;by_cases h1:dot n a=b
 ·by_cases h2:dot n c=b
  ·by_cases h3:dot n k=b
   ·by_cases h4:dot n v=b
    ·exfalso;unfold N3 at hd;generalize hD:dot (d7 (o8 c a) (o8 k a)) (o8 v a)=D at *
     have q1:dot n (o8 c a)=0:=by unfold dot o8 at *;grind
     have q2:dot n (o8 k a)=0:=by unfold dot o8 at *;grind
     have q3:dot n (o8 v a)=0:=by unfold dot o8 at *;grind
     generalize o8 c a=p at *
     generalize o8 k a=q at *
     generalize o8 v a=r at *
     have i1:D*n.x=(d7 q r).x*dot n p+(d7 r p).x*dot n q+(d7 p q).x*dot n r:=by rw[<- hD];simp only[dot,d7];grind
     have i2:D*n.y=(d7 q r).y*dot n p+(d7 r p).y*dot n q+(d7 p q).y*dot n r:=by rw[<- hD];simp only[dot,d7];grind
     have i3:D*n.z=(d7 q r).z*dot n p+(d7 r p).z*dot n q+(d7 p q).z*dot n r:=by rw[<- hD];simp only[dot,d7];grind
     rw[q1,q2,q3] at i1 i2 i3;have z:∀{x:Int},D*x=0->x=0:=λh=>(Qjf.1 h).resolve_left hd
     exact hn (Qjbd (z (by omega)) (z (by omega)) (z (by omega)))
    ·exact⟨v,hv,h4⟩
   ·exact⟨k,hk,h3⟩
  ·exact⟨c,hc,h2⟩
 ·exact⟨a,ha,h1⟩
theorem Sol.ne{l:List V3}(h:Sol l):∃v,v∈l:=by obtain⟨a,_,_,_,ha,_⟩:=h;exact⟨a,ha⟩
structure Fac(l:List V3)(n:V3)(b:Int):Prop where
 hd:∀v∈l,dot n v<=b
 on:∃u w x,u∈l/\w∈l/\x∈l/\N3 u w x≠⟨0,0,0⟩/\dot n u=b/\dot n w=b/\dot n x=b
def se7(l:List V3)(c:List Pln):Prop:=∀n b,n≠⟨0,0,0⟩->Fac l n b->∃s t:Int,0<s/\0<t/\∃q∈c,t*q.n.x=s*n.x/\t*q.n.y=s*n.y/\t*q.n.z=s*n.z/\t*q.b=s*b
def pol(m:Int)(S v:V3):Pln:=⟨⟨m*v.x-S.x,m*v.y-S.y,m*v.z-S.z⟩,1⟩
theorem ge4(m:Int)(S v d:V3):dot (pol m S v).n d=m*dot d v-dot d S:=by simp only[dot,pol];grind
theorem od0(l:List V3)(d:V3):Yb4 (l.map λv=>(l.length:Int)*dot d v-dot d (sb4 l))=0:=by
 have h:=nd9 (l.length:Int) (dot d (sb4 l)) (l.map (dot d));rw[List.map_map] at h;have e:((λa=>(l.length:Int)*a-dot d (sb4 l))∘dot d)=λv=>(l.length:Int)*dot d v-dot d (sb4 l):=rfl
 rw[e] at h;rw[h,<- nd8,List.length_map]
 grind
theorem Md2{a b:V3}(h:dot a b≠0):b≠⟨0,0,0⟩:=λe=>h (by subst e;simp[dot])
theorem Ec7{a b:V3}(h:dot a b≠0):a≠⟨0,0,0⟩:=λe=>h (by subst e;simp[dot])
theorem Ed0{l:List V3}(h:Sol l):0<(l.length:Int):=by
 obtain⟨v,hv⟩:=h.ne
 have:=List.length_pos_of_mem hv
 omega
theorem ge5{l:List V3}(h:Sol l):Bdd (l.map (pol l.length (sb4 l))):=λd hd=>by
 by_cases hh:∃p∈l.map (pol l.length (sb4 l)),0<dot p.n d
 ·exact hh
 exfalso;have hm:=Ed0 h;have hall:∀a∈l.map (λv=>(l.length:Int)*dot d v-dot d (sb4 l)),a<=0:=λa ha=>by
  obtain⟨v,hv,rfl⟩:=Qjd.1 ha;refine Int.not_lt.1 λh'=>hh ⟨pol l.length (sb4 l) v,Qjd.2 ⟨v,hv,rfl⟩,?_⟩
  rw[ge4];omega
 have hz:=gc4 hall (od0 l d);obtain⟨a,ha⟩:=h.ne;obtain⟨v,hv,hne⟩:=h.off hd (dot d a);have e1:=hz _ (Qjd.2 ⟨a,ha,rfl⟩);have e2:=hz _ (Qjd.2 ⟨v,hv,rfl⟩);apply hne
 have:(l.length:Int)*(dot d v-dot d a)=0:=by grind
 have:=(Qjf.1 this).resolve_left (by omega)
 omega
theorem Eb5{l:List V3}(h4:Sol l){c:List Pln}(hc:se7 l c){x:Pt}(hx:Inr c x){h:Pln}(hh:∀v∈l,dot h.n v<=h.b):0<=rmZ h x:=by
 have hm:=Ed0 h4;have hr:=ge5 h4;generalize hS:sb4 l=S at hr;generalize hM:(l.length:Int)=m at hr hm
 -- the linear function on the polar
 have hv:∀y,Cn (l.map (pol m S)) y->0<=rmZ ⟨⟨m*x.px-x.pw*S.x,m*x.py-x.pw*S.y,m*x.pz-x.pw*S.z⟩,x.pw⟩ y:=λy hy=>by
  obtain⟨p1,p2,p3,hp1,hp2,hp3,hw,e1,e2,e3⟩:=hy.c;obtain⟨v1,m1,rfl⟩:=Qjd.1 hp1;obtain⟨v2,m2,rfl⟩:=Qjd.1 hp2;obtain⟨v3,m3,rfl⟩:=Qjd.1 hp3;have rp:∀v,rmZ (pol m S v) y=y.pw-(m*dot ⟨y.px,y.py,y.pz⟩ v-dot ⟨y.px,y.py,y.pz⟩ S):=λv=>by simp only[rmZ,pol,dot];grind
  rw[rp] at e1 e2 e3;have hn3:dot (pol m S v1).n (N3 v1 v2 v3)≠0:=λh0=>hw (by
   have:mw (pol m S v1) (pol m S v2) (pol m S v3)=m*m*dot (pol m S v1).n (N3 v1 v2 v3):=by simp only[mw,pol,dot,N3,d7,o8];grind
   rw[this,h0,Qjm])
  have hne:N3 v1 v2 v3≠⟨0,0,0⟩:=Md2 hn3;have hfac:Fac l ⟨m*y.px,m*y.py,m*y.pz⟩ (y.pw+dot ⟨y.px,y.py,y.pz⟩ S):=by
   have ed:∀v,dot ⟨m*y.px,m*y.py,m*y.pz⟩ v=m*dot ⟨y.px,y.py,y.pz⟩ v:=λv=>by simp only[dot];grind
   refine⟨λv hv=>?_,v1,v2,v3,m1,m2,m3,hne,?_,?_,?_⟩
   ·have:=hy.h (pol m S v) (Qjd.2 ⟨v,hv,rfl⟩)
    rw[rp] at this;rw[ed];omega
   ·rw[ed];omega
   ·rw[ed];omega
   ·rw[ed];omega
  have hyn:(⟨m*y.px,m*y.py,m*y.pz⟩:V3)≠⟨0,0,0⟩:=λe=>by
   have k:∀{a:Int},m*a=0->a=0:=λh=>(Qjf.1 h).resolve_left (by omega)
   simp only[V3.mk.injEq] at e;have a1:=k e.1;have a2:=k e.2.1;have a3:=k e.2.2;rw[a1,a2,a3] at e1;have hw:=hy.w;simp only[dot] at e1;simp only[Qjac,Int.add_zero,Qjm,Int.sub_zero] at e1;omega
  obtain⟨s,t,hs,ht,q,hq,f1,f2,f3,f4⟩:=hc _ _ hyn hfac;have hxq:=hx.h q hq;have e:t*rmZ q x=s*rmZ ⟨⟨m*x.px-x.pw*S.x,m*x.py-x.pw*S.y,m*x.pz-x.pw*S.z⟩,x.pw⟩ y:=by
   have:t*rmZ q x=(t*q.b)*x.pw-((t*q.n.x)*x.px+(t*q.n.y)*x.py+(t*q.n.z)*x.pz):=by simp only[rmZ];grind
   rw[this,f1,f2,f3,f4];simp only[rmZ,dot];grind
  have h1:=Qjal (Qjaw ht) hxq;rw[e] at h1;exact Qjap h1 hs
 by_cases hn:h.n=⟨0,0,0⟩
 ·obtain⟨v,hv⟩:=h4.ne;have h1:=hh v hv;have e:rmZ h x=h.b*x.pw:=by simp only[rmZ,hn];grind
  rw[e];rw[hn] at h1;simp only[dot,Qjac,Int.add_zero] at h1;exact Qjal h1 (Qjaw hx.w)
 ·-- the polar point of h
  have hall:∀a∈l.map (λv=>(l.length:Int)*dot h.n v-dot h.n (sb4 l)),a<=(l.length:Int)*h.b-dot h.n (sb4 l):=λa ha=>by
   obtain⟨v,hv,rfl⟩:=Qjd.1 ha
   have:=Qjq (hh v hv) (show 0<=(l.length:Int) by omega)
   omega
  have hpos:0<m*h.b-dot h.n S:=by
   rw[<- hM,<- hS];by_cases h0:0<(l.length:Int)*h.b-dot h.n (sb4 l)
   ·exact h0
   exfalso;have hz:=gc4 (λa ha=>by have:=hall a ha;omega) (od0 l h.n)
   obtain⟨v,hv,hne⟩:=h4.off hn h.b;have e1:=hz _ (Qjd.2 ⟨v,hv,rfl⟩);have h2:=hh v hv
   have:(l.length:Int)*dot h.n v<(l.length:Int)*h.b:=Int.mul_lt_mul_of_pos_left (by omega) (by omega)
   omega
  have hy:Inr (l.map (pol m S)) ⟨h.n.x,h.n.y,h.n.z,m*h.b-dot h.n S⟩:=⟨hpos,λp hp=>by
   obtain⟨v,hv,rfl⟩:=Qjd.1 hp;have e:rmZ (pol m S v) ⟨h.n.x,h.n.y,h.n.z,m*h.b-dot h.n S⟩=m*(h.b-dot h.n v):=by simp only[rmZ,pol,dot];grind
   rw[e];exact Qjal (by omega) (by have:=hh v hv;omega)⟩
  have h1:=rb0 hr hv hy;have e:rmZ ⟨⟨m*x.px-x.pw*S.x,m*x.py-x.pw*S.y,m*x.pz-x.pw*S.z⟩,x.pw⟩ ⟨h.n.x,h.n.y,h.n.z,m*h.b-dot h.n S⟩=m*rmZ h x:=by simp only[rmZ,dot];grind
  rw[e] at h1;exact Qjap h1 hm
theorem ge6(own:List V3):(∃a c k,a∈own/\c∈own/\k∈own/\dot a (d7 c k)≠0)\/∃d,d≠(⟨0,0,0⟩:V3)/\∀n∈own,dot n d=0:=by
 by_cases h1:∃a∈own,a≠⟨0,0,0⟩
 ·obtain⟨a,ha,hne⟩:=h1;by_cases h2:∃c∈own,d7 a c≠⟨0,0,0⟩
  ·obtain⟨c,hc,hx⟩:=h2;by_cases h3:∃k∈own,dot k (d7 a c)≠0
   ·obtain⟨k,hk,h⟩:=h3;exact .inl ⟨k,a,c,hk,ha,hc,h⟩
   ·exact .inr ⟨d7 a c,hx,λn hn=>Qjk λh=>h3 ⟨n,hn,h⟩⟩
  ·obtain⟨d,hd,h0⟩:=ze5 hne;refine .inr ⟨d,hd,λn hn=>?_⟩
   have hc:d7 a n=⟨0,0,0⟩:=Qjk λh=>h2 ⟨n,hn,h⟩
   have e:∀{s t:Int},s*t=0->s≠0->t=0:=λh hs=>(Qjf.1 h).resolve_left hs
   unfold d7 at hc;simp only[V3.mk.injEq] at hc;obtain⟨c1,c2,c3⟩:=hc;have k1:a.x*dot n d=0:=by
    have:a.x*dot n d=n.x*dot a d+(a.x*n.y-a.y*n.x)*d.y-(a.z*n.x-a.x*n.z)*d.z:=by simp only[dot];grind
    rw[this,h0,c3,c2];simp
   have k2:a.y*dot n d=0:=by
    have:a.y*dot n d=n.y*dot a d+(a.y*n.z-a.z*n.y)*d.z-(a.x*n.y-a.y*n.x)*d.x:=by simp only[dot];grind
    rw[this,h0,c1,c3];simp
   have k3:a.z*dot n d=0:=by
    have:a.z*dot n d=n.z*dot a d+(a.z*n.x-a.x*n.z)*d.x-(a.y*n.z-a.z*n.y)*d.y:=by simp only[dot];grind
    rw[this,h0,c2,c1];simp
   by_cases hx:a.x=0
   ·by_cases hy:a.y=0
    ·exact e k3 λhz=>hne (Qjbd hx hy hz)
    ·exact e k2 hy
   ·exact e k1 hx
 ·exact .inr ⟨⟨1, 0, 0⟩, by simp, fun n hn => by
   have:n=⟨0,0,0⟩:=Qjk λh=>h1 ⟨n,hn,h⟩
   rw[this];simp[dot]⟩
theorem big(d:V3):∀c:List Pln,∃N:Int,0<N/\∀p∈c,dot p.n d<=N/\-dot p.n d<=N
 |[]=>⟨1,by decide,λp hp=>by cases hp⟩
 |q::c=>by
  obtain⟨N,h0,h⟩:=big d c;refine⟨N+(dot q.n d).natAbs,by omega,λp hp=>?_⟩
  rcases Qjx.1 hp with rfl|hp
  ·omega
  ·have:=h p hp;omega
theorem Ab3{p q s:Pln}(hw:mw p q s≠0){d:V3}(h1:dot p.n d=0)(h2:dot q.n d=0)(h3:dot s.n d=0):d=⟨0,0,0⟩:=by
 have i1:mw p q s*d.x=(d7 q.n s.n).x*dot p.n d+(d7 s.n p.n).x*dot q.n d+(d7 p.n q.n).x*dot s.n d:=by simp only[mw,dot,d7];grind
 have i2:mw p q s*d.y=(d7 q.n s.n).y*dot p.n d+(d7 s.n p.n).y*dot q.n d+(d7 p.n q.n).y*dot s.n d:=by simp only[mw,dot,d7];grind
 have i3:mw p q s*d.z=(d7 q.n s.n).z*dot p.n d+(d7 s.n p.n).z*dot q.n d+(d7 p.n q.n).z*dot s.n d:=by simp only[mw,dot,d7];grind
 rw[h1,h2,h3] at i1 i2 i3;have z:∀{x:Int},mw p q s*x=0->x=0:=λh=>(Qjf.1 h).resolve_left hw
 exact Qjbd (z (by omega)) (z (by omega)) (z (by omega))
def Spn(c:List Pln)(v:V3):Prop:=∃p q s,p∈c/\q∈c/\s∈c/\mw p q s≠0/\dot p.n v=p.b/\dot q.n v=q.b/\dot s.n v=s.b
theorem ge7{l:List V3}(h4:Sol l){c w:List Pln}(hc:se7 l c)(hin:∀p∈c++w,∀v∈l,dot p.n v<=p.b){x:Pt}(hx:Cn (c++w) x):∃v∈l,Eqv x ⟨v.x,v.y,v.z,1⟩/\Spn c v:=by
 obtain⟨p,q,s,hp,hq,hs,hw,e1,e2,e3⟩:=hx.c;have hxc:Inr c x:=⟨hx.w,λa ha=>hx.h a (List.mem_append_left _ ha)⟩
 have hv:∃v∈l,dot p.n v=p.b/\dot q.n v=q.b/\dot s.n v=s.b:=by
  apply Qjk;intro hno;have h1:=Eb5 h4 hc hxc (h:=⟨⟨p.n.x+q.n.x+s.n.x,p.n.y+q.n.y+s.n.y,p.n.z+q.n.z+s.n.z⟩,p.b+q.b+s.b-1⟩) λv hv=>by
   have a1:=hin p hp v hv;have a2:=hin q hq v hv;have a3:=hin s hs v hv;have e:dot ⟨p.n.x+q.n.x+s.n.x,p.n.y+q.n.y+s.n.y,p.n.z+q.n.z+s.n.z⟩ v=dot p.n v+dot q.n v+dot s.n v:=by simp only[dot];grind
   simp only[e]
   have:¬ (dot p.n v=p.b/\dot q.n v=q.b/\dot s.n v=s.b):=λh=>hno ⟨v,hv,h⟩
   omega
  have e:rmZ ⟨⟨p.n.x+q.n.x+s.n.x,p.n.y+q.n.y+s.n.y,p.n.z+q.n.z+s.n.z⟩,p.b+q.b+s.b-1⟩ x=rmZ p x+rmZ q x+rmZ s x-x.pw:=by simp only[rmZ];grind
  rw[e,e1,e2,e3] at h1
  have:=hx.w
  omega
 obtain⟨v,hv,t1,t2,t3⟩:=hv;have hd:(⟨x.px-v.x*x.pw,x.py-v.y*x.pw,x.pz-v.z*x.pw⟩:V3)=⟨0,0,0⟩:=by
  have k:∀{a:Pln},dot a.n v=a.b->rmZ a x=0->dot a.n ⟨x.px-v.x*x.pw,x.py-v.y*x.pw,x.pz-v.z*x.pw⟩=0:=λ{a} h1 h2=>by
   rw[rmZ,<- h1] at h2;simp only[dot] at h2 ⊢
   grind
  exact Ab3 hw (k t1 e1) (k t2 e2) (k t3 e3)
 simp only[V3.mk.injEq] at hd;refine⟨v,hv,⟨?_,?_,?_⟩,?_⟩
 ·show x.px*1=v.x*x.pw;omega
 ·show x.py*1=v.y*x.pw;omega
 ·show x.pz*1=v.z*x.pw;omega
 -- the facets through it span the space
 have hf:∀a:Pln,decide (dot a.n v=a.b)=true↔dot a.n v=a.b:=λa=>by simp
 rcases ge6 ((c.filter λa=>decide (dot a.n v=a.b)).map Pln.n) with⟨a,b,k,ha',hb',hk',hd⟩|⟨d,hd,h0⟩
 ·obtain⟨a,ha,rfl⟩:=Qjd.1 ha';obtain⟨b,hb,rfl⟩:=Qjd.1 hb';obtain⟨k,hk,rfl⟩:=Qjd.1 hk';rw[Qjp,hf] at ha hb hk;exact⟨a,b,k,ha.1,hb.1,hk.1,hd,ha.2,hb.2,hk.2⟩
 ·exfalso;obtain⟨N,hN,hb⟩:=big d c;have h0':∀a∈c,dot a.n v=a.b->dot a.n d=0:=λa ha h=>h0 a.n (Qjd.2 ⟨a,Qjp.2 ⟨ha,by simpa using h⟩,rfl⟩)
  have iny:∀e:V3,(∀a∈c,dot a.n v=a.b->dot a.n e=0)->(∀a∈c,dot a.n e<=N)->Inr c ⟨N*v.x+e.x,N*v.y+e.y,N*v.z+e.z,N⟩:=λe he hle=>⟨hN,λa ha=>by
   have ea:rmZ a ⟨N*v.x+e.x,N*v.y+e.y,N*v.z+e.z,N⟩=N*(a.b-dot a.n v)-dot a.n e:=by simp only[rmZ,dot];grind
   rw[ea];have h1:=hin a (List.mem_append_left _ ha) v hv;by_cases ht:dot a.n v=a.b
   ·rw[he a ha ht,ht];simp
   ·have h2:N*1<=N*(a.b-dot a.n v):=Qjq (by omega) (by omega)
    have:=hle a ha
    omega⟩
  have y1:=iny d h0' λa ha=>(hb a ha).1
  have y2:=iny (neg d) (λa ha h=>by rw[sc1,h0' a ha h];rfl) λa ha=>by rw[sc1];exact (hb a ha).2
  have z:∀a∈c++w,dot a.n v=a.b->dot a.n d=0:=λa ha ht=>by
   have a1:=Eb5 h4 hc y1 (h:=a) (hin a ha);have a2:=Eb5 h4 hc y2 (h:=a) (hin a ha);have e1:rmZ a ⟨N*v.x+d.x,N*v.y+d.y,N*v.z+d.z,N⟩=N*(a.b-dot a.n v)-dot a.n d:=by simp only[rmZ,dot];grind
   have e2:rmZ a ⟨N*v.x+(neg d).x,N*v.y+(neg d).y,N*v.z+(neg d).z,N⟩=N*(a.b-dot a.n v)+dot a.n d:=by simp only[rmZ,dot,neg];grind
   rw[e1,ht] at a1;rw[e2,ht] at a2;simp only[Qjaj,Qjm] at a1 a2;omega
  exact hd (Ab3 hw (z p hp t1) (z q hq t2) (z s hs t3))
end Go.Ev.Ce
namespace Go.Ev.Ce
open Go Go.Ev Go.Ev.L Go.Proofs
theorem Ed1{v:V3}(h:g3 v=0):v=⟨0,0,0⟩:=by
 unfold g3 at h;have h:Nat.gcd (Nat.gcd v.x.natAbs v.y.natAbs) v.z.natAbs=0:=by omega
 rw[Nat.gcd_eq_zero_iff,Nat.gcd_eq_zero_iff] at h;exact Qjbd (by show v.x=0;omega) (by show v.y=0;omega) (by show v.z=0;omega)
theorem La2{a c k:V3}(ha:inV a=true)(hc:inV c=true)(hk:inV k=true)(h:N3 a c k≠⟨0,0,0⟩):(I0 a c k).2=true:=by
 unfold I0;rw[ha,hc,hk];simp only[Bool.and_self,if_true];rw[if_neg (λh0=>h (Ed1 h0):¬ g3 (d7 (sub c a) (sub k a))=0)]
theorem Rc4{a c k:V3}{p:Pln}(h:Thr a c k p):N3 a c k≠⟨0,0,0⟩:=λe=>by
 obtain⟨ok,⟨g,hg,e1,e2,e3⟩,_⟩:=h;have e':d7 (sub c a) (sub k a)=⟨0,0,0⟩:=e;rw[e'] at e1 e2 e3;have z:∀{x:Int},g*x=0->x=0:=λh=>(Qjf.1 h).resolve_left (by omega)
 exact Kb5 ok (Qjbd (z e1) (z e2) (z e3))
theorem Ec8{a c k:V3}{p:Pln}(h:Thr a c k p):dot p.n a=p.b/\dot p.n c=p.b/\dot p.n k=p.b:=by
 obtain⟨ok,⟨g,hg,e1,e2,e3⟩,o⟩:=h;have z:∀{x y:Int},g*(x-y)=0->x=y:=λh=>by have:=(Qjf.1 h).resolve_left (by omega);omega
 refine⟨o.symm,?_,?_⟩
 ·rw[o];apply z
  have:g*(dot p.n c-dot p.n a)=(g*p.n.x)*(c.x-a.x)+(g*p.n.y)*(c.y-a.y)+(g*p.n.z)*(c.z-a.z):=by simp only[dot];grind
  rw[this,e1,e2,e3];simp only[d7,sub];grind
 ·rw[o];apply z
  have:g*(dot p.n k-dot p.n a)=(g*p.n.x)*(k.x-a.x)+(g*p.n.y)*(k.y-a.y)+(g*p.n.z)*(k.z-a.z):=by simp only[dot];grind
  rw[this,e1,e2,e3];simp only[d7,sub];grind
theorem Ha1(p:Pln)(v:V3):dot (pa3 p).n v=(pa3 p).b↔dot p.n v=p.b:=by
 rw[Ab2];show -dot p.n v=-p.b↔_;omega
theorem Yb5{a c k:V3}{p q:Pln}(h:Thr a c k q)(hp:okp p=true)(t1:dot p.n a=p.b)(t2:dot p.n c=p.b)(t3:dot p.n k=p.b):p=q\/p=pa3 q:=by
 obtain⟨s1,s2,s3⟩:=Ec8 h;obtain⟨ok,⟨g,hg,e1,e2,e3⟩,o⟩:=h;have d1:dot p.n (sub c a)=0:=by simp only[dot,sub] at *;grind
 have d2:dot p.n (sub k a)=0:=by simp only[dot,sub] at *;grind
 have hc:d7 q.n p.n=⟨0,0,0⟩:=by
  have z:∀{x:Int},g*x=0->x=0:=λh=>(Qjf.1 h).resolve_left (by omega)
  generalize sub c a=u at *
  generalize sub k a=w at *
  refine Qjbd (z ?_) (z ?_) (z ?_)
  ·have:g*(d7 q.n p.n).x=(g*q.n.y)*p.n.z-(g*q.n.z)*p.n.y:=by simp only[d7];grind
   rw[this,e2,e3]
   have:(d7 u w).y*p.n.z-(d7 u w).z*p.n.y=w.x*dot p.n u-u.x*dot p.n w:=by simp only[d7,dot];grind
   rw[this,d1,d2];simp
  ·have:g*(d7 q.n p.n).y=(g*q.n.z)*p.n.x-(g*q.n.x)*p.n.z:=by simp only[d7];grind
   rw[this,e1,e3]
   have:(d7 u w).z*p.n.x-(d7 u w).x*p.n.z=w.y*dot p.n u-u.y*dot p.n w:=by simp only[d7,dot];grind
   rw[this,d1,d2];simp
  ·have:g*(d7 q.n p.n).z=(g*q.n.x)*p.n.y-(g*q.n.y)*p.n.x:=by simp only[d7];grind
   rw[this,e1,e2]
   have:(d7 u w).x*p.n.y-(d7 u w).y*p.n.x=w.z*dot p.n u-u.z*dot p.n w:=by simp only[d7,dot];grind
   rw[this,d1,d2];simp
 obtain⟨pn,pb⟩:=p;obtain⟨qn,qb⟩:=q
 rcases nd7 (bd5 ok) (bd5 hp) hc with e|e
 ·left
  simp only at e o t1 s1 t2 t3
  subst e;rw[<- t1,s1]
 ·right
  simp only at e o t1 s1 t2 t3
  subst e;rw[<- t1];simp only[dot,neg,pa3] at s1 ⊢;simp only[Pln.mk.injEq,true_and]
  grind
structure gc5(l:List V3)(p:Pln):Prop extends Fac l p.n p.b where
 ok:okp p=true
theorem Yb6{l:List V3}{p:Pln}{u w x:V3}(hu:u∈l)(hw:w∈l)(hx:x∈l)(h:Thr u w x p)(hh:∀v∈l,dot (pa3 p).n v<=(pa3 p).b):gc5 l (pa3 p):=by
 obtain⟨s1,s2,s3⟩:=Ec8 h;exact⟨⟨hh,u,w,x,hu,hw,hx,Rc4 h,(Ha1 p u).2 s1,(Ha1 p w).2 s2,(Ha1 p x).2 s3⟩,Xb1 h.ok⟩
theorem sc4{l:List V3}{p:Pln}{u w x:V3}(hu:u∈l)(hw:w∈l)(hx:x∈l)(h:Thr u w x p)(hh:∀v∈l,dot p.n v<=p.b):gc5 l p:=by
 obtain⟨s1,s2,s3⟩:=Ec8 h;exact⟨⟨hh,u,w,x,hu,hw,hx,Rc4 h,s1,s2,s3⟩,h.ok⟩
theorem Xd1{u w x:V3}(h:N3 u w x≠⟨0,0,0⟩):N3 w u x≠⟨0,0,0⟩/\N3 u x w≠⟨0,0,0⟩/\N3 x w u≠⟨0,0,0⟩/\N3 w x u≠⟨0,0,0⟩/\N3 x u w≠⟨0,0,0⟩:=by
 have e1:N3 w u x=neg (N3 u w x):=Qjbd (by simp only[N3,d7,o8,neg];grind) (by simp only[N3,d7,o8,neg];grind) (by simp only[N3,d7,o8,neg];grind)
 have e2:N3 u x w=neg (N3 u w x):=Qjbd (by simp only[N3,d7,o8,neg];grind) (by simp only[N3,d7,o8,neg];grind) (by simp only[N3,d7,o8,neg];grind)
 have e3:N3 x w u=neg (N3 u w x):=Qjbd (by simp only[N3,d7,o8,neg];grind) (by simp only[N3,d7,o8,neg];grind) (by simp only[N3,d7,o8,neg];grind)
 have e4:N3 w x u=N3 u w x:=Qjbd (by simp only[N3,d7,o8];grind) (by simp only[N3,d7,o8];grind) (by simp only[N3,d7,o8];grind)
 have e5:N3 x u w=N3 u w x:=Qjbd (by simp only[N3,d7,o8];grind) (by simp only[N3,d7,o8];grind) (by simp only[N3,d7,o8];grind)
 rw[e1,e2,e3,e4,e5];exact⟨Zc6 h,Zc6 h,Zc6 h,h,h⟩
theorem Ae0{u w x:V3}(h:N3 u w x≠⟨0,0,0⟩):u≠w/\u≠x/\w≠x:=by
 refine⟨λe=>h ?_,λe=>h ?_,λe=>h ?_⟩<;>subst e<;>refine Qjbd ?_ ?_ ?_<;>simp only[N3,d7,o8]<;>grind
theorem ge8 {l : List V3} {u w x : V3} (hu : u ∈ l) (hw : w ∈ l) (hx : x ∈ l) (h : N3 u w x ≠ ⟨0, 0, 0⟩) :
  ∃a,a<l.length/\∃c,c<a/\∃k,k<c/\N3 (gL tV l a) (gL tV l c) (gL tV l k)≠⟨0,0,0⟩/\∀f:V3->Prop,f u->f w->f x->f (gL tV l a)/\f (gL tV l c)/\f (gL tV l k):=by
 obtain⟨i,hi,rfl⟩:=Qjv.1 hu;obtain⟨j,hj,rfl⟩:=Qjv.1 hw;obtain⟨k,hk,rfl⟩:=Qjv.1 hx;obtain⟨n1,n2,n3⟩:=Ae0 h;obtain⟨s1,s2,s3,s4,s5⟩:=Xd1 h;have d1:i≠j:=λe=>n1 (by subst e;rfl)
 have d2:i≠k:=λe=>n2 (by subst e;rfl)
 have d3:j≠k:=λe=>n3 (by subst e;rfl)
 rw[<- Za9 tV hi,<- Za9 tV hj,<- Za9 tV hk] at *
 rcases Qjak d1 with h1|h1<;>rcases Qjak d2 with h2|h2<;>rcases Qjak d3 with h3|h3
 ·exact⟨k,hk,j,h3,i,h1,s3,λf a b c=>⟨c,b,a⟩⟩
 ·exact⟨j,hj,k,h3,i,h2,s4,λf a b c=>⟨b,c,a⟩⟩
 ·omega
 ·exact⟨j,hj,i,h1,k,h2,s1,λf a b c=>⟨b,a,c⟩⟩
 ·exact⟨k,hk,i,h2,j,h1,s5,λf a b c=>⟨c,a,b⟩⟩
 ·omega
 ·exact⟨i,hi,k,h2,j,h3,s2,λf a b c=>⟨a,c,b⟩⟩
 ·exact⟨i,hi,j,h1,k,h3,h,λf a b c=>⟨a,b,c⟩⟩
theorem R6{l:List V3}(hl:l.all inV=true)(p:Pln):p∈F0 l↔gc5 l p:=by
 have hin:=Qja.1 hl;constructor
 ·intro hp;obtain⟨a,ha,c,hc,k,hk,h1,h2⟩:=(yd2 l p).1 hp;have ma:=gLm ha;have mc:=gLm (show c<l.length by omega)
  have mk:=gLm (show k<l.length by omega)
  have ht:=(ma0 h1).2
  rcases h2 with⟨rfl,h3⟩|⟨rfl,h3⟩
  ·exact sc4 ma mc mk ht ((jb9 ht.ok hl).1 h3)
  ·exact Yb6 ma mc mk ht ((jb9 (Xb1 ht.ok) hl).1 h3)
 ·intro h;obtain⟨u,w,x,hu,hw,hx,h3,t1,t2,t3⟩:=h.on;obtain⟨a,ha,c,hc,k,hk,hn,hall⟩:=ge8 hu hw hx h3;obtain⟨i1,i2,i3⟩:=hall (λv=>inV v=true) (hin u hu) (hin w hw) (hin x hx)
  obtain⟨e1,e2,e3⟩:=hall (λv=>dot p.n v=p.b) t1 t2 t3
  have h2:=La2 i1 i2 i3 hn;refine (yd2 l p).2 ⟨a,ha,c,hc,k,hk,h2,?_⟩;have hh:=(jb9 h.ok hl).2 h.hd
  rcases Yb5 (ma0 h2).2 h.ok e1 e2 e3 with e|e
  ·exact .inl ⟨e,hh⟩
  ·exact .inr ⟨e,hh⟩
theorem ge9{n:V3}(h:n≠⟨0,0,0⟩):0<dot n n:=by
 have sq:∀a:Int,0<=a*a:=λa=>by
  by_cases h:0<=a
  ·exact Qjal h h
  ·have:=Qjal (show 0<=-a by omega) (show 0<=-a by omega)
   rw[Int.neg_mul_neg] at this;exact this
 have z:∀{a:Int},a*a=0->a=0:=λh=>(Qjf.1 h).elim id id
 have s1:=sq n.x;have s2:=sq n.y;have s3:=sq n.z;by_cases h0:0<dot n n
 ·exact h0
 ·exfalso;simp only[dot] at h0;exact h (Qjbd (z (by omega)) (z (by omega)) (z (by omega)))
theorem Ed2{l:List V3}(hl:l.all inV=true){c:List Pln}(hc:∀p,gc5 l p->p∈c):se7 l c:=λn b hn hf=>by
 have hin:=Qja.1 hl;obtain⟨u,w,x,hu,hw,hx,h3,t1,t2,t3⟩:=hf.on;have h2:=La2 (hin u hu) (hin w hw) (hin x hx) h3;have ht:=(ma0 h2).2;generalize (I0 u w x).1=q at ht;obtain⟨s1,s2,s3⟩:=Ec8 ht;have hnn:=ge9 hn;have d1:dot n (o8 w u)=0:=by simp only[dot,o8] at *;grind
 have d2:dot n (o8 x u)=0:=by simp only[dot,o8] at *;grind
 -- the normals are parallel
 have par:dot n n*q.n.x=dot q.n n*n.x/\dot n n*q.n.y=dot q.n n*n.y/\dot n n*q.n.z=dot q.n n*n.z:=by
  obtain⟨ok,⟨g,hg,e1,e2,e3⟩,o⟩:=ht;have z:∀{x y:Int},g*(x-y)=0->x=y:=λh=>by have:=(Qjf.1 h).resolve_left (by omega);omega
  have eg:g*dot q.n n=(d7 (o8 w u) (o8 x u)).x*n.x+(d7 (o8 w u) (o8 x u)).y*n.y+(d7 (o8 w u) (o8 x u)).z*n.z:=by
   have:g*dot q.n n=(g*q.n.x)*n.x+(g*q.n.y)*n.y+(g*q.n.z)*n.z:=by simp only[dot];grind
   rw[this,e1,e2,e3];rfl
  have e1:g*q.n.x=(d7 (o8 w u) (o8 x u)).x:=e1;have e2:g*q.n.y=(d7 (o8 w u) (o8 x u)).y:=e2;have e3:g*q.n.z=(d7 (o8 w u) (o8 x u)).z:=e3;generalize o8 w u=p at *
  generalize o8 x u=r at *
  refine⟨z ?_,z ?_,z ?_⟩
  ·have:g*(dot n n*q.n.x-dot q.n n*n.x)=dot n n*(g*q.n.x)-(g*dot q.n n)*n.x:=by grind
   rw[this,e1,eg]
   have:dot n n*(d7 p r).x-((d7 p r).x*n.x+(d7 p r).y*n.y+(d7 p r).z*n.z)*n.x=(n.y*r.z-n.z*r.y)*dot n p-(n.y*p.z-n.z*p.y)*dot n r:=by simp only[dot,d7];grind
   rw[this,d1,d2];simp
  ·have:g*(dot n n*q.n.y-dot q.n n*n.y)=dot n n*(g*q.n.y)-(g*dot q.n n)*n.y:=by grind
   rw[this,e2,eg]
   have:dot n n*(d7 p r).y-((d7 p r).x*n.x+(d7 p r).y*n.y+(d7 p r).z*n.z)*n.y=(n.z*r.x-n.x*r.z)*dot n p-(n.z*p.x-n.x*p.z)*dot n r:=by simp only[dot,d7];grind
   rw[this,d1,d2];simp
  ·have:g*(dot n n*q.n.z-dot q.n n*n.z)=dot n n*(g*q.n.z)-(g*dot q.n n)*n.z:=by grind
   rw[this,e3,eg]
   have:dot n n*(d7 p r).z-((d7 p r).x*n.x+(d7 p r).y*n.y+(d7 p r).z*n.z)*n.z=(n.x*r.y-n.y*r.x)*dot n p-(n.x*p.y-n.y*p.x)*dot n r:=by simp only[dot,d7];grind
   rw[this,d1,d2];simp
 have fin:∀r:Pln,Thr u w x q->(r=q\/r=pa3 q)->0<dot r.n n->(dot n n*r.n.x=dot r.n n*n.x/\dot n n*r.n.y=dot r.n n*n.y/\dot n n*r.n.z=dot r.n n*n.z)->∃s t:Int,0<s/\0<t/\∃q∈c,t*q.n.x=s*n.x/\t*q.n.y=s*n.y/\t*q.n.z=s*n.z/\t*q.b=s*b:=λr ht hr hp ⟨p1,p2,p3⟩=>by
  have hru:dot r.n u=r.b:=by
   rcases hr with rfl|rfl
   ·exact s1
   ·exact (Ha1 q u).2 s1
  have ed:∀v,dot n n*dot r.n v=dot r.n n*dot n v:=λv=>by
   have:dot n n*dot r.n v=(dot n n*r.n.x)*v.x+(dot n n*r.n.y)*v.y+(dot n n*r.n.z)*v.z:=by
    generalize dot n n=t;simp only[dot];grind
   rw[this,p1,p2,p3];generalize dot r.n n=s;simp only[dot];grind
  have eb:dot n n*r.b=dot r.n n*b:=by rw[<- hru,ed,t1]
  have hd:∀v∈l,dot r.n v<=r.b:=λv hv=>by
   have h1:=Qjq (hf.hd v hv) (Qjaw hp);rw[<- ed,<- eb] at h1;exact Int.le_of_mul_le_mul_left h1 hnn
  have hF:gc5 l r:=by
   rcases hr with rfl|rfl
   ·exact sc4 hu hw hx ht hd
   ·exact Yb6 hu hw hx ht hd
  exact⟨dot r.n n,dot n n,hp,hnn,r,hc r hF,p1,p2,p3,eb⟩
 by_cases h0:0<dot q.n n
 ·exact fin q ht (.inl rfl) h0 par
 ·refine fin (pa3 q) ht (.inr rfl) ?_ ?_
  ·rw[Ab2]
   have:dot q.n n≠0:=λe=>by
    obtain⟨p1,p2,p3⟩:=par;rw[e] at p1 p2 p3;simp only[Qjac] at p1 p2 p3;have z:∀{x:Int},dot n n*x=0->x=0:=λh=>(Qjf.1 h).resolve_left (by omega)
    exact Kb5 ht.ok (Qjbd (z p1) (z p2) (z p3))
   omega
  ·rw[Ab2];obtain⟨p1,p2,p3⟩:=par;show dot n n*-q.n.x=_/\dot n n*-q.n.y=_/\dot n n*-q.n.z=_;rw[Int.mul_neg,Int.mul_neg,Int.mul_neg,p1,p2,p3,Int.neg_mul,Int.neg_mul,Int.neg_mul];exact⟨rfl,rfl,rfl⟩
def Fv:V3:=⟨10000,100,1⟩
structure Crs(l:List V3)(p:Pln)(v:V3):Prop where
 h:∃u w,u∈l/\w∈l/\dot p.n u=p.b/\dot p.n w=p.b/\dot Fv w<dot Fv v/\dot Fv v<dot Fv u/\N3 v u w≠⟨0,0,0⟩
 on:dot p.n v=p.b
section
variable{l:List V3}(hl:l.all inV=true)
include hl
theorem Ec9(hs:Sol l){p q:Pln}(hp:gc5 l p)(hq:gc5 l q){u w x:V3}(hu:u∈l)(hw:w∈l)(hx:x∈l)(h3:N3 u w x≠⟨0,0,0⟩)(p1:dot p.n u=p.b)(p2:dot p.n w=p.b)(p3:dot p.n x=p.b)(q1:dot q.n u=q.b)(q2:dot q.n w=q.b)(q3:dot q.n x=q.b):p=q:=by
 have hi:=Qja.1 hl;have hT:=(ma0 (La2 (hi u hu) (hi w hw) (hi x hx) h3)).2;have fl:∀{p:Pln},gc5 l p->gc5 l (pa3 p)->False:=λ{p} h h'=>by
  obtain⟨v,hv,hne⟩:=hs.off (Kb5 h.ok) p.b;have a:=h.hd v hv;have c:=h'.hd v hv;rw[Ab2] at c;have c:-dot p.n v<=-p.b:=c;omega
 rcases Yb5 hT hp.ok p1 p2 p3 with e|e<;>rcases Yb5 hT hq.ok q1 q2 q3 with e'|e'
 ·rw[e,e']
 ·rw[e',<- e] at hq;exact (fl hp hq).elim
 ·rw[e,<- e'] at hp;exact (fl hq hp).elim
 ·rw[e,e']
end
theorem Yb7{α β:Type}{R:α->β->Prop}{X:List α}{L:List β}(hX:X.Nodup)(h:∀q∈X,∃y∈L,R q y)(hi:∀q∈X,∀r∈X,∀y,R q y->R r y->q=r):X.length<=L.length:=by
 have h':∀q:{ q // q∈X },∃y,y∈L/\R q.1 y:=λq=>by
  obtain⟨y,h1,h2⟩:=h q.1 q.2;exact⟨y,h1,h2⟩
 obtain⟨f,hf⟩:=Classical.axiomOfChoice h';have hn:(X.attach.map f).Nodup:=by
  unfold List.Nodup;rw[List.pairwise_map];have hXa:X.attach.Nodup:=by
   unfold List.Nodup;have h0:(X.attach.map Subtype.val).Nodup:=by rw[List.attach_map_subtype_val];exact hX
   unfold List.Nodup at h0;rw[List.pairwise_map] at h0;exact h0.imp λhne e=>hne (by rw[e])
  refine List.Pairwise.imp (λ{a c} hne e=>hne (Subtype.ext (hi a.1 a.2 c.1 c.2 (f a) (hf a).2 (by rw[e];exact (hf c).2)))) hXa
 have:=List.Nodup.length_le_of_subset hn λy hy=>by
  obtain⟨q,_,rfl⟩:=Qjd.1 hy;exact (hf q).1
 simpa using this
theorem bb1{n N d:V3}(h:d7 n N=⟨0,0,0⟩):dot N N*dot n d=dot n N*dot N d:=by
 have e:dot N N*dot n d-dot n N*dot N d=dot (d7 n N) (d7 d N):=by simp only[dot,d7];grind
 rw[h] at e;have z:dot ⟨0,0,0⟩ (d7 d N)=0:=by simp[dot]
 rw[z] at e;exact Int.eq_of_sub_eq_zero e
theorem kb0{n a c:V3}(h1:dot n a=0)(h2:dot n c=0):d7 n (d7 a c)=⟨0,0,0⟩:=by
 refine Qjbd ?_ ?_ ?_
 ·have:(d7 n (d7 a c)).x=a.x*dot n c-c.x*dot n a:=by simp only[d7,dot];grind
  rw[this,h1,h2];simp
 ·have:(d7 n (d7 a c)).y=a.y*dot n c-c.y*dot n a:=by simp only[d7,dot];grind
  rw[this,h1,h2];simp
 ·have:(d7 n (d7 a c)).z=a.z*dot n c-c.z*dot n a:=by simp only[d7,dot];grind
  rw[this,h1,h2];simp
theorem E4(n a c:V3):dot n (o8 a c)=dot n a-dot n c:=by simp only[dot,o8];grind
theorem Ed3 {l : List V3} (hl : l.all inV = true) {n u w x : V3} (hu : u ∈ l) (hw : w ∈ l) (hx : x ∈ l) (h3 : N3 u w x ≠ ⟨0, 0, 0⟩) (hle : ∀ v ∈ l, dot n v ≤ dot n u) (e1 : dot n w = dot n u) (e2 : dot n x = dot n u) (hoff : ∃ v ∈ l, dot n v ≠ dot n u) :
  ∃p,gc5 l p/\dot p.n u=p.b/\dot p.n w=p.b/\dot p.n x=p.b:=by
 have hi:=Qja.1 hl;have hT:=(ma0 (La2 (hi u hu) (hi w hw) (hi x hx) h3)).2;obtain⟨s1,s2,s3⟩:=Ec8 hT;have hT0:=hT;obtain⟨ok,⟨g,hg,g1,g2,g3'⟩,_⟩:=hT;generalize (I0 u w x).1=p at *
 have hN:dot (N3 u w x) (N3 u w x)>0:=Yb3 h3;have hpar:d7 n (N3 u w x)=⟨0,0,0⟩:=by
  have a1:dot n (o8 w u)=0:=by rw[E4];omega
  have a2:dot n (o8 x u)=0:=by rw[E4];omega
  exact kb0 a1 a2
 have hd:∀v,dot (N3 u w x) (N3 u w x)*(dot n v-dot n u)=dot n (N3 u w x)*(g*(dot p.n v-p.b)):=λv=>by
  rw[<- E4,bb1 hpar,<- s1];congr 1
  have:g*(dot p.n v-dot p.n u)=(g*p.n.x)*(v.x-u.x)+(g*p.n.y)*(v.y-u.y)+(g*p.n.z)*(v.z-u.z):=by simp only[dot];grind
  rw[this,g1,g2,g3'];simp only[N3,dot,o8,d7,sub]
 rcases Int.lt_trichotomy (dot n (N3 u w x)) 0 with h|h|h
 ·refine⟨pa3 p,Yb6 hu hw hx hT0 λv hv=>?_,(Ha1 p u).2 s1,(Ha1 p w).2 s2,(Ha1 p x).2 s3⟩
  rw[Ab2];show -dot p.n v<=-p.b;have k1:=hd v;have k2:dot (N3 u w x) (N3 u w x)*(dot n v-dot n u)<=0:=Qju (by omega) (by have:=hle v hv;omega)
  apply Qjk;intro hno
  have:=Qjat h (Int.mul_neg_of_pos_of_neg hg (show dot p.n v-p.b<0 by omega))
  omega
 ·exfalso;obtain⟨v,hv,hne⟩:=hoff;have k1:=hd v;rw[h,Qjac] at k1
  have:=(Qjf.1 k1).resolve_left (by omega)
  omega
 ·refine⟨p,sc4 hu hw hx hT0 λv hv=>?_,s1,s2,s3⟩
  have k1:=hd v;have k2:dot (N3 u w x) (N3 u w x)*(dot n v-dot n u)<=0:=Qju (by omega) (by have:=hle v hv;omega)
  apply Qjk;intro hno
  have:=Int.mul_pos h (Int.mul_pos hg (show 0<dot p.n v-p.b by omega))
  omega
structure Sim(l:List V3)(T:V3->V3):Prop where
 li:l.all inV=true
 mi:(l.map T).all inV=true
 dn:∀n:V3,∃n':V3,∃k:Int,0<k/\∀u∈l,∀w∈l,dot n' (T u)-dot n' (T w)=k*(dot n u-dot n w)
 up:∀n':V3,∃n:V3,∃k:Int,0<k/\∀u∈l,∀w∈l,dot n u-dot n w=k*(dot n' (T u)-dot n' (T w))
 n3:∀u∈l,∀w∈l,∀x∈l,N3 u w x≠⟨0,0,0⟩↔N3 (T u) (T w) (T x)≠⟨0,0,0⟩
theorem Xd2{k x:Int}(hk:0<k)(h:x<=0):k*x<=0:=Qju (by omega) h
theorem da4{k x:Int}(hk:0<k)(h:k*x=0):x=0:=(Qjf.1 h).resolve_left (by omega)
def Car(l:List V3)(T:V3->V3)(p q:Pln):Prop:=∃u w x,u∈l/\w∈l/\x∈l/\N3 u w x≠⟨0,0,0⟩/\(dot p.n u=p.b/\dot p.n w=p.b/\dot p.n x=p.b)/\dot q.n (T u)=q.b/\dot q.n (T w)=q.b/\dot q.n (T x)=q.b/\(∀v∈l,dot p.n v=p.b↔dot q.n (T v)=q.b)
section
variable{l:List V3}{T:V3->V3}(h:Sim l T)(hs:Sol l)(hs':Sol (l.map T))
include h hs hs'
theorem Sim.mem{v:V3}(hv:v∈l):T v∈l.map T:=Qjd.2 ⟨v,hv,rfl⟩
theorem Sim.down{q:Pln}(hq:q∈F0 (l.map T)):∃p∈F0 l,Car l T p q:=by
 have hf:=(R6 h.mi q).1 hq;obtain⟨u',w',x',hu',hw',hx',h3,t1,t2,t3⟩:=hf.on;obtain⟨u,hu,rfl⟩:=Qjd.1 hu';obtain⟨w,hw,rfl⟩:=Qjd.1 hw';obtain⟨x,hx,rfl⟩:=Qjd.1 hx';obtain⟨n,k,hk,hn⟩:=h.up q.n;have h3':=(h.n3 u hu w hw x hx).2 h3;have hle:∀v∈l,dot n v<=dot n u:=λv hv=>by
  have e:=hn v hv u hu
  have:=Xd2 hk (show dot q.n (T v)-dot q.n (T u)<=0 by have:=hf.hd _ (Sim.mem h hs hs' hv);omega)
  omega
 have e1:dot n w=dot n u:=by
  have e:=hn w hw u hu;rw[t2,t1,Qjaj,Qjm] at e;omega
 have e2:dot n x=dot n u:=by
  have e:=hn x hx u hu;rw[t3,t1,Qjaj,Qjm] at e;omega
 have hoff:∃v∈l,dot n v≠dot n u:=by
  obtain⟨v',hv',hne⟩:=hs'.off (Kb5 hf.ok) q.b;obtain⟨v,hv,rfl⟩:=Qjd.1 hv';refine⟨v,hv,λe=>hne ?_⟩
  have e':=hn v hv u hu
  have:=da4 hk (show k*(dot q.n (T v)-dot q.n (T u))=0 by omega)
  omega
 obtain⟨p,hp,p1,p2,p3⟩:=Ed3 h.li hu hw hx h3' hle e1 e2 hoff;refine⟨p,(R6 h.li p).2 hp,u,w,x,hu,hw,hx,h3',⟨p1,p2,p3⟩,t1,t2,t3,λv hv=>?_⟩
 -- on p if and only if n is highest there
 have hT:=(ma0 (La2 (Qja.1 h.li u hu) (Qja.1 h.li w hw) (Qja.1 h.li x hx) h3')).2;have hN:dot (N3 u w x) (N3 u w x)>0:=Yb3 h3';have c1:d7 n (N3 u w x)=⟨0,0,0⟩:=kb0 (by rw[E4];omega) (by rw[E4];omega)
 have c2:d7 p.n (N3 u w x)=⟨0,0,0⟩:=kb0 (by rw[E4];omega) (by rw[E4];omega)
 have d1:=bb1 (d:=o8 v u) c1;have d2:=bb1 (d:=o8 v u) c2;rw[E4] at d1 d2;have n1:dot n (N3 u w x)≠0:=λe=>by
  obtain⟨v0,hv0,hne⟩:=hoff;have d0:=bb1 (d:=o8 v0 u) c1;rw[E4,e,Qjac] at d0
  have:=da4 hN d0
  omega
 have n2:dot p.n (N3 u w x)≠0:=λe=>by
  obtain⟨v0,hv0,hne⟩:=hs.off (Kb5 hp.ok) p.b;have d0:=bb1 (d:=o8 v0 u) c2;rw[E4,e,Qjac] at d0
  have:=da4 hN d0
  omega
 have e':=hn v hv u hu;constructor
 ·intro hv';rw[show dot p.n v-dot p.n u=0 by omega,Qjm] at d2
  have z:=(Qjf.1 d2.symm).resolve_left n2;rw[z,Qjm] at d1
  have:=da4 hN d1
  have:=da4 hk (show k*(dot q.n (T v)-dot q.n (T u))=0 by omega)
  omega
 ·intro hv';rw[hv',t1,Qjaj,Qjm] at e';rw[e',Qjm] at d1;have z:=(Qjf.1 d1.symm).resolve_left n1;rw[z,Qjm] at d2
  have:=da4 hN d2
  omega
theorem Sim.upf{p:Pln}(hp:p∈F0 l):∃q∈F0 (l.map T),Car l T p q:=by
 have hf:=(R6 h.li p).1 hp;obtain⟨u,w,x,hu,hw,hx,h3,t1,t2,t3⟩:=hf.on;obtain⟨n,k,hk,hn⟩:=h.dn p.n;have h3':=(h.n3 u hu w hw x hx).1 h3;obtain⟨q,hq,q1,q2,q3⟩:=Ed3 (n:=n) h.mi (Sim.mem h hs hs' hu) (Sim.mem h hs hs' hw) (Sim.mem h hs hs' hx) h3' (λv' hv'=>by
  obtain⟨v,hv,rfl⟩:=Qjd.1 hv';have e:=hn v hv u hu
  have:=Xd2 hk (show dot p.n v-dot p.n u<=0 by have:=hf.hd v hv;omega)
  omega) (by
  have e:=hn w hw u hu;rw[t2,t1,Qjaj,Qjm] at e
  omega) (by
  have e:=hn x hx u hu;rw[t3,t1,Qjaj,Qjm] at e
  omega) (by
  obtain⟨v,hv,hne⟩:=hs.off (Kb5 hf.ok) p.b;refine⟨T v,Sim.mem h hs hs' hv,λe=>hne ?_⟩
  have e':=hn v hv u hu
  have:=da4 hk (show k*(dot p.n v-dot p.n u)=0 by omega)
  omega)
 obtain⟨p2,hp2,u',w',x',hu',hw',hx',h3'',on2,r1,r2,r3,hall⟩:=Sim.down h hs hs' ((R6 h.mi q).2 hq);have e:p2=p:=Ec9 h.li hs ((R6 h.li p2).1 hp2) hf hu hw hx h3 ((hall u hu).2 q1) ((hall w hw).2 q2) ((hall x hx).2 q3) t1 t2 t3;subst e;exact⟨q,(R6 h.mi q).2 hq,u',w',x',hu',hw',hx',h3'',on2,r1,r2,r3,hall⟩
theorem Sim.len:(F0 (l.map T)).length=(F0 l).length:=by
 refine Nat.le_antisymm ?_ ?_
 ·refine Yb7 (R:=λq p=>Car l T p q) (Rc3 (yd3 _)) (λq hq=>Sim.down h hs hs' hq) λq hq r hr p h1 h2=>?_
  obtain⟨u,w,x,hu,hw,hx,h3,⟨p1,p2,p3⟩,q1,q2,q3,_⟩:=h1;obtain⟨_,_,_,_,_,_,_,_,_,_,_,hall⟩:=h2;exact Ec9 h.mi hs' ((R6 h.mi q).1 hq) ((R6 h.mi r).1 hr) (Sim.mem h hs hs' hu) (Sim.mem h hs hs' hw) (Sim.mem h hs hs' hx) ((h.n3 u hu w hw x hx).1 h3) q1 q2 q3 ((hall u hu).1 p1) ((hall w hw).1 p2) ((hall x hx).1 p3)
 ·refine Yb7 (R:=λp q=>Car l T p q) (Rc3 (yd3 _)) (λp hp=>Sim.upf h hs hs' hp) λp hp r hr q h1 h2=>?_
  obtain⟨u,w,x,hu,hw,hx,h3,⟨p1,p2,p3⟩,q1,q2,q3,_⟩:=h1;obtain⟨_,_,_,_,_,_,_,_,_,_,_,hall⟩:=h2;exact Ec9 h.li hs ((R6 h.li p).1 hp) ((R6 h.li r).1 hr) hu hw hx h3 p1 p2 p3 ((hall u hu).2 q1) ((hall w hw).2 q2) ((hall x hx).2 q3)
end
end Go.Ev.Ce
namespace Go.Ev.Ce
open Go Go.Ev Go.Ev.L Go.Proofs Go.Sort
def eqV(x y:V3):Bool:=x.x==y.x&&(x.y==y.y&&(x.z==y.z&&true))
theorem Yb8(x y:V3):eqV x y=true↔x=y:=by
 unfold eqV;simp only[Qjt,Qjl,beq_iff_eq];refine⟨λ⟨h1,h2,h3⟩=>Qjbd h1 h2 h3,λh=>by subst h;exact⟨rfl,rfl,rfl⟩⟩
theorem Na7{l:List V3}{j:Nat}(h:j<l.length):ldR tV (bL tV l) (0+j)=true:=by rw[Qjh];exact ud7 tV h
theorem Ha2{l:List V3}{j:Nat}(h:j<l.length):rdR tV (bL tV l) (0+j)=gL tV l j:=by rw[Qjh];exact ud6 tV h
theorem od1(l:List V3)(n:Nat):I1 (bL tV l) n=bL tV (l.take n):=by unfold bL;rw[I8,m9,m9,List.map_take]
theorem Fc0(l:List V3)(n:Nat):j6 (bL tV l) n=bL tV (l.drop n):=by unfold bL;rw[F7,m9,m9,List.map_drop]
theorem od2(n:Nat):List.replicate n [i 0,i 0,i 0]=bL tV (List.replicate n ⟨0,0,0⟩):=by unfold bL;rw[m9,List.map_replicate];rfl
def dvF:V3->List V3->List V3
 |_,[]=>[]
 |a,x::l=>if eqV x a then dvF x l else x::dvF x l
def ddV:List V3->List V3
 |[]=>[]
 |x::l=>x::dvF x l
structure Xd3(l:List V3)(n:Nat)(cur:List V3)(m j:Nat)(R:List V3):Prop where
 len:cur.length=l.length
 t:cur.take m++dvF (gL tV l (j-1)) ((l.take n).drop j)=R
 d:cur.drop (j-1)=l.drop (j-1)
 le:m+1<=j
theorem Lc9 (l : List V3) (n o : Nat) (hn : n ≤ l.length) (hl : l.length ≤ 1000000000) (ho : o < n) (m : Nat) (cur : List V3) (R : List V3) (hd : Xd3 l n cur m (o + 1) R) :
  ∃t s,lp (p5 ⟨n,0+o,n-o⟩) ⟨(m:Int),((1:Nat):Int),bL tV cur⟩=(t,s)/\(t=1/\∃m' cur' k,s=⟨((m':Nat):Int),k,bL tV cur'⟩/\cur'.length=l.length/\cur'.take m'=R/\m'<=n):=by
 refine aa3 (step:=p5 ⟨n,0+o,n-o⟩) (mk:=λj (x:Nat×List V3)=>(⟨(x.1:Int),(j:Int),bL tV x.2⟩:o6)) (n-o) (λj x=>Xd3 l n x.2 x.1 (o+j) R/\1<=j/\x.1<=n) (λt s=>t=1/\∃m' cur' k,s=⟨((m':Nat):Int),k,bL tV cur'⟩/\cur'.length=l.length/\cur'.take m'=R/\m'<=n) (by omega) (λj x hj hx=>?_) (λj x hj hx=>?_) 1 (m,cur) ⟨hd,Qjn _,by have:=hd.le;show m<=n;omega⟩
 ·obtain⟨m,cur⟩:=x;obtain⟨⟨h1,h2,h3,h4⟩,hj1,hmn⟩:=hx
  simp only at h1 h2 h3 h4 hmn
  have hoj:o+j<n:=by omega
  have hjc:o+j<cur.length:=by omega
  have hjc':o+(j-1)<cur.length:=by omega
  have hmc:m<cur.length:=by omega
  have hg':gL tV cur (o+(j-1))=gL tV l (o+j-1):=by rw[show o+(j-1)=o+j-1 by omega];exact fc9 tV h3
  have hd1:cur.drop (o+j)=l.drop (o+j):=by have:=Wb8 h3 1;rw[show o+j-1+1=o+j by omega] at this;exact this
  have hg:gL tV cur (o+j)=gL tV l (o+j):=fc9 tV hd1;have hWm:W ((m:Int)+1)=((m+1:Nat):Int):=by rw[aa4 (by omega) (by omega)];omega
  have hWj:W ((j:Int)-1)=((j-1:Nat):Int):=by rw[aa4 (by omega) (by omega)];omega
  have hb:Nat.blt m cur.length=true:=by rw[Nat.blt_eq];exact hmc
  have hrow:i8 (bL tV cur) m=tV.row (gL tV cur m):=O3 tV hmc;have sp:∀(v:V3) (x1 x2 x3:Int),C9 (tV.row v) 0 [i x1,i x2,i x3]=tV.row ⟨x1,x2,x3⟩:=λ_ _ _ _=>rfl
  have rl:∀v:V3,Nat.ble 3 (len (tV.row v))=true:=λ_=>rfl
  simp only[p5,K7,Int.toNat_natCast,Qjh,hWj,ud7 tV hjc,ud7 tV hjc',ud6 tV hjc,ud6 tV hjc',E6 hj (show n-o<=4611686018427387904 by omega),hWm,hg,hg',hrow,ka7,hb,sp,rl,za9,j9 (show m<n by omega)]
  rw[btD (q7 hj)];simp only[j9 hj,j9 (show j-1<n-o by omega),r5,Bool.and_self]
  rw[show ((gL tV l (o+j)).x==(gL tV l (o+j-1)).x&&((gL tV l (o+j)).y==(gL tV l (o+j-1)).y&&((gL tV l (o+j)).z==(gL tV l (o+j-1)).z&&true)))=eqV (gL tV l (o+j)) (gL tV l (o+j-1)) from rfl]
  have hcons:(l.take n).drop (o+j)=gL tV l (o+j)::(l.take n).drop (o+(j+1)):=by
   rw[Qjau (by rw[Qje];omega),List.getElem_take,Za9 tV (by omega)]
   rfl
  rw[hcons] at h2;have hlast:o+(j+1)-1=o+j:=by omega
  unfold dvF at h2;cases he:eqV (gL tV l (o+j)) (gL tV l (o+j-1)) with
  |true =>
   rw[he] at h2;simp only[if_true] at h2;refine .nx ⟨(m,cur),rfl,⟨⟨h1,?_,?_,by show m+1<=o+(j+1);omega⟩,by omega,hmn⟩⟩
   ·rw[hlast];exact h2
   ·rw[hlast];exact hd1
  |false =>
   rw[he] at h2;simp only[Qji,if_false] at h2;refine .nx ⟨(m+1,cur.set m (gL tV l (o+j))),rfl,⟨⟨by rw[Qjz];exact h1,?_,?_,by show m+1+1<=o+(j+1);omega⟩,by omega,by show m+1<=n;omega⟩⟩
   ·rw[hlast];show (cur.set m (gL tV l (o+j))).take (m+1)++_=R;rw[Qjam (by rw[Qjz];exact hmc),Qjba,List.take_set_of_le (Qjn _),List.append_assoc]
    exact h2
   ·rw[hlast];show (cur.set m (gL tV l (o+j))).drop (o+j)=_;rw[List.drop_set_of_lt (by omega),hd1]
 ·obtain⟨m,cur⟩:=x;obtain⟨⟨h1,h2,h3,h4⟩,hj1,hmn⟩:=hx
  simp only at h1 h2 h3 h4 hmn
  refine⟨1,?_,rfl,m,cur,_,rfl,h1,?_,hmn⟩
  ·simp only[p5,K7];rw[bfD (by omega)]
  ·rw[Qjaz (by rw[Qje];omega)] at h2
   unfold dvF at h2;rw[Qjs] at h2;exact h2
theorem od3 (l : List V3) (n : Nat) (hn : n ≤ l.length) (hl : l.length ≤ 1000000000) :
  ∃m r,L8 ⟨n,bL tV l⟩=⟨1,m,bL tV r⟩/\m<=r.length/\r.take m=ddV (l.take n)/\r.length=l.length:=by
 unfold L8 L7
 simp only
 by_cases h2:(n:Int)<2
 ·rw[btD h2];refine⟨n,l,rfl,hn,?_,rfl⟩
  have:n=0\/n=1:=by omega
  rcases this with rfl|rfl
  ·rfl
  ·cases l with
   |nil=>rfl
   |cons x l=>rfl
 ·rw[bfD h2];have h1n:1<=n:=by omega
  have hI : ∀ j, j < n → 1 ≤ j → l.take j ++ dvF (gL tV l (j - 1)) ((l.take n).drop j) = ddV (l.take n) →
    (eqV (gL tV l j) (gL tV l (j-1))=true->Xd3 l n l j (j+1) (ddV (l.take n)))/\(eqV (gL tV l j) (gL tV l (j-1))=false->l.take (j+1)++dvF (gL tV l (j+1-1)) ((l.take n).drop (j+1))=ddV (l.take n)):=by
   intro j hj hj1 hR;have hcons:(l.take n).drop j=gL tV l j::(l.take n).drop (j+1):=by
    rw[Qjau (by rw[Qje];omega),List.getElem_take,Za9 tV (by omega)]
   rw[hcons] at hR;unfold dvF at hR;constructor
   ·intro he;rw[he] at hR;simp only[if_true] at hR;exact⟨rfl,hR,rfl,Qjn _⟩
   ·intro he;rw[he] at hR;simp only[Qji,if_false] at hR;rw[ab7 tV (show j<l.length by omega),List.append_assoc]
    exact hR
  have inner:∀k,k<n->1<=k->Xd3 l n l k (k+1) (ddV (l.take n))->∃m' cur' k',lp (p5 ⟨n,0+k,n-k⟩) ⟨(k:Int),1,bL tV l⟩=(1,⟨((m':Nat):Int),k',bL tV cur'⟩)/\cur'.length=l.length/\cur'.take m'=ddV (l.take n)/\m'<=n:=by
   intro k hk hk1 hc;obtain⟨t,s,e1,rfl,m',cur',k',rfl,e2,e3,e4⟩:=Lc9 l n k hn hl hk k l _ hc;exact⟨m',cur',k',e1,e2,e3,e4⟩
  have key:=aa3 (step:=L6 ⟨n,bL tV l⟩) (mk:=λj (_:Unit)=>(⟨(j:Int)⟩:p9)) n (λj _=>1<=j/\j<=n/\l.take j++dvF (gL tV l (j-1)) ((l.take n).drop j)=ddV (l.take n))
   (λt s=>(t=1/\∃k:Nat,s=⟨(k:Int)⟩/\k<n/\1<=k/\Xd3 l n l k (k+1) (ddV (l.take n)))\/(t=2/\l.take n=ddV (l.take n))) (by omega) (λj x hj hx=>?_) (λj x hj hx=>?_) 1 () ⟨Qjn _,h1n,by
    cases l with
    |nil=>simp only[List.length_nil] at hn;omega
    |cons x l =>
     cases n with
     |zero=>omega
     |succ n=>rfl⟩
  ·obtain⟨t,s,e1,e2⟩:=key;rw[show (⟨1⟩:p9)=⟨((1:Nat):Int)⟩ from rfl,e1]
   rcases e2 with⟨rfl,k,rfl,hk,hk1,hc⟩|⟨rfl,he⟩
   ·obtain⟨m',cur',k',e2,e3,e4,e5⟩:=inner k hk hk1 hc;simp only[Int.toNat_natCast,e2];simp only[Qjh,Nat.sub_zero];refine⟨m',cur'.take m'++(List.replicate (n-m') ⟨0,0,0⟩++cur'.drop (m'+(n-m'))),?_,?_,?_,?_⟩
    ·rw[od1,od2,Fc0,Ta5,Ta5];rfl
    ·rw[Qjc,Qje,e3];omega
    ·rw[Qjab (by rw[Qje,e3];omega),Qjbb,Nat.min_self,e4]
    ·rw[Qjc,Qjc,Qje,Qjbc,Qjax,e3];omega
   ·exact⟨n,l,rfl,hn,he,rfl⟩
  ·obtain⟨hj1,hjn,hR⟩:=hx;obtain⟨i1,i2⟩:=hI j hj hj1 hR;have hWj:W ((j:Int)-1)=((j-1:Nat):Int):=by rw[aa4 (by omega) (by omega)];omega
   have hjl:j<l.length:=by omega
   have hjl':j-1<l.length:=by omega
   simp only[L6,K8,Int.toNat_natCast,hWj,Na7 hjl,Na7 hjl',Ha2 hjl,Ha2 hjl',E6 hj (show n<=4611686018427387904 by omega)]
   rw[btD (q7 hj),bt (j9 hj),bt (j9 (show j-1<n by omega)),bt (j9 (show j<n+1 by omega))]
   simp only[r5];rw[show ((gL tV l j).x==(gL tV l (j-1)).x&&((gL tV l j).y==(gL tV l (j-1)).y&&((gL tV l j).z==(gL tV l (j-1)).z&&true)))=eqV (gL tV l j) (gL tV l (j-1)) from rfl]
   cases he:eqV (gL tV l j) (gL tV l (j-1)) with
   |false=>exact .nx ⟨(),rfl,by omega,by omega,i2 he⟩
   |true =>
    obtain⟨m',cur',k',e2,e3,e4,e5⟩:=inner j hj hj1 (i1 he);rw[e2];simp only[j9 (show m'<n+1 by omega)]
    exact .ex (.inl ⟨rfl,j,rfl,hj,hj1,i1 he⟩)
  ·obtain⟨hj1,hjn,hR⟩:=hx;refine⟨2,?_,.inr ⟨rfl,?_⟩⟩
   ·simp only[L6,K8];rw[bfD (by omega)]
   ·have:j=n:=by omega
    subst this;rw[Qjaz (by rw[Qje];omega)] at hR
    unfold dvF at hR;rw[Qjs] at hR;exact hR
def gc6(l:List V3):Prop:=l.Pairwise LtV
theorem Eb6{x y z:V3}(h1:LtV x y)(h2:LtV y z):LtV x z:=by unfold LtV at *;omega
theorem Yb9(x:V3):¬ LtV x x:=by unfold LtV;omega
theorem Ed4(x y:V3):LtV x y\/x=y\/LtV y x:=by
 by_cases h1:LtV x y
 ·exact .inl h1
 ·by_cases h2:LtV y x
  ·exact .inr (.inr h2)
  ·refine .inr (.inl ?_);unfold LtV at h1 h2;exact Qjbd (by omega) (by omega) (by omega)
theorem yd4(l:List V3):List.Perm (qb3 l) l:=List.mergeSort_perm l _
theorem Md3(x y z:V3)(h1:(!ltOf xa1 y x)=true)(h2:(!ltOf xa1 z y)=true):(!ltOf xa1 z x)=true:=by
 rw[ya2] at *
 simp only[Bool.not_eq_true',decide_eq_false_iff_not] at *
 unfold LtV at *
 omega
theorem Md4(x y:V3):((!ltOf xa1 y x)||(!ltOf xa1 x y))=true:=by
 rw[ya2,ya2];by_cases h:LtV y x
 ·have h2:¬ LtV x y:=λh2=>Yb9 x (Eb6 h2 h)
  simp[h2]
 ·simp[h]
theorem bd6(l:List V3):(qb3 l).Pairwise λx y=>(!ltOf xa1 y x)=true:=List.pairwise_mergeSort Md3 Md4 l
theorem Ed5(p:V3):∀(a:V3) (l:List V3),p∈a::dvF a l↔p∈a::l
 |a,[]=>by simp[dvF]
 |a,x::l=>by
  have ih:=Ed5 p x l;unfold dvF;split
  ·rename_i h;rw[Yb8] at h;subst h;rw[ih];simp
  ·simp only[Qjx] at ih ⊢;rw[ih]
theorem se8(p:V3):∀l:List V3,p∈ddV l↔p∈l
 |[]=>Iff.rfl
 |x::l=>Ed5 p x l
theorem Ed6:∀(a:V3) (l:List V3),(a::l).Pairwise (λx y=>(!ltOf xa1 y x)=true)->gc6 (a::dvF a l)
 |a,[],_=>List.pairwise_singleton _ _
 |a,x::l,h=>by
  obtain⟨h1,h2⟩:=Qjaq.1 h;have ih:=Ed6 x l h2;have hle:=h1 x Qjy;rw[ya2] at hle;have hle:¬ LtV x a:=by simpa using hle
  unfold dvF;split
  ·rename_i he;rw[Yb8] at he;subst he;exact ih
  ·rename_i hne;have hlt:LtV a x:=by
    rcases Ed4 a x with h|h|h
    ·exact h
    ·exact absurd ((Yb8 _ _).2 h.symm) hne
    ·exact absurd h hle
   refine Qjaq.2 ⟨λp hp=>?_,ih⟩
   rcases Qjx.1 hp with e|hp'
   ·subst e;exact hlt
   ·exact Eb6 hlt ((Qjaq.1 ih).1 p hp')
theorem Xd4(l:List V3):gc6 (ddV (qb3 l)):=by
 have h:=bd6 l;cases hs:qb3 l with
 |nil=>exact .nil
 |cons a l'=>rw[hs] at h;exact Ed6 a l' h
def dis(l:List V3):List V3:=ddV (qb3 l)
theorem Zb0(l:List V3)(v:V3):v∈dis l↔v∈l:=by unfold dis;rw[se8,(yd4 l).mem_iff]
theorem Rc5(l:List V3):(dis l).Nodup:=List.Pairwise.imp (λ{x y} (h:LtV x y) (e:x=y)=>Yb9 y (e ▸ h)) (Xd4 l)
theorem bd7(l:List V3):(dis l).length<=l.length:=by
 have:=List.Nodup.length_le_of_subset (Rc5 l) (λv hv=>(Zb0 l v).1 hv)
 exact this
theorem Rc6(l:List V3)(n:Nat)(hn:n<=l.length):slR tV (bL tV l) 0 n=l.take n:=wc6 tV (by rw[Qje];omega) λk hk=>by
 rw[Qjh,O3 tV (by omega)]
 congr 1;simp[gL,Qjah,List.getElem?_take,hk]
theorem gc7(l:List V3)(n:Nat)(hn:n<=l.length):okS tV (bL tV l) 0 n=true:=lb4 tV (f:=λk=>gL tV l k) λk hk=>by rw[Qjh,O3 tV (by omega)]
theorem Rc7(a:V3)(l:List V3)(hl:l.length<=1000000):Z8 (a,l)=⟨1,(a::l).length,bL tV (a::l)⟩:=by
 have ec:p7 (λk=>tV.row (gL tV (a::l) k)) (List.range (l.length+1))=bL tV (a::l):=wc7 tV (a::l)
 unfold Z8 P8;simp only[ec,ka7];have r:Nat.ble ((0+(a::l).length)*24) room=true:=by rw[Qjav];unfold room;simp only[List.length_cons];omega
 rw[r,Qjh];rfl
theorem Zb1(a:V3)(l:List V3)(hl:l.length<=1000000):∃m r,L8 ⟨(a::l).length,app (bL tV (qb3 (slR tV (bL tV (a::l)) 0 (a::l).length))) (j6 (bL tV (a::l)) (a::l).length)⟩=⟨1,m,bL tV r⟩/\m<=r.length/\r.take m=dis (a::l)/\r.length=l.length+1:=by
 have hs:(qb3 (a::l)).length=(a::l).length:=Qc5 _;rw[vb0,Fc0,Ta5];obtain⟨m,r,k1,k2,k3,k4⟩:=od3 (qb3 (a::l)++(a::l).drop (a::l).length) (a::l).length (by rw[Qjc,hs];omega) (by rw[Qjc,hs,Qjax];simp only[List.length_cons];omega)
 refine⟨m,r,k1,k2,?_,by rw[k4,Qjc,hs,Qjax];simp only[List.length_cons];omega⟩
 rw[k3,Qjab (by rw[hs];omega),List.take_of_length_le (by rw[hs];omega)]
 rfl
theorem od4(l:List V3)(hl:l.length<=2000000)(r:List V3):(Bool.and (Nat.ble l.length room) (Bool.and (Nat.ble l.length (len (bL tV (l++r)))) (okS tV (bL tV (l++r)) 0 l.length)))=true:=by
 rw[gc7 _ _ (by rw[Qjc];omega),ka7,Qjl,Qjl,Qjav,Qjav]
 refine⟨by unfold room;omega,by rw[Qjc];omega,rfl⟩
theorem kc8(a:V3)(l:List V3)(hl:l.length<=1000000):Rd (one (r1L tV)) (ja2 (a,l)) (λr=>r=dis (a::l)):=by
 obtain⟨m,r,k1,k2,k3,_⟩:=Zb1 a l hl;have hok:okL tV (l.length+1) (λk=>tV.row (gL tV (a::l) k))=true:=lb4 tV (f:=λk=>gL tV (a::l) k) λ_ _=>rfl
 have hr:=od4 (a::l) (by simp only[List.length_cons];omega) []
 rw[Qjs] at hr;unfold ja2;simp only[Bd3,Bd4,Rc7 a l hl,hok,k1,r5,Qjw,hr];refine⟨_,r.take m,rfl,?_,k3⟩;show Bool.rec (motive:=λ_=>Option (List V3)) none (some (slR tV (bL tV r) 0 m)) (Bool.and true (okS tV (bL tV r) 0 m))=_
 rw[Rc6 r m k2,gc7 r m k2];rfl
theorem yd5(a:V3)(l:List V3)(hl:l.length<=1000000):Ma6 (a,l)=dis (a::l):=(kc8 a l hl).p
theorem yd6(a:V3)(l:List V3)(hl:l.length<=1000000):Ma7 (a,l)=true:=(kc8 a l hl).g
end Go.Ev.Ce
namespace Go.Ev.Ce
open Go Go.Ev Go.Ev.L Go.Proofs
theorem Xd5(v:V3)(p:Pln):Ia9 ⟨v.x,v.y,v.z,p.n.x,p.n.y,p.n.z,p.b⟩=⟨1,ea5 p v != 0⟩:=by
 unfold Ia9 ja9;simp only[sc2,sc3,r5]
theorem he0(l:List V3)(p:Pln)(hl:l.length<=1000000000):S9 ⟨l,p.n.x,p.n.y,p.n.z,p.b⟩=⟨1,if l.any (λv=>ea5 p v != 0) then ((l.findIdx (λv=>ea5 p v != 0):Nat):Int) else -1⟩:=by
 have h:=Pa9 (step:=F9 ⟨l,(l.length:Int),p.n.x,p.n.y,p.n.z,p.b⟩) (mk:=λj=>(⟨(j:Int)⟩:o1)) (c:=λv=>ea5 p v != 0) (u:=1) (fin:=2) tV l hl
  (λj hj=>by
   simp only[F9,D7,Int.toNat_natCast,Xd5,E6 hj (by omega)]
   rw[bt (Ac3 hj),bt (j9 hj)]
   rfl)
  (by simp only[F9,D7];rw[bf (Ub9 (Qjg _))]) 0 (Qjo _)
 rw[Qjr] at h;unfold S9 E7;simp only[w5,o9];rw[show (⟨0⟩:o1)=⟨((0:Nat):Int)⟩ from rfl,h]
 split
 ·simp only[Qjh];rfl
 ·rfl
theorem Ed7(l:List V3)(p:Pln)(hl:l.length<=1000000000):o7 ⟨l,p.n.x,p.n.y,p.n.z,p.b⟩=⟨1,l.any λv=>ea5 p v != 0⟩:=by
 unfold o7 z8;simp only[w5,o9,he0 l p hl];split
 ·rename_i h;rw[h,show decide (((l.findIdx (λv=>ea5 p v != 0):Nat):Int)>=0)=true from decide_eq_true (by omega)];rfl
 ·rename_i h;rw[Qjad] at h;rw[h];rfl
theorem he3(v:V3)(p:Pln):wa0 ⟨v.x,v.y,v.z,p.n.x,p.n.y,p.n.z,p.b⟩=⟨1,decide (ea5 p v>0)⟩:=by
 unfold wa0 ba5;simp only[sc2,sc3,r5]
theorem he4(l:List V3)(p:Pln)(hl:l.length<=1000000000):T2 ⟨l,p.n.x,p.n.y,p.n.z,p.b⟩=⟨1,if l.any (λv=>decide (ea5 p v>0)) then ((l.findIdx (λv=>decide (ea5 p v>0)):Nat):Int) else -1⟩:=by
 have h:=Pa9 (step:=G3 ⟨l,(l.length:Int),p.n.x,p.n.y,p.n.z,p.b⟩) (mk:=λj=>(⟨(j:Int)⟩:o2)) (c:=λv=>decide (ea5 p v>0)) (u:=1) (fin:=2) tV l hl
  (λj hj=>by
   simp only[G3,D8,Int.toNat_natCast,he3,E6 hj (by omega)]
   rw[bt (Ac3 hj),bt (j9 hj)]
   rfl)
  (by simp only[G3,D8];rw[bf (Ub9 (Qjg _))]) 0 (Qjo _)
 rw[Qjr] at h;unfold T2 E8;simp only[w5,o9];rw[show (⟨0⟩:o2)=⟨((0:Nat):Int)⟩ from rfl,h]
 split
 ·simp only[Qjh];rfl
 ·rfl
theorem he5(l:List V3)(p:Pln)(hl:l.length<=1000000000):N4 ⟨l,p.n.x,p.n.y,p.n.z,p.b⟩=⟨1,l.any λv=>decide (ea5 p v>0)⟩:=by
 unfold N4 A0;simp only[w5,o9,he4 l p hl];split
 ·rename_i h;rw[h,show decide (((l.findIdx (λv=>decide (ea5 p v>0)):Nat):Int)>=0)=true from decide_eq_true (by omega)];rfl
 ·rename_i h;rw[Qjad] at h;rw[h];rfl
def bey(l:List V3)(p:Pln):Bool:=l.any λv=>decide (ea5 p v>0)
theorem Rc8(l:List V3)(p:Pln)(hl:l.length<=1000000000):ta8 l p=some (b (bey l p),[]):=by
 unfold ta8;simp only[w5,o9,he5 l p hl];rfl
theorem Xd6(l:List V3)(p:Pln)(hl:l.length<=1000000000):X9 l p=bey l p:=by unfold X9;rw[Rc8 l p hl];rfl
theorem Xd7(l:List V3)(p:Pln)(hl:l.length<=1000000000):H9 l p=true:=by unfold H9;rw[Rc8 l p hl];rfl
theorem Rc9{α:Type}(t:Ty α)(l:List α){j k:Nat}(h:k<j):gL t (l.take j) k=gL t l k:=by
 simp[gL,Qjah,List.getElem?_take,h]
theorem Xd8 (l : List V3) (i j : Nat) (hi : i < l.length) (hj : j < i) (hl : l.length ≤ 1000000) :
  lp (N0 ⟨(i:Int),(j:Int),(l.length:Int),(i:Int),(i:Int),(j:Int),(j:Int),l,l⟩) ⟨0⟩ =
   if (l.take j).any (λv=>(I0 v (gL tV l j) (gL tV l i)).2) then (1,⟨((l.take j).findIdx (λv=>(I0 v (gL tV l j) (gL tV l i)).2):Nat)⟩) else (2,⟨(j:Int)⟩):=by
 have hlen:(l.take j).length=j:=by rw[Qje];omega
 have h:=Pa9 (step:=N0 ⟨(i:Int),(j:Int),(l.length:Int),(i:Int),(i:Int),(j:Int),(j:Int),l,l⟩) (mk:=λk=>(⟨(k:Int)⟩:H8)) (c:=λv=>(I0 v (gL tV l j) (gL tV l i)).2) (u:=1) (fin:=2) tV (l.take j) (by omega)
  (λk hk=>by
   rw[hlen] at hk;simp only[N0,ia9,Int.toNat_natCast,nb5,Ob7,Rc9 tV l hk,w5,o9,Ed7 l _ (show l.length<=1000000000 by omega),E6 hk (by omega)]
   rw[btD (q7 hk),bt (j9 (by omega)),bt (j9 (by omega)),bt (j9 hi),r5]
   cases (I0 (gL tV l k) (gL tV l j) (gL tV l i)).2<;>rfl)
  (by rw[hlen];simp only[N0,ia9];rw[bfD (y5 (Qjg _))]) 0 (Qjo _)
 rw[Qjr,hlen] at h;rw[show (⟨0⟩:H8)=⟨((0:Nat):Int)⟩ from rfl,h]
 split
 ·simp only[Qjh]
 ·rfl
def ixs(n:Nat):List Int:=(List.range n).map λk:Nat=>(k:Int)
theorem Ra0(n:Nat):(ixs n).length=n:=by simp[ixs]
theorem Ed8{n k:Nat}(h:k<n):gL tI (ixs n) k=(k:Int):=by
 simp[gL,ixs,Qjah,List.getElem?_map,List.getElem?_range h]
def sp2(l:List V3)(i:Nat)(m:Int):Bool:=(l.take m.toNat).any λv=>(I0 v (gL tV l m.toNat) (gL tV l i)).2
theorem Xd9 (l : List V3) (i : Nat) (hi : i < l.length) (hl : l.length ≤ 1000000) :
  lp (S1 ⟨(i:Int),(l.length:Int),(i:Int),(i:Int)⟩) ⟨0,l,l⟩=if (ixs i).any (sp2 l i) then (1,⟨((ixs i).findIdx (sp2 l i):Nat),l,l⟩) else (2,⟨(i:Int),l,l⟩):=by
 have h:=Pa9 (step:=S1 ⟨(i:Int),(l.length:Int),(i:Int),(i:Int)⟩) (mk:=λj=>(⟨(j:Int),l,l⟩:K5)) (c:=sp2 l i) (u:=1) (fin:=2) tI (ixs i) (by rw[Ra0];omega)
  (λj hj=>by
   rw[Ra0] at hj;simp only[S1,ja0,Int.toNat_natCast,Nat.sub_zero,w5,o9,Xd8 l i j hi hj hl,E6 hj (by omega),Ed8 hj]
   rw[btD (q7 hj),bt (j9 (by omega))]
   unfold sp2;simp only[Int.toNat_natCast];cases ((l.take j).any λv=>(I0 v (gL tV l j) (gL tV l i)).2)<;>rfl)
  (by rw[Ra0];simp only[S1,ja0];rw[bfD (y5 (Qjg _))]) 0 (Qjo _)
 rw[Qjr,Ra0] at h;rw[show (⟨0,l,l⟩:K5)=⟨((0:Nat):Int),l,l⟩ from rfl,h]
 split
 ·simp only[Qjh]
 ·rfl
def sp1(l:List V3)(m:Int):Bool:=(ixs m.toNat).any (sp2 l m.toNat)
theorem se9 (l : List V3) (hl : l.length ≤ 1000000) :
  lp (ga0 ⟨(l.length:Int)⟩) ⟨0,l,l⟩=if (ixs l.length).any (sp1 l) then (1,⟨((ixs l.length).findIdx (sp1 l):Nat),l,l⟩) else (2,⟨(l.length:Int),l,l⟩):=by
 have h:=Pa9 (step:=ga0 ⟨(l.length:Int)⟩) (mk:=λj=>(⟨(j:Int),l,l⟩:R4)) (c:=sp1 l) (u:=1) (fin:=2) tI (ixs l.length) (by rw[Ra0];omega)
  (λi hi=>by
   rw[Ra0] at hi;simp only[ga0,ja1,Int.toNat_natCast,Nat.sub_zero,w5,o9,Xd9 l i hi hl,E6 hi (by omega),Ed8 hi]
   rw[btD (q7 hi),bt (j9 (by omega))]
   unfold sp1;simp only[Int.toNat_natCast];cases (ixs i).any (sp2 l i)<;>rfl)
  (by rw[Ra0];simp only[ga0,ja1];rw[bfD (y5 (Qjg _))]) 0 (Qjo _)
 rw[Qjr,Ra0] at h;rw[show (⟨0,l,l⟩:R4)=⟨((0:Nat):Int),l,l⟩ from rfl,h]
 split
 ·simp only[Qjh]
 ·rfl
theorem bd8{α:Type}{l:List α}{c:α->Bool}(h:l.any c=true):l.findIdx c<l.length:=by
 obtain⟨x,h1,h2⟩:=Qjb.1 h;exact Qjan ⟨x,h1,h2⟩
theorem Eb7{n:Nat}{c:Int->Bool}(h:(ixs n).any c=true):(ixs n).findIdx c<n/\c ((ixs n).findIdx c:Nat)=true:=by
 have hlt:=bd8 h;have h1:=Qjaf (xs:=ixs n) (p:=c) (w:=hlt);rw[Ra0] at hlt;refine⟨hlt,?_⟩;simpa [ixs] using h1
def iF(l:List V3):Nat:=(ixs l.length).findIdx (sp1 l)
def jF(l:List V3):Nat:=(ixs (iF l)).findIdx (sp2 l (iF l))
def kF(l:List V3):Nat:=(l.take (jF l)).findIdx (λv=>(I0 v (gL tV l (jF l)) (gL tV l (iF l))).2)
def plF(l:List V3):Pln:=(I0 (gL tV l (kF l)) (gL tV l (jF l)) (gL tV l (iF l))).1
def Zb2(l:List V3):Bool:=if (ixs l.length).any (sp1 l) then !(l.any λv=>ea5 (plF l) v != 0) else true
theorem od5(l:List V3)(hl:l.length<=1000000):Ja9 l=some (b (Zb2 l),[]):=by
 unfold Ja9 Zb2;simp only[w5,o9];rw[se9 l hl];by_cases h:(ixs l.length).any (sp1 l)=true
 ·obtain⟨hi,h1⟩:=Eb7 h;have h1:(ixs (iF l)).any (sp2 l (iF l))=true:=h1;obtain⟨hj,h2⟩:=Eb7 h1;have h2:(l.take (jF l)).any (λv=>(I0 v (gL tV l (jF l)) (gL tV l (iF l))).2)=true:=h2
  rw[if_pos h,if_pos h];simp only[Int.toNat_natCast,Nat.sub_zero];rw[show (ixs l.length).findIdx (sp1 l)=iF l from rfl,Xd9 l (iF l) hi hl,if_pos h1]
  simp only[Int.toNat_natCast,Nat.sub_zero];rw[show (ixs (iF l)).findIdx (sp2 l (iF l))=jF l from rfl,Xd8 l (iF l) (jF l) hi hj hl,if_pos h2]
  simp only[Int.toNat_natCast,nb5];rw[show (l.take (jF l)).findIdx (λv=>(I0 v (gL tV l (jF l)) (gL tV l (iF l))).2)=kF l from rfl,show (I0 (gL tV l (kF l)) (gL tV l (jF l)) (gL tV l (iF l))).1=plF l from rfl,Ed7 l _ (by omega)]
  rfl
 ·rw[if_neg h,if_neg h];rfl
theorem he6(l:List V3)(hl:l.length<=1000000):Za6 l=Zb2 l:=by unfold Za6;rw[od5 l hl];rfl
theorem he7(l:List V3)(hl:l.length<=1000000):Za7 l=true:=by unfold Za7;rw[od5 l hl];rfl
theorem Sc0(v:V3):na8 v=some (b (!inV v),[]):=by
 unfold na8;simp only[(yb7 v).1,(yb7 v).2,r5]
theorem Yd0(v:V3):Aa9 v=!inV v:=by unfold Aa9;rw[Sc0];rfl
theorem Yd1(v:V3):Ba0 v=true:=by unfold Ba0;rw[Sc0];rfl
theorem he8(l:List V3)(hl:l.length<=1000000000):T5 ⟨l⟩=⟨1,if l.any (λv=>!inV v) then ((l.findIdx (λv=>!inV v):Nat):Int) else -1⟩:=by
 have h:=Pa9 (step:=G4 ⟨l,(l.length:Int)⟩) (mk:=λj=>(⟨(j:Int)⟩:o3)) (c:=λv=>!inV v) (u:=1) (fin:=2) tV l hl
  (λj hj=>by
   simp only[G4,D9,Int.toNat_natCast,Yd0,Yd1,E6 hj (by omega)]
   rw[bt (Ac3 hj),bt (j9 hj),r5])
  (by simp only[G4,D9];rw[bf (Ub9 (Qjg _))]) 0 (Qjo _)
 rw[Qjr] at h;unfold T5 E9;simp only[w5,o9];rw[show (⟨0⟩:o3)=⟨((0:Nat):Int)⟩ from rfl,h]
 split
 ·simp only[Qjh];rfl
 ·rfl
theorem he9(l:List V3)(hl:l.length<=1000000000):N7 ⟨l⟩=⟨1,l.any λv=>!inV v⟩:=by
 unfold N7 A1;simp only[w5,o9,he8 l hl];split
 ·rename_i h;rw[h,show decide (((l.findIdx (λv=>!inV v):Nat):Int)>=0)=true from decide_eq_true (by omega)];rfl
 ·rename_i h;rw[Qjad] at h;rw[h];rfl
def Da6(l:List V3):Int:=if (l.length:Int)>48 then 2 else if l.any (λv=>!inV v) then 3 else if Zb2 l then 11 else 0
theorem Sc1(l:List V3)(hl:l.length<=1000000):Ba1 l=some (i (Da6 l),[]):=by
 unfold Ba1 Da6;simp only[w5,o9,lb5,he9 l (by omega),he6 l hl,he7 l hl]
 by_cases h:(l.length:Int)>48
 ·rw[btD h,if_pos h]
 ·rw[bfD h,if_neg h];cases l.any λv=>!inV v with
  |true=>rfl
  |false=>cases Zb2 l<;>rfl
theorem od6(l:List V3)(hl:l.length<=1000000):Ba2 l=Da6 l:=by unfold Ba2;rw[Sc1 l hl];rfl
theorem od7(l:List V3)(hl:l.length<=1000000):Ba3 l=true:=by unfold Ba3;rw[Sc1 l hl];rfl
theorem Yd2{p:Pln}(h:Bd p):qa5 p=pa3 p:=by
 unfold qa5 O5 pa3
 simp only
 have:=h.x1;have:=h.x2;have:=h.y1;have:=h.y2;have:=h.z1;have:=h.z2;have:=h.b1;have:=h.b2
 rw[aa4 (by omega) (by omega),aa4 (by omega) (by omega),aa4 (by omega) (by omega),aa4 (by omega) (by omega)]
 simp only[Int.zero_sub]
def bd9(p:Pln):List c7:=[i p.n.x,i p.n.y,i p.n.z,i p.b,b true]
def bb2(l:List Pln):List (List c7):=l.map bd9
theorem Sc2(x q:Pln):Fb2 flK [i x.n.x,i x.n.y,i x.n.z,i x.b] (bd9 q)=eqP q x:=by
 show Bool.and (decide (x.n.x=q.n.x)) (Bool.and (decide (x.n.y=q.n.y)) (Bool.and (decide (x.n.z=q.n.z)) (Bool.and (decide (x.b=q.b)) true)))=_;unfold eqP;have h:∀a c:Int,decide (a=c)=(c==a):=λa c=>by rw[Bool.eq_iff_iff,decide_eq_true_eq,beq_iff_eq];exact eq_comm
 rw[h,h,h,h]
theorem od8(x:Pln):∀l,Sa1 4 [(0,.int .i64),(1,.int .i64),(2,.int .i64),(3,.int .i64)] [i x.n.x,i x.n.y,i x.n.z,i x.b] (bb2 l)=Yb1 l x
 |[]=>rfl
 |q::l=>by
  have ih:=od8 x l;unfold Sa1 at ih ⊢;show Option.rec (motive:=λ_=>Bool) false (λr=>toB (hdA (j6 r 4))) (Bool.rec (motive:=λ_=>Option (List c7)) (hc8 flK [i x.n.x,i x.n.y,i x.n.z,i x.b] (bb2 l)) (some (bd9 q)) (Fb2 flK [i x.n.x,i x.n.y,i x.n.z,i x.b] (bd9 q)))=Yb1 (q::l) x
  rw[Sc2];unfold Yb1 at ih ⊢;rw[List.any_cons];cases eqP q x with
  |true=>rfl
  |false=>exact ih
theorem yd7(x:Pln):∀l,Yb1 l x=false->Z1 [(0,.int .i64),(1,.int .i64),(2,.int .i64),(3,.int .i64)] [i x.n.x,i x.n.y,i x.n.z,i x.b] [i x.n.x,i x.n.y,i x.n.z,i x.b,b true] (bb2 l)=bb2 (l++[x])
 |[],_=>rfl
 |q::l,h=>by
  unfold Yb1 at h;rw[List.any_cons,Bool.or_eq_false_iff] at h;show Bool.rec (motive:=λ_=>List (List c7)) (bd9 q::Z1 flK [i x.n.x,i x.n.y,i x.n.z,i x.b] (bd9 x) (bb2 l)) (bd9 x::bb2 l) (Fb2 flK [i x.n.x,i x.n.y,i x.n.z,i x.b] (bd9 q))=_
  rw[Sc2,h.1,show Z1 flK [i x.n.x,i x.n.y,i x.n.z,i x.b] (bd9 x) (bb2 l)=_ from yd7 x l h.2]
  rfl
def Pb0(s:List Pln)(p:Pln):List Pln:=if Yb1 s p then s else s++[p]
theorem Yd3(s:List Pln)(p q:Pln):q∈Pb0 s p↔q∈s\/q=p:=by
 unfold Pb0;split
 ·rename_i h;rw[nd5] at h;exact⟨.inl,λh'=>h'.elim id λe=>e ▸ h⟩
 ·rw[Qjai,Qjar]
theorem Fc1{s:List Pln}{p:Pln}(h:s.Nodup):(Pb0 s p).Nodup:=by
 unfold Pb0;split
 ·exact h
 ·rename_i hn;rw[nd5] at hn;rw[List.nodup_append];exact⟨h,by simp,λa ha b hb=>by rw[Qjar.1 hb];intro e;exact hn (e ▸ ha)⟩
theorem od9(s:List Pln)(p:Pln):(Pb0 s p).length<=s.length+1:=by
 unfold Pb0;split
 ·omega
 ·simp
def fil(l:List V3)(s:List Pln):List Pln:=s.filter λp=>!bey l p
theorem sc5(l:List V3)(s:List Pln)(p:Pln):fil l (s++[p])=if bey l p then fil l s else fil l s++[p]:=by
 unfold fil;rw[Qjaa,Qjag,List.filter_nil];cases bey l p<;>simp
theorem cd0(l:List V3)(s:List Pln):(fil l s).length<=s.length:=Qjao _ _
def Kb6(l:List V3)(a c:Nat)(s:List Pln)(k:Nat):List Pln :=
 if (I0 (gL tV l k) (gL tV l c) (gL tV l a)).2 then Pb0 (Pb0 s (I0 (gL tV l k) (gL tV l c) (gL tV l a)).1) (pa3 (I0 (gL tV l k) (gL tV l c) (gL tV l a)).1) else s
def G2(l:List V3)(a:Nat)(s:List Pln)(c:Nat):List Pln:=(List.range c).foldl (Kb6 l a c) s
def G1(l:List V3)(s:List Pln)(a:Nat):List Pln:=(List.range a).foldl (G2 l a) s
def G0(l:List V3):List Pln:=(List.range l.length).foldl (G1 l) []
theorem Sc3(l:List V3)(a c:Nat)(s:List Pln)(k:Nat):(Kb6 l a c s k).length<=s.length+2:=by
 unfold Kb6;split
 ·have h1:=od9 (Pb0 s (I0 (gL tV l k) (gL tV l c) (gL tV l a)).1) (pa3 (I0 (gL tV l k) (gL tV l c) (gL tV l a)).1);have h2:=od9 s (I0 (gL tV l k) (gL tV l c) (gL tV l a)).1;omega
 ·omega
theorem te0(l:List V3)(a:Nat)(s:List Pln)(c:Nat):(G2 l a s c).length<=s.length+2*c:=Ec6 (Sc3 l a c) s c
theorem yd8(l:List V3)(a:Nat)(s:List Pln):∀j,j<=a->a<=48->((List.range j).foldl (G2 l a) s).length<=s.length+96*j
 |0,_,_=>Qjn _
 |j+1,h,ha=>by
  rw[I7];have h1:=yd8 l a s j (by omega) ha
  have h2:=te0 l a ((List.range j).foldl (G2 l a) s) j;omega
theorem cd1(l:List V3)(hl:l.length<=48):∀j,j<=l.length->((List.range j).foldl (G1 l) []).length<=5000*j
 |0,_=>Qjn _
 |j+1,h=>by
  rw[I7];have h1:=cd1 l hl j (by omega)
  have h2:(G1 l ((List.range j).foldl (G1 l) []) j).length<=_:=yd8 l j ((List.range j).foldl (G1 l) []) j (Qjn _) (by omega)
  omega
@[reducible] def mkf(l:List V3)(k:Nat)(s:List Pln):A2:=⟨phP (fil l s),(k:Int),bb2 s,(fil l s).length,bL tP (fil l s)⟩
theorem gc8{n:Nat}{l:List Pln}(hn:n=l.length)(h:l.length<=1000000000):(Nat.beq n (len (bL tP l))&&Nat.ble ((n+1)*32) room)=true:=by
 subst hn;rw[ka7,Qjw,Bool.true_and];exact fe3 (by omega)
theorem Ed9(o:List Pln)(x:Pln):phP (o++[x])=1:=by cases o<;>rfl
theorem Yd4 (l : List V3) (hl : l.length ≤ 48) (a c k : Nat) (ha : a < l.length) (hc : c < a) (hk : k < c) (x1 x2 x3 x4 : Int) (s : List Pln) (ho : s.length ≤ 900000) :
  O6 ⟨(a:Int),(c:Int),x1,x2,x3,x4,(c:Int),l,l⟩ (mkf l k s)=.next (mkf l (k+1) (Kb6 l a c s k)):=by
 have hfl:qa5 (I0 (gL tV l k) (gL tV l c) (gL tV l a)).1=pa3 (I0 (gL tV l k) (gL tV l c) (gL tV l a)).1:=Yd2 (ge1 _ _ _);have hb:∀p,X9 l p=bey l p:=λp=>Xd6 l p (by omega)
 have hg:∀p,H9 l p=true:=λp=>Xd7 l p (by omega)
 have hn:=E6 hk (show c<=4611686018427387904 by omega)
 have b1:inB (a:Int) l.length=true:=j9 ha;have b2:inB (c:Int) l.length=true:=j9 (by omega)
 have b3:inB (k:Int) l.length=true:=j9 (by omega)
 have hfl2:=cd0 l s;unfold Kb6;unfold mkf;generalize hT:I0 (gL tV l k) (gL tV l c) (gL tV l a)=T at *
 cases hO:fil l s with
 |nil =>
  show P9 Stp.next Stp.exit Stp.fail _ _=_;simp only[P9,nb5,Ob7,Int.toNat_natCast,w5,lb5,hT,hfl,hb,hg,hn,b1,b2,b3,od8];rw[btD (q7 hk)];cases h2:T.2 with
  |false=>simp only[Qji,if_false,hO];rfl
  |true =>
   simp only[if_true,r5];cases h3:Yb1 s T.1 with
   |true =>
    cases h4:Yb1 s (pa3 T.1) with
    |true=>simp only[Pb0,h3,h4,if_true,hO];rfl
    |false =>
     rw[yd7 _ _ h4];cases h5:bey l (pa3 T.1)<;>(simp only[Pb0,h3,h4,h5,if_true,if_false,Qji,sc5,hO];rfl)
   |false =>
    simp only[yd7 _ _ h3,od8];cases h5:bey l T.1<;>cases h4:Yb1 (s++[T.1]) (pa3 T.1)<;>(try simp only[yd7 _ _ h4])<;>cases h6:bey l (pa3 T.1)<;>(simp only[Pb0,h3,h4,h5,h6,if_true,if_false,Qji,sc5,hO];rfl)
 |cons q o =>
  have rr:(Nat.beq (q::o).length (len (bL tP (q::o)))&&Nat.ble (((q::o).length+1)*32) room)=true:=gc8 rfl (by rw[<- hO];omega)
  have ap:∀(O:List Pln) (p:Pln),app (bL tP O) [[i p.n.x,i p.n.y,i p.n.z,i p.b]]=bL tP (O++[p]):=λO p=>Ta5 tP O [p]
  have rr2:∀p:Pln,(Nat.beq ((q::o).length+1) (len (bL tP (q::o++[p])))&&Nat.ble (((q::o).length+1+1)*32) room)=true:=λp=>gc8 (by simp) (by rw[<- hO,Qjc,List.length_singleton];omega)
  show Q0 Stp.next Stp.exit Stp.fail _ _=_;simp only[Q0,nb5,Ob7,Int.toNat_natCast,w5,lb5,hT,hfl,hb,hg,hn,b1,b2,b3,od8,rr,ap,rr2];rw[btD (q7 hk)];cases h2:T.2 with
  |false=>simp only[Qji,if_false,hO];rfl
  |true =>
   simp only[if_true,r5];cases h3:Yb1 s T.1 with
   |true =>
    cases h4:Yb1 s (pa3 T.1) with
    |true=>simp only[Pb0,h3,h4,if_true,hO];rfl
    |false =>
     rw[yd7 _ _ h4];cases h5:bey l (pa3 T.1)<;>(simp only[Pb0,h3,h4,h5,if_true,if_false,Qji,sc5,hO,Ed9,Qjc,List.length_singleton];rfl)
   |false =>
    simp only[yd7 _ _ h3,od8];cases h5:bey l T.1<;>cases h4:Yb1 (s++[T.1]) (pa3 T.1)<;>(try simp only[yd7 _ _ h4])<;>cases h6:bey l (pa3 T.1)<;>(simp only[Pb0,h3,h4,h5,h6,if_true,if_false,Qji,sc5,hO,Ed9,Qjc,List.length_singleton];rfl)
theorem te1 (l : List V3) (hl : l.length ≤ 48) (a c : Nat) (ha : a < l.length) (hc : c < a) (x1 x2 x3 x4 : Int) (s : List Pln) (ho : s.length ≤ 800000) :
  ∃j,lp (O6 ⟨(a:Int),(c:Int),x1,x2,x3,x4,(c:Int),l,l⟩) (mkf l 0 s)=(phP (fil l (G2 l a s c))+1,mkf l j (G2 l a s c)):=by
 have key:=aa3 (step:=O6 ⟨(a:Int),(c:Int),x1,x2,x3,x4,(c:Int),l,l⟩) (mk:=mkf l) c (λj o=>j<=c/\o=(List.range j).foldl (Kb6 l a c) s) (λt r=>t=phP (fil l (G2 l a s c))+1/\∃j:Nat,r=mkf l j (G2 l a s c)) (by omega)
  (λj o hj hi=>by
   obtain⟨_,hi⟩:=hi;have hlen:o.length<=900000:=by
    rw[hi]
    have:=Ec6 (Sc3 l a c) s j
    omega
   rw[Yd4 l hl a c j ha hc hj x1 x2 x3 x4 o hlen];exact .nx ⟨_,rfl,by omega,by rw[I7,<- hi]⟩)
  (λj o hj hi=>by
   obtain⟨h1,hi⟩:=hi;have e:j=c:=by omega
   subst e;have hF:o=G2 l a s j:=hi;rw[<- hF];refine⟨_,?_,rfl,j,rfl⟩;unfold mkf;cases hO:fil l o with
   |nil =>
    show P9 Stp.next Stp.exit Stp.fail _ _=_;simp only[P9];rw[bfD (y5 (Qjg _))];rfl
   |cons q o =>
    show Q0 Stp.next Stp.exit Stp.fail _ _=_;simp only[Q0];rw[bfD (y5 (Qjg _))]
    rfl) 0 s ⟨Qjo _,rfl⟩
 obtain⟨t,r,h1,rfl,j,rfl⟩:=key;exact⟨j,h1⟩
@[reducible] def Fc2(l:List V3)(k:Nat)(s:List Pln):v8:=⟨phP (fil l s),(k:Int),l,l,bb2 s,(fil l s).length,bL tP (fil l s)⟩
theorem te2 (l : List V3) (hl : l.length ≤ 48) (a : Nat) (ha : a < l.length) (x1 x2 : Int) (s : List Pln) (ho : s.length ≤ 700000) :
  ∃j,lp (U9 ⟨(a:Int),x1,x2,(a:Int)⟩) (Fc2 l 0 s)=(phP (fil l (G1 l s a))+1,Fc2 l j (G1 l s a)):=by
 have key:=aa3 (step:=U9 ⟨(a:Int),x1,x2,(a:Int)⟩) (mk:=Fc2 l) a (λj o=>j<=a/\o=(List.range j).foldl (G2 l a) s) (λt r=>t=phP (fil l (G1 l s a))+1/\∃j:Nat,r=Fc2 l j (G1 l s a)) (by omega)
  (λj o hj hi=>by
   obtain⟨hja,hi⟩:=hi;have hlen:o.length<=800000:=by rw[hi];have:=yd8 l a s j hja (by omega);omega
   have hn:=E6 hj (show a<=4611686018427387904 by omega)
   have bj:inB (j:Int) (l.length+1)=true:=j9 (by omega)
   obtain⟨j',e1⟩:=te1 l hl a j ha hj x1 x2 (a:Int) (j:Int) o hlen
   have fin : ∀ {r : v8}, r = Fc2 l (j + 1) (G2 l a o j) → Nx (.next r) (fun t => t = phP (fil l (G1 l s a)) + 1 ∧ ∃ j' : Nat, Fc2 l j o = Fc2 l j' (G1 l s a))
     (λr=>∃o',r=Fc2 l (j+1) o'/\(j+1<=a/\o'=(List.range (j+1)).foldl (G2 l a) s)):=λ{r} hs =>
    .nx ⟨_,hs,by omega,by rw[I7,<- hi]⟩
   clear hi
   generalize hF:G2 l a o j=R at *
   unfold Fc2 at *
   unfold mkf at e1;cases hO:fil l o with
   |nil =>
    rw[hO] at e1 fin;show Nx (Q1 Stp.next Stp.exit Stp.fail _ _) _ _;simp only[Q1,w5,o9,hn,bj,Int.toNat_natCast,Nat.sub_zero];have e1:lp (O6 ⟨(a:Int),(j:Int),x1,x2,(a:Int),(j:Int),(j:Int),l,l⟩) ⟨0,0,bb2 o,0,[]⟩=_:=e1;rw[btD (q7 hj),e1];cases hR:fil l R with
    |nil=>exact fin (by rw[hR];rfl)
    |cons q R'=>exact fin (by rw[hR];rfl)
   |cons q o' =>
    rw[hO] at e1 fin;show Nx (Q3 Stp.next Stp.exit Stp.fail _ _) _ _;simp only[Q3,w5,o9,hn,bj,Int.toNat_natCast,Nat.sub_zero];have e1:lp (O6 ⟨(a:Int),(j:Int),x1,x2,(a:Int),(j:Int),(j:Int),l,l⟩) ⟨1,0,bb2 o,(q::o').length,bL tP (q::o')⟩=_:=e1;rw[btD (q7 hj),e1];cases hR:fil l R with
    |nil=>exact fin (by rw[hR];rfl)
    |cons q R'=>exact fin (by rw[hR];rfl))
  (λj o hj hi=>by
   obtain⟨h1,hi⟩:=hi;have e:j=a:=by omega
   subst e;have hF:o=G1 l s j:=hi;rw[<- hF];refine⟨_,?_,rfl,j,rfl⟩;unfold Fc2;cases hO:fil l o with
   |nil =>
    show Q1 Stp.next Stp.exit Stp.fail _ _=_;simp only[Q1];rw[bfD (y5 (Qjg _))];rfl
   |cons q o =>
    show Q3 Stp.next Stp.exit Stp.fail _ _=_;simp only[Q3];rw[bfD (y5 (Qjg _))]
    rfl) 0 s ⟨Qjo _,rfl⟩
 obtain⟨t,r,h1,rfl,j,rfl⟩:=key;exact⟨j,h1⟩
@[reducible] def cd2(l:List V3)(k:Nat)(s:List Pln):A3:=⟨phP (fil l s),(k:Int),l,l,bb2 s,(fil l s).length,bL tP (fil l s)⟩
theorem te3 (l : List V3) (hl : l.length ≤ 48) :
  ∃j,lp (wa2 ⟨(l.length:Int)⟩) ⟨0,0,l,l,[],0,[]⟩=(phP (fil l (G0 l))+1,cd2 l j (G0 l)):=by
 have key:=aa3 (step:=wa2 ⟨(l.length:Int)⟩) (mk:=cd2 l) l.length (λj o=>j<=l.length/\o=(List.range j).foldl (G1 l) []) (λt r=>t=phP (fil l (G0 l))+1/\∃j:Nat,r=cd2 l j (G0 l)) (by omega)
  (λj o hj hi=>by
   obtain⟨hja,hi⟩:=hi;have hlen:o.length<=700000:=by rw[hi];have:=cd1 l hl j hja;omega
   have hn:=E6 hj (show l.length<=4611686018427387904 by omega)
   have bj:inB (j:Int) (l.length+1)=true:=j9 (by omega)
   obtain⟨j',e1⟩:=te2 l hl j hj (l.length:Int) (j:Int) o hlen
   have fin : ∀ {r : A3}, r = cd2 l (j + 1) (G1 l o j) → Nx (.next r) (fun t => t = phP (fil l (G0 l)) + 1 ∧ ∃ j' : Nat, cd2 l j o = cd2 l j' (G0 l))
     (λr=>∃o',r=cd2 l (j+1) o'/\(j+1<=l.length/\o'=(List.range (j+1)).foldl (G1 l) [])):=λ{r} hs =>
    .nx ⟨_,hs,by omega,by rw[I7,<- hi]⟩
   clear hi
   generalize hF:G1 l o j=R at *
   unfold cd2 at *
   unfold Fc2 at e1;cases hO:fil l o with
   |nil =>
    rw[hO] at e1 fin;show Nx (Q4 Stp.next Stp.exit Stp.fail _ _) _ _;simp only[Q4,w5,o9,hn,bj,Int.toNat_natCast,Nat.sub_zero];have e1:lp (U9 ⟨(j:Int),(l.length:Int),(j:Int),(j:Int)⟩) ⟨0,0,l,l,bb2 o,0,[]⟩=_:=e1;rw[btD (q7 hj),e1];cases hR:fil l R with
    |nil=>exact fin (by rw[hR];rfl)
    |cons q R'=>exact fin (by rw[hR];rfl)
   |cons q o' =>
    rw[hO] at e1 fin;show Nx (Q5 Stp.next Stp.exit Stp.fail _ _) _ _;simp only[Q5,w5,o9,hn,bj,Int.toNat_natCast,Nat.sub_zero];have e1:lp (U9 ⟨(j:Int),(l.length:Int),(j:Int),(j:Int)⟩) ⟨1,0,l,l,bb2 o,(q::o').length,bL tP (q::o')⟩=_:=e1;rw[btD (q7 hj),e1];cases hR:fil l R with
    |nil=>exact fin (by rw[hR];rfl)
    |cons q R'=>exact fin (by rw[hR];rfl))
  (λj o hj hi=>by
   obtain⟨h1,hi⟩:=hi;have e:j=l.length:=by omega
   subst e;have hF:o=G0 l:=hi;rw[<- hF];refine⟨_,?_,rfl,l.length,rfl⟩;unfold cd2;cases hO:fil l o with
   |nil =>
    show Q4 Stp.next Stp.exit Stp.fail _ _=_;simp only[Q4];rw[bfD (y5 (Qjg _))];rfl
   |cons q o =>
    show Q5 Stp.next Stp.exit Stp.fail _ _=_;simp only[Q5];rw[bfD (y5 (Qjg _))]
    rfl) 0 [] ⟨Qjo _,rfl⟩
 obtain⟨t,r,h1,rfl,j,rfl⟩:=key;exact⟨j,h1⟩
theorem yd9{F:List Pln}(h:∀p∈F,okp p=true){k:Nat}(hk:k<F.length):Bd (gL tP F k):=fc7 (h _ (Ma5 tP hk))
theorem ie0{n:V3}{r:Pln}(hn:Sm 42467328 n.x/\Sm 42467328 n.y/\Sm 42467328 n.z)(hr:Bd r):r7 n r.n=dot n r.n:=by
 obtain⟨⟨a1,a2⟩,⟨a3,a4⟩,a5,a6⟩:=hn;have r1:=mb a1 a2 hr.x1 hr.x2;have r2:=mb a3 a4 hr.y1 hr.y2;have r3:=mb a5 a6 hr.z1 hr.z2;unfold r7;simp only[Wa0,xb1];rw[aa4 (by omega) (by omega)]
 rfl
theorem ie1 (l : List Pln) (n : V3) (hn : Sm 42467328 n.x ∧ Sm 42467328 n.y ∧ Sm 42467328 n.z) (hF : ∀ p ∈ l, okp p = true) (hl : l.length ≤ 1000000000) :
  P2 ⟨l,n.x,n.y,n.z⟩=⟨1,if l.any (λr=>dot n r.n != 0) then ((l.findIdx (λr=>dot n r.n != 0):Nat):Int) else -1⟩:=by
 have h:=Pa9 (step:=B7 ⟨l,(l.length:Int),n.x,n.y,n.z⟩) (mk:=λj=>(⟨(j:Int)⟩:n5)) (c:=λr=>dot n r.n != 0) (u:=1) (fin:=2) tP l hl
  (λj hj=>by
   have e:=ie0 hn (yd9 hF hj);simp only[B7,B0,Int.toNat_natCast,Ma8,ba6,e,E6 hj (show l.length<=4611686018427387904 by omega)]
   rw[btD (q7 hj),bt (j9 hj)])
  (by simp only[B7,B0];rw[bfD (y5 (Qjg _))]) 0 (Qjo _)
 rw[Qjr] at h;unfold P2 B3;simp only[w5,o9];rw[show (⟨0⟩:n5)=⟨((0:Nat):Int)⟩ from rfl,h]
 split
 ·simp only[Qjh];rfl
 ·rfl
theorem ie2 (l : List Pln) (n : V3) (hn : Sm 42467328 n.x ∧ Sm 42467328 n.y ∧ Sm 42467328 n.z) (hF : ∀ p ∈ l, okp p = true) (hl : l.length ≤ 1000000000) :
  L2 ⟨l,n.x,n.y,n.z⟩=⟨1,l.any λr=>dot n r.n != 0⟩:=by
 unfold L2 u8;simp only[w5,o9,ie1 l n hn hF hl];split
 ·rename_i h;rw[h,show decide (((l.findIdx (λr=>dot n r.n != 0):Nat):Int)>=0)=true from decide_eq_true (by omega)];rfl
 ·rename_i h;rw[Qjad] at h;rw[h];rfl
def Md5(l:List Pln)(a c:Nat):Bool:=l.any λr=>dot (d7 (gL tP l a).n (gL tP l c).n) r.n != 0
def vtx(l:List Pln):Bool:=(List.range l.length).any λa=>(List.range a).any (Md5 l a)
theorem Md6{p q:Pln}(hp:Bd p)(hq:Bd q):R2 p.n q.n=d7 p.n q.n/\Sm 42467328 (d7 p.n q.n).x/\Sm 42467328 (d7 p.n q.n).y/\Sm 42467328 (d7 p.n q.n).z:=by
 obtain⟨k1,k2,k3⟩:=Ud7 hp.n hq.n;refine⟨?_,k1,k2,k3⟩;rw[fe6,Ga9 (k1.mono (by omega)),Ga9 (k2.mono (by omega)),Ga9 (k3.mono (by omega))]
theorem zd0 (l : List Pln) (hF : ∀ p ∈ l, okp p = true) (hl : l.length ≤ 1000000) (a : Nat) (ha : a < l.length) (x9 x10 : Int) :
  ∃j,lp (Y3 ⟨l,l,x9,x10,a,(λk=>(λk=>tP.row (gL tP l k)) (0+k)),(a:Int),(gL tP l a).n.x,(gL tP l a).n.y,(gL tP l a).n.z,(gL tP l a).b⟩) ⟨0⟩=(if (List.range a).any (Md5 l a) then 1 else 2,⟨((j:Nat):Int)⟩) :=
 Cc3 (step:=Y3 ⟨l,l,x9,x10,a,(λk=>(λk=>tP.row (gL tP l k)) (0+k)),(a:Int),(gL tP l a).n.x,(gL tP l a).n.y,(gL tP l a).n.z,(gL tP l a).b⟩) (mk:=λj=>(⟨(j:Int)⟩:O7)) a (Md5 l a) 1 2 (by omega)
  (λj hj=>by
   obtain⟨e,k1,k2,k3⟩:=Md6 (yd9 hF ha) (yd9 hF (show j<l.length by omega))
   have rr:(⟨toI (hdA (tP.row (gL tP l j))),toI (hdA (tlA (tP.row (gL tP l j)))),toI (hdA (tlA (tlA (tP.row (gL tP l j)))))⟩:V3)=(gL tP l j).n:=rfl;have e':R2 ⟨(gL tP l a).n.x,(gL tP l a).n.y,(gL tP l a).n.z⟩ (gL tP l j).n=d7 (gL tP l a).n (gL tP l j).n:=e;simp only[Y3,ca9,Int.toNat_natCast,Qjh,rr,e',qe9,w5,o9,ie2 l _ ⟨k1,k2,k3⟩ hF (show l.length<=1000000000 by omega),E6 hj (show a<=4611686018427387904 by omega)]
   rw[btD (q7 hj),bt (j9 hj)];unfold Md5;cases hz:((d7 (gL tP l a).n (gL tP l j).n).x==0&&((d7 (gL tP l a).n (gL tP l j).n).y==0&&((d7 (gL tP l a).n (gL tP l j).n).z==0&&true))) with
   |false=>rfl
   |true =>
    simp only[Qjt,Qjl,beq_iff_eq] at hz
    have:(l.any λr=>dot (d7 (gL tP l a).n (gL tP l j).n) r.n != 0)=false:=by
     rw[List.any_eq_false];intro r _
     have:dot (d7 (gL tP l a).n (gL tP l j).n) r.n=0:=by unfold dot;rw[hz.1,hz.2.1,hz.2.2];simp only[Qjac,Int.add_zero]
     rw[this]
     decide
    rw[this]
    rfl)
  (by simp only[Y3,ca9];rw[bfD (y5 (Qjg _))])
theorem Sc4(l:List Pln)(hF:∀p∈l,okp p=true)(hl:l.length<=1000000):ua0 l=some (b (vtx l),[]):=by
 obtain⟨j,h⟩:=Cc3 (step:=Y4 ⟨(l.length:Int)⟩) (mk:=λj=>(⟨l,l,(j:Int)⟩:O8)) l.length (λa=>(List.range a).any (Md5 l a)) 1 2 (by omega)
  (λj hj=>by
   obtain⟨j',h1⟩:=zd0 l hF hl j hj (l.length:Int) (j:Int);simp only[Y4,da0,w5,o9,Int.toNat_natCast,Nat.sub_zero,E6 hj (show l.length<=4611686018427387904 by omega)]
   rw[btD (q7 hj),bt (j9 hj),bt (j9 (show j<l.length+1 by omega)),h1]
   cases (List.range j).any (Md5 l j)<;>rfl)
  (by simp only[Y4,da0];rw[bfD (y5 (Qjg _))])
 have h:lp (Y4 ⟨(l.length:Int)⟩) ⟨l,l,0⟩=(if vtx l then 1 else 2,⟨l,l,((j:Nat):Int)⟩):=h
 unfold ua0;simp only[w5,o9];rw[h];cases vtx l<;>rfl
theorem pd0(l:List Pln)(hF:∀p∈l,okp p=true)(hl:l.length<=1000000):ka0 l=vtx l:=by unfold ka0;rw[Sc4 l hF hl];rfl
theorem pd1(l:List Pln)(hF:∀p∈l,okp p=true)(hl:l.length<=1000000):ka1 l=true:=by unfold ka1;rw[Sc4 l hF hl];rfl
theorem ie3(l:List Pln):vtx l=true↔∃p q s,p∈l/\q∈l/\s∈l/\mw p q s≠0:=by
 unfold vtx;rw[Qjb];constructor
 ·rintro⟨a,ha,h⟩;obtain⟨c,hc,h⟩:=Qjb.1 h;rw[Qjj] at ha hc;obtain⟨r,hr,h⟩:=Qjb.1 h;have h:dot (d7 (gL tP l a).n (gL tP l c).n) r.n≠0:=bne_iff_ne.1 h;exact⟨_,_,r,Ma5 tP ha,Ma5 tP (show c<l.length by omega),hr,λe=>h (by rw[<- e];simp only[mw,dot,d7];grind)⟩
 ·rintro⟨p,q,s,hp,hq,hs,hw⟩;obtain⟨i',hi,rfl⟩:=Qjv.1 hp;obtain⟨j',hj,rfl⟩:=Qjv.1 hq;have hne:i'≠j':=λe=>hw (by subst e;simp only[mw,dot,d7];grind)
  rw[<- Za9 tP hi,<- Za9 tP hj] at hw
  rcases Qjak hne with h|h
  ·refine⟨j',Qjj.2 hj,Qjb.2 ⟨i',Qjj.2 h,Qjb.2 ⟨s,hs,?_⟩⟩⟩
   have:dot (d7 (gL tP l j').n (gL tP l i').n) s.n≠0:=λe=>hw (by
    rw[show mw (gL tP l i') (gL tP l j') s=-dot (d7 (gL tP l j').n (gL tP l i').n) s.n from by simp only[mw,dot,d7];grind,e]
    rfl)
   exact bne_iff_ne.2 this
  ·refine⟨i',Qjj.2 hi,Qjb.2 ⟨j',Qjj.2 h,Qjb.2 ⟨s,hs,?_⟩⟩⟩
   have:dot (d7 (gL tP l i').n (gL tP l j').n) s.n≠0:=λe=>hw (by rw[<- e];simp only[mw,dot,d7];grind)
   exact bne_iff_ne.2 this
structure OkF(F:List Pln):Prop where
 l:F.length<=1000000
 v:∀p∈F,okp p=true
def own(F:List Pln)(v:V3):List Pln:=F.filter λp=>ea5 p v==0
def kv(F:List Pln)(v:V3):Bool:=vtx (own F v)
theorem Md7(F:List Pln)(v:V3)(hF:F.length<=1000000):∃j,lp (fa0 ⟨F,(F.length:Int),F,v.x,v.y,v.z⟩) ⟨0,0,0,[]⟩=(phP (own F v)+1,⟨phP (own F v),((j:Nat):Int),(own F v).length,bL tP (own F v)⟩):=by
 have key:=aa3 (step:=fa0 ⟨F,(F.length:Int),F,v.x,v.y,v.z⟩) (mk:=λj (o:List Pln)=>(⟨phP o,(j:Int),o.length,bL tP o⟩:n4)) F.length (λj o=>j<=F.length/\o=(F.take j).filter λp=>ea5 p v==0) (λt s=>t=phP (own F v)+1/\∃j:Nat,s=⟨phP (own F v),(j:Int),(own F v).length,bL tP (own F v)⟩) (by omega)
  (λj o hj hi=>by
   obtain⟨_,hi⟩:=hi;have hlen:o.length<=1000000:=by
    rw[hi];have h1:=Qjao (λp=>ea5 p v==0) (F.take j)
    have h2:=List.length_take_le j F;omega
   have hn:=E6 hj (show F.length<=4611686018427387904 by omega)
   have hb:=j9 hj;have hT:(F.take (j+1)).filter (λp=>ea5 p v==0)=o++(if (ea5 (gL tP F j) v==0)=true then [gL tP F j] else []):=by
    rw[ab7 tP hj,Qjaa,<- hi,Qjag,List.filter_nil]
   have hnext : ∀ {s : n4} {o' : List Pln}, o' = (F.take (j + 1)).filter (fun p => ea5 p v == 0) → s = ⟨phP o', ((j + 1 : Nat) : Int), o'.length, bL tP o'⟩ → Nx (.next s) (fun t => t = phP (own F v) + 1 ∧ ∃ j' : Nat, (⟨phP o, (j : Int), o.length, bL tP o⟩ : n4) = ⟨phP (own F v), (j' : Int), (own F v).length, bL tP (own F v)⟩)
     (λs=>∃o',s=(⟨phP o',((j+1:Nat):Int),o'.length,bL tP o'⟩:n4)/\(j+1<=F.length/\o'=(F.take (j+1)).filter λp=>ea5 p v==0)):=λ{s o'} ho' hs=>.nx ⟨o',hs,by omega,ho'⟩
   clear hi
   cases o with
   |nil =>
    show Nx (G6 Stp.next Stp.exit Stp.fail _ _) _ _;simp only[G6,Int.toNat_natCast,sc2,sc3,hn,hb];rw[btD (q7 hj)];cases hs:ea5 (gL tP F j) v==0 with
    |true=>exact hnext (o':=[gL tP F j]) (by rw[hT,hs];rfl) rfl
    |false=>exact hnext (o':=[]) (by rw[hT,hs];rfl) rfl
   |cons q o =>
    have rr:(Nat.beq (q::o).length (len (bL tP (q::o)))&&Nat.ble (((q::o).length+1)*32) room)=true:=gc8 rfl (by omega)
    have ap:∀(O:List Pln) (p:Pln),app (bL tP O) [[i p.n.x,i p.n.y,i p.n.z,i p.b]]=bL tP (O++[p]):=λO p=>Ta5 tP O [p]
    show Nx (G7 Stp.next Stp.exit Stp.fail _ _) _ _;simp only[G7,Int.toNat_natCast,sc2,sc3,hn,hb,rr,ap];rw[btD (q7 hj)];cases hs:ea5 (gL tP F j) v==0 with
    |true=>exact hnext (o':=q::o++[gL tP F j]) (by rw[hT,hs];rfl) (by rw[Qjc];rfl)
    |false=>exact hnext (o':=q::o) (by rw[hT,hs,if_neg (by simp),Qjs]) rfl)
  (λj o hj hi=>by
   obtain⟨h1,hi⟩:=hi;have e:j=F.length:=by omega
   subst e;have hO:o=own F v:=by rw[hi,List.take_length];rfl
   rw[<- hO];cases o with
   |nil =>
    refine⟨1,?_,rfl,F.length,rfl⟩;show G6 Stp.next Stp.exit Stp.fail _ _=_;simp only[G6];rw[bfD (y5 (Qjg _))]
   |cons q o =>
    refine⟨2,?_,rfl,F.length,rfl⟩;show G7 Stp.next Stp.exit Stp.fail _ _=_;simp only[G7];rw[bfD (y5 (Qjg _))]) 0 [] ⟨Qjo _,by simp⟩
 obtain⟨t,s,h1,rfl,j,rfl⟩:=key;exact⟨j,h1⟩
theorem cd3(v:V3)(F:List Pln)(hF:OkF F):Q6 ⟨v.x,v.y,v.z,F⟩=⟨1,!kv F v,F⟩:=by
 obtain⟨j,h⟩:=Md7 F v hF.l;have hv:∀p∈own F v,okp p=true:=λp hp=>hF.v p (Qjp.1 hp).1
 have hl:(own F v).length<=1000000:=Nat.le_trans (Qjao _ _) hF.l;unfold Q6 Y5 kv;simp only[w5,o9];rw[h];cases ho:own F v with
 |nil =>
  have e:ka0 []=vtx []:=pd0 [] (λp hp=>by cases hp) (by simp)
  have e':ka1 []=true:=pd1 [] (λp hp=>by cases hp) (by simp)
  rw[e,e'];rfl
 |cons q o =>
  rw[ho] at hv hl;simp only[vb0,Mb8,pd0 _ hv hl,pd1 _ hv hl];rfl
theorem le9{α:Type}{l:List α}{n:Nat}{c:α->Bool}(h:(l.take n).any c=true):(l.take n).findIdx c<(l.take n).length:=by
 rw[Qjb] at h;obtain⟨p,hp,hc⟩:=h;exact Qjan ⟨p,hp,hc⟩
theorem ie4(l:List V3)(n:Nat)(X:List Pln)(hn:n<=l.length)(hl:l.length<=1000000000)(hX:OkF X):U0 ⟨n,bL tV l,X⟩=⟨1,if (l.take n).any (λp=>!kv X p) then (((l.take n).findIdx (λp=>!kv X p):Nat):Int) else -1,X⟩:=by
 have hlen:(l.take n).length=n:=by rw[Qje];omega
 have h:=Pa9 (step:=G8 ⟨n,(n:Int),bL tV l⟩) (mk:=λj=>(⟨(j:Int),X⟩:o4)) (c:=λp=>!kv X p) (u:=1) (fin:=2) tV (l.take n) (by omega)
  (λj hj=>by
   rw[hlen] at hj;have hj':j<l.length:=by omega
   simp only[G8,E1,Int.toNat_natCast,w5,o9,Na7 hj',Ha2 hj',cd3 _ _ hX,Rc9 tV l hj,E6 hj (show n<=4611686018427387904 by omega)]
   rw[btD (q7 hj),bt (j9 hj)]
   rfl)
  (by rw[hlen];simp only[G8,E1];rw[bfD (y5 (Qjg _))]) 0 (Qjo _)
 rw[Qjr,hlen] at h;unfold U0 F4;simp only[w5,o9];rw[show (⟨0,X⟩:o4)=⟨((0:Nat):Int),X⟩ from rfl,h]
 cases ha:(l.take n).any λp=>!kv X p with
 |false=>rfl
 |true =>
  have hf:=le9 ha;rw[hlen] at hf;simp only[if_true,Qjh,Int.toNat_natCast,Ha2 (show (l.take n).findIdx (λp=>!kv X p)<l.length by omega),cd3 _ _ hX,w5]
  rfl
structure ie5(l:List V3)(n:Nat)(f:V3->Bool)(cur:List V3)(m j:Nat):Prop where
 len:cur.length=l.length
 t:cur.take m=(l.take j).filter f
 d:cur.drop j=l.drop j
 le:m<=j
 lm:m<=n
theorem cd4 (l : List V3) (n : Nat) (hnl : n ≤ l.length) (X : List Pln) (hl : l.length ≤ 1000000000) (hX : OkF X) (m j : Nat) (cur : List V3) (hd : ie5 l n (kv X) cur m j) (hjn : j ≤ n) :
  ∃t s,lp (A4 ⟨n⟩) ⟨(m:Int),(j:Int),bL tV cur,X⟩=(t,s)/\(t=1/\∃m' cur',s=⟨((m':Nat):Int),((n:Nat):Int),bL tV cur',X⟩/\ie5 l n (kv X) cur' m' n):=by
 refine aa3 (step:=A4 ⟨n⟩) (mk:=λj (x:Nat×List V3)=>(⟨(x.1:Int),(j:Int),bL tV x.2,X⟩:p6)) n (λj x=>ie5 l n (kv X) x.2 x.1 j/\j<=n) (λt s=>t=1/\∃m' cur',s=⟨((m':Nat):Int),((n:Nat):Int),bL tV cur',X⟩/\ie5 l n (kv X) cur' m' n) (by omega) (λj x hj hx=>?_) (λj x hj hx=>?_) j (m,cur) ⟨hd,hjn⟩
 ·obtain⟨m,cur⟩:=x;obtain⟨⟨h1,h2,h3,h4,h5⟩,_⟩:=hx
  simp only at h1 h2 h3 h4 h5
  have hjc:j<cur.length:=by omega
  have hmc:m<cur.length:=by omega
  have hg:gL tV cur j=gL tV l j:=fc9 tV h3;have hWm:W ((m:Int)+1)=((m+1:Nat):Int):=by rw[aa4 (by omega) (by omega)];omega
  have hb:Nat.blt m cur.length=true:=by rw[Nat.blt_eq];exact hmc
  have hrow:i8 (bL tV cur) m=tV.row (gL tV cur m):=O3 tV hmc;have sp:∀(v:V3) (x1 x2 x3:Int),C9 (tV.row v) 0 [i x1,i x2,i x3]=tV.row ⟨x1,x2,x3⟩:=λ_ _ _ _=>rfl
  have rl:∀v:V3,Nat.ble (0+3) (len (tV.row v))=true:=λ_=>rfl
  simp only[A4,E2,Int.toNat_natCast,w5,o9,Na7 hjc,Ha2 hjc,cd3 _ _ hX,E6 hj (show n<=4611686018427387904 by omega),hWm]
  rw[btD (q7 hj),bt (j9 hj)];simp only[Qjh,hrow,ka7,hb,sp,za9,j9 (show m<n by omega),hg]
  have ht:=ab7 tV (show j<l.length by omega)
  have hd1:cur.drop (j+1)=l.drop (j+1):=Wb8 h3 1;cases hk:kv X (gL tV l j) with
  |true =>
   refine .nx ⟨(m+1,cur.set m (gL tV l j)),rfl,⟨by rw[Qjz];exact h1,?_,?_,by omega,by show m+1<=n;omega⟩,by omega⟩
   ·show (cur.set m (gL tV l j)).take (m+1)=_;rw[ht,Qjaa,Qjam (by rw[Qjz];exact hmc),Qjba,List.take_set_of_le (Qjn _),h2,Qjag,hk,if_pos rfl,List.filter_nil]
   ·show (cur.set m (gL tV l j)).drop (j+1)=_;rw[List.drop_set_of_lt (by omega),hd1]
  |false =>
   refine .nx ⟨(m,cur),rfl,⟨h1,?_,hd1,by omega,h5⟩,by omega⟩
   show cur.take m=_;rw[ht,Qjaa,h2,Qjag,hk,if_neg (by simp),List.filter_nil,Qjs]
 ·obtain⟨m,cur⟩:=x;obtain⟨hx,hjn⟩:=hx;have e:j=n:=by omega
  subst e;refine⟨1,?_,rfl,m,cur,rfl,hx⟩;simp only[A4,E2];rw[bfD (by omega)]
theorem zd1 (l : List V3) (n : Nat) (hnl : n ≤ l.length) (X : List Pln) (hl : l.length ≤ 1000000000) (hX : OkF X) :
  ∃m r,U3 ⟨n,bL tV l,X⟩=⟨1,m,bL tV r,X⟩/\m<=r.length/\r.take m=(l.take n).filter (kv X):=by
 have hlen:(l.take n).length=n:=by rw[Qje];omega
 unfold U3 F5;simp only[w5,o9,ie4 l n X hnl hl hX];cases ha:(l.take n).any λp=>!kv X p with
 |false =>
  refine⟨n,l,rfl,hnl,?_⟩
  symm
  rw[List.filter_eq_self];intro p hp
  have:=List.any_eq_false.1 ha p hp
  simpa using this
 |true =>
  have hf:=le9 ha;have hk:kv X (gL tV (l.take n) ((l.take n).findIdx λp=>!kv X p))=false:=by
   have:=Qjaf (xs:=l.take n) (p:=λp=>!kv X p) (w:=hf)
   rw[Za9 tV hf];simpa using this
  have ht:=Wb7 (λp=>!kv X p) (l.take n)
  simp only[Bool.not_not] at ht;generalize hF:(l.take n).findIdx (λp=>!kv X p)=F at *
  rw[hlen] at hf;rw[Rc9 tV l hf] at hk;rw[Qjbb,Nat.min_eq_left (by omega)] at ht
  have hW:W ((F:Int)+1)=((F+1:Nat):Int):=E6 hf (by omega)
  have hne:((F:Int)==-1)=false:=by rw[beq_eq_false_iff_ne];omega
  obtain⟨t,s,e1,rfl,m,cur,e2,e3⟩:=cd4 l n hnl X hl hX F (F+1) l ⟨rfl,by rw[ab7 tV (show F<l.length by omega),Qjaa,ht,Qjag,hk,if_neg (by simp),List.filter_nil,Qjs],rfl,by omega,by omega⟩ (by omega)
  have hm:m<=n:=e3.lm;have hin:inB (m:Int) (n+1)=true:=j9 (by omega)
  simp only[if_true,hW,hne,e1,e2,Int.toNat_natCast,hin,Qjh,Nat.sub_zero];refine⟨m,cur.take m++(List.replicate (n-m) ⟨0,0,0⟩++cur.drop (m+(n-m))),?_,?_,?_⟩
  ·rw[od1,od2,Fc0,Ta5,Ta5];rfl
  ·rw[Qjc,Qjc,Qje,Qjbc,e3.len];omega
  ·rw[Qjab (by rw[Qje,e3.len];omega),Qjbb,Nat.min_self,e3.t]
def Mc0(F:List Pln)(l:List V3):List V3:=(dis l).filter (kv F)
theorem cd5(a:V3)(l:List V3)(hl:l.length<=1000000):∃m r,ra0 (a,l)=⟨1,m,bL tV r⟩/\m<=r.length/\r.take m=dis (a::l)/\r.length<=1000000000:=by
 obtain⟨m,r,k1,k2,k3,k4⟩:=Zb1 a l hl;have hok:okL tV (l.length+1) (λk=>tV.row (gL tV (a::l) k))=true:=lb4 tV (f:=λk=>gL tV (a::l) k) λ_ _=>rfl
 have hr:=od4 (a::l) (by simp only[List.length_cons];omega) []
 rw[Qjs] at hr;unfold ra0 Y6;simp only[Bd3,Bd4,Rc7 a l hl,hok,k1,r5,Qjw,hr];exact⟨m,r,rfl,k2,k3,by omega⟩
end Go.Ev.Ce
namespace Go.Ev.Ce
open Go Go.Ev Go.Ev.L Go.Proofs Go.Sort
theorem Md8(l:List V3)(a c k:Nat)(s:List Pln)(p:Pln):p∈Kb6 l a c s k↔p∈s\/((I0 (gL tV l k) (gL tV l c) (gL tV l a)).2=true/\(p=(I0 (gL tV l k) (gL tV l c) (gL tV l a)).1\/p=pa3 (I0 (gL tV l k) (gL tV l c) (gL tV l a)).1)):=by
 unfold Kb6;generalize I0 (gL tV l k) (gL tV l c) (gL tV l a)=T;cases h2:T.2 with
 |false=>simp
 |true=>simp only[if_true,Yd3,true_and,or_assoc]
theorem te4(l:List V3)(p:Pln):p∈G0 l↔∃a,a<l.length/\∃c,c<a/\∃k,k<c/\((I0 (gL tV l k) (gL tV l c) (gL tV l a)).2=true/\(p=(I0 (gL tV l k) (gL tV l c) (gL tV l a)).1\/p=pa3 (I0 (gL tV l k) (gL tV l c) (gL tV l a)).1)):=by
 have h:p∈G0 l↔p∈[]\/_:=Xa1 (λo a p=>Xa1 (λo c p=>Xa1 (λo k p=>Md8 l a c k o p) o p c) o p a) [] p l.length
 rw[h];simp only[List.not_mem_nil,false_or]
theorem cd6{f:List Pln->Nat->List Pln}(h:∀o k,o.Nodup->(f o k).Nodup){o:List Pln}(ho:o.Nodup):∀n,((List.range n).foldl f o).Nodup
 |0=>ho
 |n+1=>by rw[I7];exact h _ _ (cd6 h ho n)
theorem Yd5(l:List V3):(G0 l).Nodup:=cd6 (λo a ho=>cd6 (λo c ho=>cd6 (λo k ho=>by
 show (Kb6 l a c o k).Nodup;unfold Kb6;split
 ·exact Fc1 (Fc1 ho)
 ·exact ho) ho c) ho a) List.nodup_nil l.length
theorem ie6{l:List V3}(hl:l.all inV=true)(p:Pln):p∈fil l (G0 l)↔gc5 l p:=by
 have hin:=Qja.1 hl;have hb:(!bey l p)=hold p l:=rfl;unfold fil;rw[Qjp,te4,hb];constructor
 ·rintro⟨⟨a,ha,c,hc,k,hk,h1,h2⟩,h3⟩;have ma:=gLm ha;have mc:=gLm (show c<l.length by omega)
  have mk:=gLm (show k<l.length by omega)
  have ht:=(ma0 h1).2
  rcases h2 with rfl|rfl
  ·exact sc4 mk mc ma ht ((jb9 ht.ok hl).1 h3)
  ·exact Yb6 mk mc ma ht ((jb9 (Xb1 ht.ok) hl).1 h3)
 ·intro h;obtain⟨u,w,x,hu,hw,hx,h3,t1,t2,t3⟩:=h.on;obtain⟨a,ha,c,hc,k,hk,hn,hall⟩:=ge8 hu hw hx h3;obtain⟨i1,i2,i3⟩:=hall (λv=>inV v=true) (hin u hu) (hin w hw) (hin x hx)
  obtain⟨e1,e2,e3⟩:=hall (λv=>dot p.n v=p.b) t1 t2 t3
  have h2:=La2 i3 i2 i1 (Xd1 hn).2.2.1;exact⟨⟨a,ha,c,hc,k,hk,h2,Yb5 (ma0 h2).2 h.ok e3 e2 e1⟩,(jb9 h.ok hl).2 h.hd⟩
theorem Sc5{l r:List V3}(h:∀v,v∈r↔v∈l){p:Pln}(hp:gc5 l p):gc5 r p:=by
 obtain⟨⟨hd,u,w,x,hu,hw,hx,e⟩,ok⟩:=hp;exact⟨⟨λv hv=>hd v ((h v).1 hv),u,w,x,(h u).2 hu,(h w).2 hw,(h x).2 hx,e⟩,ok⟩
theorem zd2{l:List Pln}(h:l.Nodup):La1 (Hb6 l):=by
 have h1:=Zc4 l;have h2:(Hb6 l).Nodup:=(Cc2 l).nodup_iff.2 h;have h3:=h1.and h2;refine h3.imp λ{x y} ⟨k1,k2⟩=>?_
 rw[Fa8] at k1;have k1:¬ LtP y x:=by simpa using k1
 rcases Dd7 x y with h|h|h
 ·exact h
 ·exact absurd h k2
 ·exact absurd h k1
theorem ie7{l:List V3}(hl:l.all inV=true):(dis l).all inV=true:=Qja.2 λv hv=>Qja.1 hl v ((Zb0 l v).1 hv)
theorem pd2{l:List V3}(hl:l.all inV=true):Hb6 (fil (dis l) (G0 (dis l)))=F0 l:=by
 refine Rc0 (zd2 ((Yd5 (dis l)).filter _)) (yd3 l) λp=>?_
 rw[(Cc2 _).mem_iff,ie6 (ie7 hl),R6 hl];exact⟨Sc5 λv=>(Zb0 l v).symm,Sc5 (Zb0 l)⟩
theorem Ae1{l:List V3}(hl:l.all inV=true)(h4:Sol l):F0 l≠[]:=λe=>by
 have h:=Eb5 h4 (Ed2 hl (c:=[]) λp hp=>by rw[<- R6 hl,e] at hp;exact hp) (x:=⟨100,0,0,1⟩) ⟨by show (0:Int)<1;omega,λp hp=>by cases hp⟩ (h:=⟨⟨1,0,0⟩,24⟩) λv hv=>by
  obtain⟨⟨a1,a2⟩,_,_⟩:=(la9 v).1 (Qja.1 hl v hv);simp only[dot];omega
 simp only[rmZ] at h;omega
theorem Sc6{l:List V3}(h48:l.length<=48)(hl:l.all inV=true)(h4:Sol l):Da6 l=0:=by
 have hin:=Qja.1 hl;unfold Da6;rw[if_neg (by omega),if_neg (by rw[<- List.not_all_eq_any_not,hl];simp)]
 have h1:(ixs l.length).any (sp1 l)=true:=by
  obtain⟨a,c,k,v,ha,hc,hk,hv,hd⟩:=h4;obtain⟨i',hi,j',hj,k',hk',hn,hall⟩:=ge8 ha hc hk (Ec7 hd);obtain⟨i1,i2,i3⟩:=hall (λv=>inV v=true) (hin _ ha) (hin _ hc) (hin _ hk)
  have ht:=La2 i3 i2 i1 (Xd1 hn).2.2.1;have mem:∀{n m:Nat},m<n->((m:Nat):Int)∈ixs n:=λ{n m} h=>Qjd.2 ⟨m,Qjj.2 h,rfl⟩
  refine Qjb.2 ⟨_,mem hi,?_⟩;unfold sp1;rw[Int.toNat_natCast];refine Qjb.2 ⟨_,mem hj,?_⟩;unfold sp2;rw[Int.toNat_natCast];refine Qjb.2 ⟨gL tV l k',?_,ht⟩;rw[<- Rc9 tV l hk'];exact Ma5 tV (by rw[Qje];omega)
 have h2:Zb2 l=false:=by
  unfold Zb2;rw[if_pos h1];obtain⟨hi,k1⟩:=Eb7 h1;have k1:(ixs (iF l)).any (sp2 l (iF l))=true:=k1;obtain⟨hj,k2⟩:=Eb7 k1;have k2:(l.take (jF l)).any (λv=>(I0 v (gL tV l (jF l)) (gL tV l (iF l))).2)=true:=k2
  have hj:jF l<iF l:=hj;have hi:iF l<l.length:=hi;have hk:=bd8 k2;have hk2:=Qjaf (xs:=l.take (jF l)) (p:=λv=>(I0 v (gL tV l (jF l)) (gL tV l (iF l))).2) (w:=hk)
  rw[<- Za9 tV hk,Rc9 tV l (by rw[Qje] at hk;omega)] at hk2
  have hok:okp (plF l)=true:=(ma0 hk2).2.ok;obtain⟨v,hv,hne⟩:=h4.off (Kb5 hok) (plF l).b;rw[Bool.not_eq_false',Qjb];refine⟨v,hv,?_⟩
  have:ea5 (plF l) v≠0:=λe=>hne ((Eb4 hok (hin v hv)).1 e)
  simpa using this
 rw[h2];rfl
theorem ie8(l r:List Pln)(n:Nat)(hn:n=l.length):(two (r1L tP) r1I).rd (.tup [.sl 0 0 n 0,i 0],[⟨45,4,bL tP (l++r),true,false,0⟩])=some (l,0):=by
 subst hn;have h:(r1L tP).rd [⟨45,4,bL tP (l++r),true,false,0⟩] (.sl 0 0 l.length 0)=some l:=by
  show Bool.rec (motive:=λ_=>Option (List Pln)) none (some (slR tP (bL tP (l++r)) 0 l.length)) (Bool.and true (okS tP (bL tP (l++r)) 0 l.length))=_
  rw[Vd6 _ _ (by rw[Qjc];omega),Vd7 _ _ (by rw[Qjc];omega),List.take_left']
  ·rfl
  ·rfl
 simp only[two,h];rfl
theorem Md9(a:V3)(l:List V3)(h48:(a::l).length<=48)(hl:(a::l).all inV=true)(h4:Sol (a::l)):Rd (two (r1L tP) r1I) (ha9 (a,l)) (λr=>r=(F0 (a::l),0)):=by
 have hc:=Sc6 h48 hl h4;have hdl:=bd7 (a::l);have hll:l.length<=1000000:=by simp only[List.length_cons] at h48;omega
 obtain⟨j,e⟩:=te3 (dis (a::l)) (by omega)
 have hf:=pd2 hl;have hne:fil (dis (a::l)) (G0 (dis (a::l)))≠[]:=λe=>by
  rw[e] at hf;have h0:Hb6 []=[]:=Ld9;rw[h0] at hf;exact Ae1 hl h4 hf.symm
 have hok:okL tV (l.length+1) (λk=>tV.row (gL tV (a::l) k))=true:=lb4 tV (f:=λk=>gL tV (a::l) k) λ_ _=>rfl
 have hlen:(fil (dis (a::l)) (G0 (dis (a::l)))).length<=1000000:=by
  have h1:=cd0 (dis (a::l)) (G0 (dis (a::l)));have h2:(G0 (dis (a::l))).length<=_:=cd1 (dis (a::l)) (by omega) _ (Qjn _)
  omega
 unfold ha9;simp only[w5,lb5,o9,Bd3,Bd4,hok,od7 (a::l) (by omega),od6 (a::l) (by omega),hc,yd5 a l hll,yd6 a l hll,e]
 generalize fil (dis (a::l)) (G0 (dis (a::l)))=O at *
 cases O with
 |nil=>exact absurd rfl hne
 |cons q o =>
  have hr:(Bool.and (Nat.ble (q::o).length room) (Bool.and (Nat.ble (q::o).length (len (bL tP (q::o)))) (okS tP (bL tP (q::o)) 0 (q::o).length)))=true:=by
   rw[Mb8,ka7,Qjl,Qjl,Qjav,Qjav];refine⟨by unfold room;omega,Qjn _,rfl⟩
  simp only[phP,hr,vb0,fe9,Ta5,hf];exact⟨_,(F0 (a::l),0),rfl,ie8 _ _ _ (by rw[<- hf,Db5]),rfl⟩
theorem Yd6{l:List V3}(hl:l.all inV=true){v:V3}(hv:v∈l):kv (F0 l) v=true↔Spn (F0 l) v:=by
 have hin:=Qja.1 hl;have hs:∀p∈F0 l,(ea5 p v==0)=true↔dot p.n v=p.b:=λp hp=>by rw[beq_iff_eq];exact Eb4 (Xd0 hp).ok (hin v hv)
 unfold kv own;rw[ie3];constructor
 ·rintro⟨p,q,s,hp,hq,hs',hw⟩;rw[Qjp] at hp hq hs';exact⟨p,q,s,hp.1,hq.1,hs'.1,hw,(hs p hp.1).1 hp.2,(hs q hq.1).1 hq.2,(hs s hs'.1).1 hs'.2⟩
 ·rintro⟨p,q,s,hp,hq,hs',hw,e1,e2,e3⟩;exact⟨p,q,s,Qjp.2 ⟨hp,(hs p hp).2 e1⟩,Qjp.2 ⟨hq,(hs q hq).2 e2⟩,Qjp.2 ⟨hs',(hs s hs').2 e3⟩,hw⟩
end Go.Ev.Ce
namespace Go.Ev.Ce
open Go Go.Ev Go.Ev.L Go.Proofs
structure B8(v:V3):Prop where
 x:Sm 8 v.x
 y:Sm 8 v.y
 z:Sm 8 v.z
structure Mp(l:List V3):Prop where
 l4:4<=l.length
 l8:l.length<=8
 bd:∀v∈l,Sm 11 v.x/\Sm 11 v.y/\Sm 11 v.z
 nf:nf0 l=true
theorem Mp.inV{l:List V3}(h:Mp l):l.all inV=true:=Qja.2 λv hv=>by
 obtain⟨h1,h2,h3⟩:=h.bd v hv;exact (la9 v).2 ⟨h1.mono (by omega),h2.mono (by omega),h3.mono (by omega)⟩
theorem Ae2{l:List V3}(hl:l.all Ce.inV=true)(h4:Sol l):nf0 l=true:=by
 have hin:=Qja.1 hl;obtain⟨a,c,k,v,ha,hc,hk,hv,hd⟩:=h4;obtain⟨i',hi,j',hj,k',hk',hn,hall⟩:=ge8 ha hc hk (Ec7 hd);obtain⟨i1,i2,i3⟩:=hall (λv=>Ce.inV v=true) (hin _ ha) (hin _ hc) (hin _ hk)
 have ht:=La2 i1 i2 i3 hn;refine Qjb.2 ⟨i',Qjj.2 hi,Qjb.2 ⟨j',Qjj.2 hj,Qjb.2 ⟨k',Qjj.2 hk',?_⟩⟩⟩;unfold nf Wd3;rw[ht,Bool.true_and,Qjb];have hok:=(ma0 ht).2.ok;obtain⟨w,hw,hne⟩:=Sol.off ⟨a,c,k,v,ha,hc,hk,hv,hd⟩ (Kb5 hok) (I0 (gL tV l i') (gL tV l j') (gL tV l k')).1.b;refine⟨w,hw,?_⟩
 have:ea5 (I0 (gL tV l i') (gL tV l j') (gL tV l k')).1 w≠0:=λe=>hne ((Eb4 hok (hin w hw)).1 e)
 simpa using this
theorem Yd7{l:List V3}(h4:4<=l.length)(h8:l.length<=8)(hb:∀v∈l,B8 v)(hf:nf0 l=true):Mp l:=⟨h4,h8,λv hv=>⟨(hb v hv).x.mono (by omega),(hb v hv).y.mono (by omega),(hb v hv).z.mono (by omega)⟩,hf⟩
theorem te5{l:List V3}(h4:4<=l.length)(h8:l.length<=8)(hb:∀v∈l,B8 v):Mp (((l.set 1 ⟨W ((gL tV l 0).x-3),(gL tV l 0).y,(gL tV l 0).z⟩).set 2 ⟨(gL tV l 0).x,W ((gL tV l 0).y-2),(gL tV l 0).z⟩).set 3 ⟨(gL tV l 0).x,(gL tV l 0).y,W ((gL tV l 0).z-1)⟩):=by
 match l,h4,h8,hb with
 |a::b::c::d::l,h4,h8,hb =>
  have ha:=hb a Qjy;have g0:gL tV (a::b::c::d::l) 0=a:=rfl;rw[g0];obtain⟨x1,x2⟩:=ha.x;obtain⟨y1,y2⟩:=ha.y;obtain⟨z1,z2⟩:=ha.z;rw[aa4 (n:=a.x-3) (by omega) (by omega),aa4 (n:=a.y-2) (by omega) (by omega),aa4 (n:=a.z-1) (by omega) (by omega)]
  show Mp (a::⟨a.x-3,a.y,a.z⟩::⟨a.x,a.y-2,a.z⟩::⟨a.x,a.y,a.z-1⟩::l);have bd:∀v∈(a::⟨a.x-3,a.y,a.z⟩::⟨a.x,a.y-2,a.z⟩::⟨a.x,a.y,a.z-1⟩::l:List V3),Sm 11 v.x/\Sm 11 v.y/\Sm 11 v.z:=λv hv=>by
   simp only[Qjx] at hv;unfold Sm
   rcases hv with rfl|rfl|rfl|rfl|hv
   ·omega
   ·simp only;omega
   ·simp only;omega
   ·simp only;omega
   ·have:=hb v (by simp[hv])
    obtain⟨⟨k1,k2⟩,⟨k3,k4⟩,k5,k6⟩:=this;omega
  refine⟨by simp only[List.length_cons];omega,by simp only[List.length_cons] at h8 ⊢;omega,bd,Ae2 (Qja.2 λv hv=>?_) ?_⟩
  ·obtain⟨h1,h2,h3⟩:=bd v hv;exact (la9 v).2 ⟨h1.mono (by omega),h2.mono (by omega),h3.mono (by omega)⟩
  ·refine⟨a,⟨a.x-3,a.y,a.z⟩,⟨a.x,a.y-2,a.z⟩,⟨a.x,a.y,a.z-1⟩,by simp,by simp,by simp,by simp,?_⟩
   have e:dot (N3 a ⟨a.x-3,a.y,a.z⟩ ⟨a.x,a.y-2,a.z⟩) (o8 ⟨a.x,a.y,a.z-1⟩ a)=-6:=by simp only[dot,N3,d7,o8];grind
   rw[e];decide
theorem pd3 (x : List Int) (N : Nat) (h4 : 4 ≤ N) (h8 : N ≤ 8) (j0 : Int) (hj0 : 0 ≤ j0 ∧ j0 ≤ 10) :
  ∃idx out,lp (va6 ⟨(N:Int)⟩) ⟨0,0,x,j0,0,[]⟩=(2,⟨1,(N:Int),x,idx,N,bL tV out⟩)/\out.length=N/\∀v∈out,B8 v:=by
 have key:=aa3 (step:=va6 ⟨(N:Int)⟩) (mk:=λj (a:Int×List V3)=>(⟨phV a.2,(j:Int),x,a.1,a.2.length,bL tV a.2⟩:v7)) N
  (λj a=>a.2.length=j/\0<=a.1/\a.1<=10+4*j/\j<=N/\∀v∈a.2,B8 v) (λt s=>t=2/\∃idx out,s=⟨1,(N:Int),x,idx,N,bL tV out⟩/\out.length=N/\∀v∈out,B8 v) (by omega) (λj a hj ha=>?_) (λj a hj ha=>?_) 0 (j0,[]) ⟨rfl,hj0.1,by omega,by omega,λv hv=>by cases hv⟩
 ·obtain⟨t,s,e1,rfl,idx,out,e2,e3⟩:=key;exact⟨idx,out,by rw[<- e2];exact e1,e3.1,e3.2⟩
 ·obtain⟨at0,out⟩:=a;obtain⟨ho,ha1,ha2,_,hB⟩:=ha
  simp only at ho ha1 ha2 hB
  have hn:=E6 hj (show N<=4611686018427387904 by omega)
  obtain⟨v1,j1,d1,p1,q1,c1,b1⟩:=Ca5 17 x at0 ha1 (by omega) (by omega) (by omega)
  obtain⟨v2,j2,d2,p2,q2,c2,b2⟩:=Ca5 17 x j1 (by omega) (by omega) (by omega) (by omega)
  obtain⟨v3,j3,d3,p3,q3,c3,b3⟩:=Ca5 17 x j2 (by omega) (by omega) (by omega) (by omega)
  obtain⟨v4,j4,d4,_,_,c4,b4⟩:=Ca5 6 x j3 (by omega) (by omega) (by omega) (by omega)
  have s1:Sm 8 (W (v1-8)):=by unfold Sm;rw[aa4 (by omega) (by omega)];omega
  have s2:Sm 8 (W (v2-8)):=by unfold Sm;rw[aa4 (by omega) (by omega)];omega
  have s3:Sm 8 (W (v3-8)):=by unfold Sm;rw[aa4 (by omega) (by omega)];omega
  have leaf : ∀ (E : Nat → Prop) (x1 x2 x3 : Int), Sm 8 x1 → Sm 8 x2 → Sm 8 x3 → Nx (.next (⟨1, ((j + 1 : Nat) : Int), x, j4, j + 1, bL tV (out ++ [⟨x1, x2, x3⟩])⟩ : v7)) E
    (λs=>∃a':Int×List V3,s=⟨phV a'.2,((j+1:Nat):Int),x,a'.1,a'.2.length,bL tV a'.2⟩/\a'.2.length=j+1/\0<=a'.1/\a'.1<=10+4*((j+1:Nat):Int)/\j+1<=N/\∀v∈a'.2,B8 v):=λE x1 x2 x3 k1 k2 k3=>by
   have hl:(out++[(⟨x1,x2,x3⟩:V3)]).length=j+1:=by simp[ho]
   exact .nx ⟨(j4,out++[⟨x1,x2,x3⟩]),by simp only[Dd6,hl],hl,by show 0<=j4;omega,by show j4<=_;omega,by omega,λv hv=>by
    rcases Qjai.1 hv with h|h
    ·exact hB v h
    ·rw[Qjar.1 h];exact⟨k1,k2,k3⟩⟩
  cases out with
  |nil =>
   have hj0':j=0:=by simpa using ho.symm
   subst hj0';show Nx (fa9 Stp.next Stp.exit Stp.fail _ _) _ _;simp only[fa9,w5,o9,d1,d2,d3,d4,hn];rw[btD (q7 hj)];have f1:decide (((0:Nat):Int)>1)=false:=rfl;have f2:decide (((0:Nat):Int)>0)=false:=rfl;have f3:decide (((0:Nat):Int)>2)=false:=rfl;have lf:∀(E:Nat->Prop) (x1 x2 x3:Int),Sm 8 x1->Sm 8 x2->Sm 8 x3->Nx (.next (⟨1,((0+1:Nat):Int),x,j4,1,[[i x1,i x2,i x3]]⟩:v7)) E _:=leaf;simp only[f1,f2,f3,sa9,Qjw,Qjt,r5];refine Nx.sl (λ_=>?_) (λ_=>?_)<;>refine Nx.sl (λ_=>?_) (λ_=>?_)
   all_goals first
    |exact lf _ _ _ _ (by assumption) (by assumption) (by assumption)
    |(refine Nx.sl (λ_=>?_) (λ_=>?_)<;>exact lf _ _ _ _ (by assumption) (by assumption) (by assumption))
  |cons o os =>
   have h1:1<=j:=by simp only[List.length_cons] at ho;omega
   generalize hO:o::os=O at *
   have hph:phV O=1:=by subst hO;rfl
   have w1:W ((j:Int)-1)=((j-1:Nat):Int):=by rw[aa4 (by omega) (by omega)];omega
   have i1:inB ((j-1:Nat):Int) j=true:=j9 (by omega)
   have r1:=ze3 (l:=O) (m:=j-1) (by omega)
   have r1':=ze4 (l:=O) (m:=j-1) (by omega)
   have rr:=le7 ho (by omega)
   have gx:∀m,m<O.length->Sm 8 (toI (hdA (j6 (i8 (bL tV O) (0+m)) 0)))/\Sm 8 (toI (hdA (tlA (j6 (i8 (bL tV O) (0+m)) 0))))/\Sm 8 (toI (hdA (tlA (tlA (j6 (i8 (bL tV O) (0+m)) 0)))))/\Sm 8 (toI (hdA (j6 (i8 (bL tV O) (0+m)) 2))):=λm hm=>by
    rw[Qjh,O3 tV hm]
    have:=hB _ (Ma5 tV hm)
    exact⟨this.x,this.y,this.z,this.z⟩
   have md:∀{A C:Int},Sm 8 A->Sm 8 C->Sm 8 (W (Int.tdiv (W (A+C)) 2)):=λ{A C} ⟨h1,h2⟩ ⟨h3,h4⟩=>by
    unfold Sm;rw[aa4 (n:=A+C) (by omega) (by omega)]
    obtain⟨m1,m2,m3⟩:=md4 (x:=A+C) (y:=2) (by omega)
    rw[aa4 (by omega) (by omega)]
    omega
   obtain⟨gx1,gy1,gz1,gw1⟩:=gx (j-1) (by omega)
   have f2:∀{inst:Decidable ((j:Int)>0)},@decide ((j:Int)>0) inst=true:=decide_eq_true (by omega)
   show Nx (sel (Nat.beq (phV O) 1) (I5 Stp.next Stp.exit Stp.fail _ _) _) _ _;rw[hph];show Nx (I5 Stp.next Stp.exit Stp.fail _ _) _ _;by_cases h2:2<=j
   ·have w2:W ((j:Int)-2)=((j-2:Nat):Int):=by rw[aa4 (by omega) (by omega)];omega
    have i2:inB ((j-2:Nat):Int) j=true:=j9 (by omega)
    have r2:=ze3 (l:=O) (m:=j-2) (by omega)
    obtain⟨gx2,gy2,gz2,gw2⟩:=gx (j-2) (by omega)
    have mx:=md gx1 gx2;have my:=md gy1 gy2;have mz:=md gz1 gz2;simp only[I5,w5,o9,d1,d2,d3,d4,hn,ho,w1,w2,i1,i2,Int.toNat_natCast,r1,r1',r2,rr,Cc0];rw[btD (q7 hj)];simp only[Qjw,Qjt,r5]
    repeat' (first | exact leaf _ _ _ _ (by assumption) (by assumption) (by assumption) | refine Nx.sl (λ_=>?_) (λ_=>?_))
   ·have hj1:j=1:=by omega
    subst hj1;simp only[I5,w5,o9,d1,d2,d3,d4,hn,ho,w1,i1,Int.toNat_natCast,r1,r1',rr,Cc0];have f1:decide (((1:Nat):Int)>1)=false:=rfl;rw[btD (q7 hj)];simp only[f1,sa9,Qjw,Qjt,r5]
    repeat' (first | exact leaf _ _ _ _ (by assumption) (by assumption) (by assumption) | refine Nx.sl (λ_=>?_) (λ_=>?_))
 ·obtain⟨at0,out⟩:=a;obtain⟨ho,ha1,ha2,hjN,hB⟩:=ha
  simp only at ho ha1 ha2 hB
  have hj':j=N:=by omega
  subst hj';cases out with
  |nil=>simp only[List.length_nil] at ho;omega
  |cons o os =>
   refine⟨2,?_,rfl,at0,o::os,by rw[ho];rfl,ho,hB⟩
   show I5 Stp.next Stp.exit Stp.fail _ _=_;simp only[I5];rw[bfD (by omega)]
theorem Nd0(x:List Int):Rd (one (r1L tV)) (V9 x) Mp:=by
 obtain⟨v,j,e1,a1,b1,c1,d1⟩:=Ca5 5 x 0 (by omega) (by omega) (by omega) (by omega)
 have hN:W (4+v)=(((4+v).toNat:Nat):Int):=by rw[aa4 (by omega) (by omega)];omega
 obtain⟨idx,out,e2,e3,hB⟩:=pd3 x (4+v).toNat (by omega) (by omega) j (by omega)
 unfold V9;simp only[w5,o9,e1,hN,e2];have h4:4<=(4+v).toNat:=by omega
 have h8:(4+v).toNat<=8:=by omega
 generalize (4+v).toNat=N at *
 have s1:lsL tV N (λk=>i8 (bL tV out) (0+k))=out:=by rw[<- e3];exact vb0 tV out
 have s2:okL tV N (λk=>i8 (bL tV out) (0+k))=true:=by rw[<- e3];exact Mb8 tV out
 have gf:Ga2 out=true:=Vd5 out (by omega)
 rw[s1,s2,gf,Wd7 out (by omega)]
 simp only[Qjw,Qjt,r5,show Nat.beq 2 1=false from rfl,sa9]
 refine Rd.sl (λ_=>?_) λhnf=>Cc1 e3.symm rfl (Yd7 (by omega) (by omega) hB (by simpa using hnf))
 have i0:inB 0 N=true:=j9 (j:=0) (by omega)
 have i1:inB 1 N=true:=j9 (j:=1) (by omega)
 have i2:inB 2 N=true:=j9 (j:=2) (by omega)
 have i3:inB 3 N=true:=j9 (j:=3) (by omega)
 have sp:∀(v:V3) (x1 x2 x3:Int),C9 (tV.row v) 0 [i x1,i x2,i x3]=tV.row ⟨x1,x2,x3⟩:=λ_ _ _ _=>rfl
 have rl:∀v:V3,Nat.ble (0+3) (len (tV.row v))=true:=λ_=>rfl
 have ck:∀v:V3,ra5 [CK.int .i64,CK.int .i64,CK.int .i64] (j6 (tV.row v) 0)=true:=λ_=>rfl
 have gr:∀(l:List V3) (k:Nat),l.length=N->k<4->i8 (bL tV l) k=tV.row (gL tV l k):=λl k hl hk=>O3 tV (by omega)
 have bl:∀(l:List V3) (k:Nat),l.length=N->k<4->Nat.blt k (len (bL tV l))=true:=λl k hl hk=>by rw[ka7,Nat.blt_eq];omega
 have ls:∀(l:List V3) (k:Nat) (v:V3),l.length=N->(l.set k v).length=N:=λl k v hl=>by rw[Qjz];exact hl
 rw[gr out 0 e3 (by omega),gr out 1 e3 (by omega)]
 simp only[sp,za9];rw[gr _ 2 (ls out 1 _ e3) (by omega)]
 simp only[sp,za9];rw[gr _ 3 (ls _ 2 _ (ls out 1 _ e3)) (by omega)]
 simp only[sp,za9,rl,ck,i0,i1,i2,i3,bl out 0 e3 (by omega),bl out 1 e3 (by omega),bl _ 2 (ls out 1 _ e3) (by omega),bl _ 3 (ls _ 2 _ (ls out 1 _ e3)) (by omega),Qjt,r5]
 exact Cc1 (by simp only[Qjz];omega) rfl (te5 (by omega) (by omega) hB)
theorem pd4(x:List Int):Mp (R3 x):=(Nd0 x).p
theorem Ha3{l:List V3}(h:Da6 l=0):l.length<=48/\l.all inV=true/\Sol l:=by
 unfold Da6 at h
 split at h
 ·cases h
 rename_i h48
 split at h
 ·cases h
 rename_i hin
 split at h
 ·cases h
 rename_i hf;have hl:l.all inV=true:=by
  rw[Qja];intro v hv;cases hi:inV v with
  |true=>rfl
  |false=>exact absurd (Qjb.2 ⟨v,hv,by rw[hi];rfl⟩) hin
 have hin2:=Qja.1 hl;refine⟨by omega,hl,?_⟩
 have hf:Zb2 l=false:=Bool.eq_false_iff.2 hf;unfold Zb2 at hf
 split at hf
 ·rename_i h1;obtain⟨hi,k1⟩:=Eb7 h1;have k1:(ixs (iF l)).any (sp2 l (iF l))=true:=k1;obtain⟨hj,k2⟩:=Eb7 k1;have k2:(l.take (jF l)).any (λv=>(I0 v (gL tV l (jF l)) (gL tV l (iF l))).2)=true:=k2
  have hj:jF l<iF l:=hj;have hi:iF l<l.length:=hi;have hk:=bd8 k2;have hk2:=Qjaf (xs:=l.take (jF l)) (p:=λv=>(I0 v (gL tV l (jF l)) (gL tV l (iF l))).2) (w:=hk)
  rw[Qje] at hk;rw[<- Za9 tV (by rw[Qje];exact hk),Rc9 tV l (by omega)] at hk2
  have ht:=(ma0 hk2).2;rw[Bool.not_eq_false',Qjb] at hf;obtain⟨v,hv,hne⟩:=hf;have hne:ea5 (plF l) v≠0:=bne_iff_ne.1 hne;have ht:Thr (gL tV l (kF l)) (gL tV l (jF l)) (gL tV l (iF l)) (plF l):=ht;have hkl:kF l<l.length:=by
   have:kF l<min (jF l) l.length:=hk
   omega
  have hoff:dot (plF l).n v≠(plF l).b:=λe=>hne ((Eb4 ht.ok (hin2 v hv)).2 e)
  refine⟨_,_,_,v,gLm hkl,gLm (show jF l<l.length by omega),gLm hi,hv,λh0=>hoff ?_⟩
  obtain⟨ok,⟨g,hg,e1,e2,e3⟩,o⟩:=ht;have e:g*(dot (plF l).n v-(plF l).b)=dot (N3 (gL tV l (kF l)) (gL tV l (jF l)) (gL tV l (iF l))) (o8 v (gL tV l (kF l))):=by
   have e1:g*(plF l).n.x=(N3 (gL tV l (kF l)) (gL tV l (jF l)) (gL tV l (iF l))).x:=e1;have e2:g*(plF l).n.y=(N3 (gL tV l (kF l)) (gL tV l (jF l)) (gL tV l (iF l))).y:=e2;have e3:g*(plF l).n.z=(N3 (gL tV l (kF l)) (gL tV l (jF l)) (gL tV l (iF l))).z:=e3;rw[o];simp only[dot];rw[<- e1,<- e2,<- e3];simp only[o8]
   grind
  rw[h0] at e
  have:=(Qjf.1 e).resolve_left (by omega)
  omega
 ·cases hf
def X2(l:List V3):List Pln×Int:=if Da6 l=0 then (F0 l,0) else ([],Da6 l)
def Da7(l:List V3):List V3×Int:=if Da6 l=0 then (Mc0 (F0 l) l,0) else ([],Da6 l)
theorem pd5{l:List V3}(h48:l.length<=48)(hl:l.all inV=true):(F0 l).length<=1000000:=by
 have h1:=cd0 (dis l) (G0 (dis l));have hd:=bd7 l;have h2:(G0 (dis l)).length<=_:=cd1 (dis l) (by omega) _ (Qjn _)
 rw[<- pd2 hl,Db5];omega
theorem pb0(a:V3)(l:List V3)(hl:l.length<=900000):Rd (two (r1L tP) r1I) (ha9 (a,l)) (λr=>r=X2 (a::l)):=by
 by_cases h:Da6 (a::l)=0
 ·obtain⟨h1,h2,h3⟩:=Ha3 h;unfold X2;rw[if_pos h];exact Md9 a l h1 h2 h3
 ·have hll:(a::l).length<=1000000:=by simp only[List.length_cons];omega
  have hne:(Da6 (a::l) != 0)=true:=bne_iff_ne.2 h;unfold X2 ha9;rw[if_neg h];simp only[w5,lb5,o9,od7 (a::l) hll,od6 (a::l) hll,hne,r5];exact⟨_,([],Da6 (a::l)),rfl,rfl,rfl⟩
def ua9(l:List V3):List Pln×Int:=X2 l
def Y0(l:List V3):Bool:=decide (1<=l.length/\l.length<=900000)
def Kb7:Sum:=K2 (La8 tV) λl=>.guard (Y0 l) (.ret ((two (r1L tP) r1I).enc (ua9 l),[]))
def Kb8:Sum:=λargs blks=>match args,blks with
 |[.v (.slice none 0 0)],[]=>eb0 args blks
 |_,_=>Kb7 args blks
theorem Yd8{f:Nat}{A B:Sum}(hA:g8 prog G f A)(hB:g8 prog G f B):g8 prog G f (λargs blks=>match args,blks with
 |[.v (.slice none 0 0)],[]=>A args blks
 |_,_=>B args blks):=by
 intro args blks r out he
 simp only at he
 split at he
 ·exact hA _ _ r out he
 ·exact hB _ _ r out he
theorem Fc3:g8 prog G 11 Kb7:=by
 refine Ud6 (Eb0 Ib6 λa r hr=>?_) (Eb0 Wa8 λa r hr=>?_) (Eb0 xb6 λa r hr=>?_)
 ·obtain⟨p,c⟩:=a;obtain⟨hg,hr⟩:=DT.run_guard_some hr;have hl:c.length<=900000:=by
   have:=(of_decide_eq_true hg).2
   simp only[List.length_cons] at this;omega
  have hp:Qa0 (p,c)=X2 (p::c):=(pb0 p c hl).p;have hq:Qa1 (p,c)=true:=(pb0 p c hl).g;rw[hp,hq];exact hr
 ·obtain⟨hg,hr⟩:=DT.run_guard_some hr;exact absurd (of_decide_eq_true hg).1 (by simp)
 ·obtain⟨hg,hr⟩:=DT.run_guard_some hr;exact absurd (of_decide_eq_true hg).1 (by simp)
theorem Fc4:g8 prog G 11 Kb8:=Yd8 Wa8 Fc3
theorem Zb3(a:V3)(l:List V3)(hl:l.length<=900000):Rd (two (r1L tV) r1I) (oa7 (a,l)) (λr=>r=Da7 (a::l)):=by
 have hok:okL tV (l.length+1) (λk=>tV.row (gL tV (a::l) k))=true:=lb4 tV (f:=λk=>gL tV (a::l) k) λ_ _=>rfl
 have hp:Qa0 (a,l)=X2 (a::l):=(pb0 a l hl).p;have hq:Qa1 (a,l)=true:=(pb0 a l hl).g;unfold Da7;unfold oa7;simp only[w5,lb5,o9,Bd3,Bd4,hok,hp,hq,r5];unfold X2;by_cases h:Da6 (a::l)=0
 ·obtain⟨h1,h2,h3⟩:=Ha3 h;have hF:OkF (F0 (a::l)):=⟨pd5 h1 h2,λp hp=>(Xd0 hp).ok⟩
  obtain⟨m,r,e1,e2,e3,e4⟩:=cd5 a l (by omega)
  obtain⟨m',r',k1,k2,k3⟩:=zd1 r m e2 (F0 (a::l)) e4 hF;rw[if_pos h,if_pos h];simp only[e1,k1];refine⟨_,(r'.take m',0),rfl,?_,by rw[k3,e3];rfl⟩
  have h:(r1L tV).rd [⟨29,3,bL tV r',true,false,0⟩] (.sl 0 0 m' 0)=some (r'.take m'):=by
   show Bool.rec (motive:=λ_=>Option (List V3)) none (some (slR tV (bL tV r') 0 m')) (Bool.and true (okS tV (bL tV r') 0 m'))=_
   rw[Rc6 _ _ k2,gc7 _ _ k2];rfl
  simp only[two,h];rfl
 ·have hne:(Da6 (a::l) != 0)=true:=bne_iff_ne.2 h;rw[if_neg h,if_neg h];simp only[hne,r5];exact⟨_,([],Da6 (a::l)),rfl,rfl,rfl⟩
def ba7(l:List V3):List V3×Int:=Da7 l
def C0(l:List V3):Bool:=decide (1<=l.length/\l.length<=900000)
def rb1:Sum:=K2 (La8 tV) λl=>.guard (C0 l) (.ret ((two (r1L tV) r1I).enc (ba7 l),[]))
def rb2:Sum:=λargs blks=>match args,blks with
 |[.v (.slice none 0 0)],[]=>qb7 args blks
 |_,_=>rb1 args blks
theorem gc9:g8 prog G 13 rb1:=by
 refine Ud6 (Eb0 oc4 λa r hr=>?_) (Eb0 jb3 λa r hr=>?_) (Eb0 ec8 λa r hr=>?_)
 ·obtain⟨p,c⟩:=a;obtain⟨hg,hr⟩:=DT.run_guard_some hr;have hl:c.length<=900000:=by
   have:=(of_decide_eq_true hg).2
   simp only[List.length_cons] at this;omega
  have hp:xb4 (p,c)=Da7 (p::c):=(Zb3 p c hl).p;have hq:xb5 (p,c)=true:=(Zb3 p c hl).g;rw[hp,hq];exact hr
 ·obtain⟨hg,hr⟩:=DT.run_guard_some hr;exact absurd (of_decide_eq_true hg).1 (by simp)
 ·obtain⟨hg,hr⟩:=DT.run_guard_some hr;exact absurd (of_decide_eq_true hg).1 (by simp)
theorem hc3:g8 prog G 13 rb2:=Yd8 jb3 gc9
theorem Je8(O:List V3)(v:V3):app (bL tV O) [[i v.x,i v.y,i v.z]]=bL tV (O++[v]):=Ta5 tV O [v]
def rch(n e:V3):Int:=(n.x.natAbs:Int)*e.x+(n.y.natAbs:Int)*e.y+(n.z.natAbs:Int)*e.z
def pq(e:V3)(s:Int)(p:Pln):Pln:=⟨p.n,p.b+s*rch p.n e⟩
def okq(e:V3)(s:Int)(p:Pln):Bool:=okp p&&smb 2097152 (p.b+s*rch p.n e)
structure B12(e:V3):Prop where
 x1:0<=e.x
 x2:e.x<=12
 y1:0<=e.y
 y2:e.y<=12
 z1:0<=e.z
 z2:e.z<=12
section
variable(c:List Pln)(e:V3)(s:Int)
structure PI(j:Nat)(o:List Pln):Prop where
 le:j<=c.length
 o:o=(c.take j).map (pq e s)
 a:(c.take j).all (okq e s)=true
end
section
variable(c:List Pln)(e:V3)(hc:c.length<=1000000)
include hc
end
end Go.Ev.Ce
