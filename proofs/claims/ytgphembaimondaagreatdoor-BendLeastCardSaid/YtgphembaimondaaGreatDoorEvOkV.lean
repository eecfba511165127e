/- Own work. -/
import Derived.Test.YtgphembaimondaaGreatDoorEvOkDa
import Derived.Test.YtgphembaimondaaGreatDoorEvOkDc
import Derived.Test.YtgphembaimondaaGreatDoorEvOkDd
import Derived.Test.YtgphembaimondaaGreatDoorEvOkDe
set_option linter.all false
noncomputable section
def Qoa:=@Int.mul_assoc
namespace Go.Ev.Ce
open Go Go.Ev Go.Ev.L Go.Proofs
set_option maxRecDepth 1000000
def ee8:List (List V3×Int):=[([⟨0,0,0⟩,⟨2,0,0⟩,⟨0,2,0⟩,⟨2,2,0⟩,⟨0,0,2⟩,⟨2,0,2⟩,⟨0,2,2⟩,⟨2,2,2⟩],48),([⟨0,0,0⟩,⟨0,0,2⟩,⟨0,2,0⟩,⟨0,2,2⟩,⟨3,0,0⟩,⟨3,0,2⟩,⟨3,2,0⟩,⟨3,2,2⟩],72),([⟨1,0,0⟩,⟨1,0,2⟩,⟨1,2,0⟩,⟨1,2,2⟩,⟨4,0,0⟩,⟨4,0,2⟩,⟨4,2,0⟩,⟨4,2,2⟩],72),([⟨2,0,0⟩,⟨2,0,2⟩,⟨2,2,0⟩,⟨2,2,2⟩,⟨5,0,0⟩,⟨5,0,2⟩,⟨5,2,0⟩,⟨5,2,2⟩],72),([⟨3,0,0⟩,⟨3,0,2⟩,⟨3,2,0⟩,⟨3,2,2⟩,⟨6,0,0⟩,⟨6,0,2⟩,⟨6,2,0⟩,⟨6,2,2⟩],72),([⟨4,0,0⟩,⟨4,0,2⟩,⟨4,2,0⟩,⟨4,2,2⟩,⟨7,0,0⟩,⟨7,0,2⟩,⟨7,2,0⟩,⟨7,2,2⟩],72),([⟨5,0,0⟩,⟨5,0,2⟩,⟨5,2,0⟩,⟨5,2,2⟩,⟨8,0,0⟩,⟨8,0,2⟩,⟨8,2,0⟩,⟨8,2,2⟩],72)]
theorem ud6:V2 (λx=>(gc5 [(da6 tV).enc x.1] []).run=some (.tup [i x.2,i 0],[])) ee8:=.cons re5 <| .cons re6 <| .cons re7 <| .cons re8 <| .cons re9 <| .cons se0 <| .cons se1 <| .nil
def fd2:Sum:=G7 (da6 tV) λl=>fZ fV l λl=>onT l (λn=>.ret (.tup [i n,i 0],[])) ee8
theorem fd3:c8 prog G 35 fd2:=Ya4 Od0 λl r h=>by
 rw[Yb1 Yb0] at h;obtain⟨x,hx,h⟩:=pb9 ud6 h;rw[hx];exact h
def Ma5:List (List V3×List V3):=[([⟨0,0,0⟩,⟨1,0,0⟩],[⟨0,0,0⟩,⟨0,0,2⟩,⟨0,2,0⟩,⟨0,2,2⟩,⟨3,0,0⟩,⟨3,0,2⟩,⟨3,2,0⟩,⟨3,2,2⟩]),([⟨1,0,0⟩,⟨2,0,0⟩],[⟨1,0,0⟩,⟨1,0,2⟩,⟨1,2,0⟩,⟨1,2,2⟩,⟨4,0,0⟩,⟨4,0,2⟩,⟨4,2,0⟩,⟨4,2,2⟩]),([⟨2,0,0⟩,⟨3,0,0⟩],[⟨2,0,0⟩,⟨2,0,2⟩,⟨2,2,0⟩,⟨2,2,2⟩,⟨5,0,0⟩,⟨5,0,2⟩,⟨5,2,0⟩,⟨5,2,2⟩]),([⟨3,0,0⟩,⟨4,0,0⟩],[⟨3,0,0⟩,⟨3,0,2⟩,⟨3,2,0⟩,⟨3,2,2⟩,⟨6,0,0⟩,⟨6,0,2⟩,⟨6,2,0⟩,⟨6,2,2⟩]),([⟨4,0,0⟩,⟨5,0,0⟩],[⟨4,0,0⟩,⟨4,0,2⟩,⟨4,2,0⟩,⟨4,2,2⟩,⟨7,0,0⟩,⟨7,0,2⟩,⟨7,2,0⟩,⟨7,2,2⟩]),([⟨5,0,0⟩,⟨6,0,0⟩],[⟨5,0,0⟩,⟨5,0,2⟩,⟨5,2,0⟩,⟨5,2,2⟩,⟨8,0,0⟩,⟨8,0,2⟩,⟨8,2,0⟩,⟨8,2,2⟩])]
theorem P6:V2 (λx=>zc7 x.1=some ((two (r1L tV) r1I).enc (x.2,0),[])) Ma5:=.cons qe9 <| .cons re0 <| .cons re1 <| .cons re2 <| .cons re3 <| .cons re4 <| .nil
def Cd5:Sum:=va0 (da6 tV) (da6 tV) λa p=>.guard (eqZ gc2 a cuL) (fZ fV p λp=>onT p (λe=>.ret ((two (r1L tV) r1I).enc (e,0),[])) Ma5)
theorem ud7{α β:Type}{f:Nat}{c:Cod α}{d:Cod β}{k k':α->β->DT (a7×List a8)}(h:c8 prog G f (va0 c d k))(hk:∀a b r,(k' a b).run=some r->(k a b).run=some r):c8 prog G f (va0 c d k'):=h.le λargs blks r hr=>by
 unfold va0 at hr ⊢
 split at hr
 ·obtain⟨a,h1,hr⟩:=K3 hr;obtain⟨b,h2,hr⟩:=K3 hr;obtain⟨g1,hr⟩:=DT.run_guard_some hr;obtain⟨g2,hr⟩:=DT.run_guard_some hr;simp only[h1,h2,onO,g1,g2];exact hk a b r hr
 ·cases hr
theorem Od5:c8 prog G 46 Cd5:=ud7 (Fd7 Od3 (two (r1L tV) r1I) (o:=λa p=>(Od2 [(da6 tV).enc a,(da6 tV).enc p] []).run) λa p r h=>h) λa p r h=>by
 obtain⟨hg,h⟩:=DT.run_guard_some h;rw[Yb1 Yb0] at h;rw[Ha6 Za9 hg];obtain⟨x,hx,h⟩:=pb9 P6 h;exact ud1 (R:=two (r1L tV) r1I) (F:=ud2) ud3 (hx.trans h)
def C_8:Sum:=i7 (En []) pf8
theorem Cd6:c8 prog G 8 C_8:=bd b8 trivial
def ee9:Sum:=i7 (En []) Td5
theorem Od6:c8 prog G 10 ee9:=bd b10 trivial
def Od7:Sum:=i7 (En []) Ud1
theorem fd4:c8 prog G 21 Od7:=bd b21 trivial
def Od8:Sum:=i7 (En [(35,fd2)]) Ud6
theorem fd5:c8 prog G 36 Od8:=bd b36 ⟨fd3,trivial⟩
def fe0:Sum:=i7 (En []) Ud8
theorem Od9:c8 prog G 38 fe0:=bd b38 trivial
def fe1:Sum:=i7 (En []) Vd1
theorem Pd0:c8 prog G 41 fe1:=bd b41 trivial
def fe2:Sum:=i7 (En []) Vd2
theorem Pd1:c8 prog G 42 fe2:=bd b42 trivial
def fe3:Sum:=i7 (En [(21,Od7),(41,fe1),(42,fe2)]) Ud9
theorem Pd2:c8 prog G 39 fe3:=bd b39 ⟨fd4,Pd0,Pd1,trivial⟩
def fe4:Sum:=i7 (En []) Vd3
theorem Pd3:c8 prog G 43 fe4:=bd b43 trivial
def Pd4:Sum:=i7 (En [(20,dd8),(38,fe0),(39,fe3),(40,ed9),(43,fe4)]) Ud7
theorem fd6:c8 prog G 37 Pd4:=bd b37 ⟨gc3,Od9,Pd2,gc4,Pd3,trivial⟩
def fe5:Sum:=i7 (En []) Vd8
theorem Pd5:c8 prog G 48 fe5:=bd b48 trivial
def Pd6:Sum:=i7 (En [(36,Od8),(37,Pd4),(48,fe5)]) Ud2
theorem fd7:c8 prog G 22 Pd6:=bd b22 ⟨fd5,fd6,Pd5,trivial⟩
def fe6:Sum:=i7 (En [(20,dd8),(21,Od7),(22,Pd6)]) Td6
theorem Pd7:c8 prog G 11 fe6:=bd b11 ⟨gc3,fd4,fd7,trivial⟩
def fe7:Sum:=i7 (En [(8,C_8)]) Td7
theorem Pd8:c8 prog G 17 fe7:=bd b17 ⟨Cd6,trivial⟩
def fe8:Sum:=i7 (En []) Td8
theorem Pd9:c8 prog G 18 fe8:=bd b18 trivial
def ud8:Sum:=i7 (En []) Wd5
theorem zc8:c8 prog G 67 ud8:=bd b67 trivial
def Cd7:Sum:=i7 (En []) zd3
theorem ud9:c8 prog G 214 Cd7:=bd me5 trivial
def fd8:Sum:=i7 (En [(122,ed5)]) zd2
theorem Gc2:c8 prog G 160 fd8:=bd ae3 ⟨Gc0,trivial⟩
def fd9:Sum:=i7 (En [(40,ed9),(160,fd8)]) Ad0
theorem Gc3:c8 prog G 224 fd9:=bd ne3 ⟨gc4,Gc2,trivial⟩
def Cd8:Sum:=i7 (En [(72,Pc0)]) Ad1
theorem vd0:c8 prog G 225 Cd8:=bd ne4 ⟨Pb5,trivial⟩
def Cd9:Sum:=i7 (En [(72,Pc0),(224,fd9),(225,Cd8)]) zd7
theorem vd1:c8 prog G 220 Cd9:=bd me9 ⟨Pb5,Gc3,vd0,trivial⟩
def Qd0:Sum:=i7 (En [(67,ud8),(68,td1),(214,Cd7),(220,Cd9)]) Ud4
theorem gd0:c8 prog G 34 Qd0:=bd b34 ⟨zc8,zc6,ud9,vd1,trivial⟩
def gd1:Sum:=i7 (En [(20,dd8)]) zd6
theorem Gc4:c8 prog G 219 gd1:=bd me8 ⟨gc3,trivial⟩
def Dd0:Sum:=ha7 (En [(219,gd1)]) zd0
theorem vd2:c8 prog G 148 Dd0:=bd me0 ⟨Gc4,trivial⟩
def Dd1:Sum:=i7 (En [(148,Dd0)]) yd5
theorem vd3:c8 prog G 116 Dd1:=bd ke7 ⟨vd2,trivial⟩
def Dd2:Sum:=i7 (En [(40,ed9),(160,fd8)]) zd5
theorem vd4:c8 prog G 217 Dd2:=bd me7 ⟨gc4,Gc2,trivial⟩
def Dd3:Sum:=i7 (En [(219,gd1),(224,fd9)]) zd9
theorem vd5:c8 prog G 223 Dd3:=bd ne2 ⟨Gc4,Gc3,trivial⟩
def Qd1:Sum:=i7 (En [(34,Qd0),(67,ud8),(116,Dd1),(217,Dd2),(223,Dd3)]) Xd3
theorem gd2:c8 prog G 77 Qd1:=bd b77 ⟨gd0,zc8,vd3,vd4,vd5,trivial⟩
def fe9:Sum:=i7 (En [(77,Qd1)]) Vd4
theorem Qd2:c8 prog G 44 fe9:=bd b44 ⟨gd2,trivial⟩
def ge0:Sum:=i7 (En [(77,Qd1)]) Xd4
theorem Qd3:c8 prog G 78 ge0:=bd b78 ⟨gd2,trivial⟩
def Dd4:Sum:=i7 (En []) zd4
theorem vd6:c8 prog G 216 Dd4:=bd me6 trivial
def Dd5:Sum:=i7 (En []) zd8
theorem vd7:c8 prog G 222 Dd5:=bd ne0 trivial
def ge1:Sum:=i7 (En [(67,ud8),(78,ge0),(216,Dd4),(222,Dd5)]) Vd5
theorem Qd4:c8 prog G 45 ge1:=bd b45 ⟨zc8,Qd3,vd6,vd7,trivial⟩
def ge2:Sum:=i7 (En [(36,Od8),(37,Pd4)]) Vd7
theorem Qd5:c8 prog G 47 ge2:=bd b47 ⟨fd5,fd6,trivial⟩
def ge3:Sum:=i7 (En [(22,Pd6),(33,fd1),(34,Qd0),(35,fd2),(44,fe9),(45,ge1),(46,Cd5),(47,ge2)]) Td9
theorem Qd6:c8 prog G 19 ge3:=bd b19 ⟨fd7,ud5,gd0,fd3,Qd2,Qd4,Od5,Qd5,trivial⟩
def C_6:Sum:=i7 (En [(8,C_8),(10,ee9),(11,fe6),(17,fe7),(18,fe8),(19,ge3)]) pf6
theorem ge4:c8 prog G 6 C_6:=bd b6 ⟨Cd6,Od6,Pd7,Pd8,Pd9,Qd6,trivial⟩
theorem vd8:(C_6 [] []).run=some (b true,[]):=by kernel_rfl
def Qa1:Sum:=Fd2 (.ret (b true,[]))
theorem wb4:c8 prog G 6 Qa1:=ld0 ge4 λr h=>by rw[vd8];exact h
def hb6:List (Nat×Sum):=[(6,Qa1),(8,yb8)]
theorem bb0:A2 prog G hb6:=⟨wb4,gc0,trivial⟩
def Q0(x:Int)(y:Int)(z:B2):ROq:=let t1:=(ja4 (W x) (W ((W (if z.d1<z.d0 then z.d1 else z.d0))+1)));let t2:=(ja4 (W ((W x)+(W y))) (W ((W (if z.d1<z.d0 then z.d1 else z.d0))+1)));let t3:=(ja4 (W x) (W ((W (if z.d1>z.d0 then z.d1 else z.d0))+1)));let w0:ROq:=(sl (decide (t1.1<=t2.1)) (some (b (decide (t3.1<=t1.1)),[])) (some (b false,[])));(sl (ja5 (W x) (W ((W (if z.d1<z.d0 then z.d1 else z.d0))+1))) (sl (ja5 (W ((W x)+(W y))) (W ((W (if z.d1<z.d0 then z.d1 else z.d0))+1))) (sl (ja5 (W x) (W ((W (if z.d1>z.d0 then z.d1 else z.d0))+1))) (sl (t1.2 != 0) (some (b false,[])) (sl (t2.2 != 0) (some (b false,[])) (sl (t3.2 != 0) (some (b false,[])) (sl (decide (t1.1>=0)) (sl (decide (t1.1<=11000)) (sl (decide ((W x)<=(W ((W (6*t1.1))*(W ((W (if z.d1<z.d0 then z.d1 else z.d0))+1)))))) (sl (t1.1==0) w0 (sl (decide ((W x)>(W ((W (6*(W (t1.1-1))))*(W ((W (if z.d1<z.d0 then z.d1 else z.d0))+1)))))) w0 (some (b false,[])))) (some (b false,[]))) (some (b false,[]))) (some (b false,[])))))) none) none) none)
def Y6(x:Int)(y:Int)(z:B2):Bool:=T9 (one r1B) (Q0 x y z)
def Y7(x:Int)(y:Int)(z:B2):Bool:=okO (one r1B) (Q0 x y z)
def qb0:Sum:=Ab0 cH cH (ya5 tM) (λx y z=>.guard (Y7 x y z) (.ret ((one r1B).enc (Y6 x y z),[])))
theorem hb7:c8 prog G 4 qb0:=Ad2 (bd b4 bb0) (one r1B) (o:=Q0)
theorem Yb2{x d:Int}(hd:0<d):x<=d*((x+d-1) / d)/\d*((x+d-1) / d)<x+d:=by
 have h1:=Int.mul_ediv_add_emod (x+d-1) d;have h2:=Int.emod_nonneg (x+d-1) (show d≠0 by omega)
 have h3:=Int.emod_lt_of_pos (x+d-1) hd;omega
theorem zc9{x l:Int}(hx:0<=x/\x<=200000)(hl:1<=l/\l<=1000):Oc5 x l=((x+6*l-1) / (6*l),0):=by
 unfold Oc5;rw[if_pos (Pb1.2 ⟨⟨hx.1,by omega⟩,hl.1,by omega⟩)]
theorem Yb3{x y:Int}{z:B2}(hx:0<=x/\x<=65535)(hy:0<=y/\y<=65535)(h0:0<=z.d0/\z.d0<=255)(h1:0<=z.d1/\z.d1<=255):Q0 x y z=some (b true,[]):=by
 obtain⟨a,ha,ha1⟩:∃a,(if z.d1<z.d0 then z.d1 else z.d0)=a/\0<=a/\a<=255:=⟨_,rfl,by split<;>omega⟩
 obtain⟨c,hc,hc1⟩:∃c,(if z.d1>z.d0 then z.d1 else z.d0)=c/\0<=c/\c<=255:=⟨_,rfl,by split<;>omega⟩
 have hac:a<=c:=by rw[<- ha,<- hc];split<;>split<;>omega
 unfold Q0;simp only[ha,hc,Ld6,Ld7,D9];have w1:W a=a:=aa8 (by omega) (by omega)
 have w2:W (a+1)=a+1:=aa8 (by omega) (by omega)
 have w3:W c=c:=aa8 (by omega) (by omega)
 have w4:W (c+1)=c+1:=aa8 (by omega) (by omega)
 have w5:W x=x:=aa8 (by omega) (by omega)
 have w6:W y=y:=aa8 (by omega) (by omega)
 have w7:W (x+y)=x+y:=aa8 (by omega) (by omega)
 rw[w1,w2,w3,w4,w5,w6,w7];rw[zc9 (x:=x) (l:=a+1) ⟨by omega,by omega⟩ ⟨by omega,by omega⟩,zc9 (x:=x+y) (l:=a+1) ⟨by omega,by omega⟩ ⟨by omega,by omega⟩,zc9 (x:=x) (l:=c+1) ⟨by omega,by omega⟩ ⟨by omega,by omega⟩]
 have n1:=Yb2 (x:=x) (d:=6*(a+1)) (by omega)
 have k1:=Yb2 (x:=x) (d:=6*(c+1)) (by omega)
 have n0:0<=(x+6*(a+1)-1) / (6*(a+1)):=Int.ediv_nonneg (by omega) (by omega)
 have k0:0<=(x+6*(c+1)-1) / (6*(c+1)):=Int.ediv_nonneg (by omega) (by omega)
 have m1:(x+6*(a+1)-1) / (6*(a+1))<=(x+y+6*(a+1)-1) / (6*(a+1)):=Int.ediv_le_ediv (by omega) (by omega)
 generalize (x+6*(a+1)-1) / (6*(a+1))=n at *
 generalize (x+y+6*(a+1)-1) / (6*(a+1))=m at *
 generalize (x+6*(c+1)-1) / (6*(c+1))=k at *
 have e1:6*(a+1)*n=6*n*(a+1):=by rw[Qoa,Int.mul_comm (a+1) n,<- Qoa]
 have e2:6*(n-1)*(a+1)=6*n*(a+1)-6*(a+1):=by rw[Int.mul_sub,Int.sub_mul];omega
 have p0:0<=n*a:=Qif n0 ha1.1;have e3:6*n*(a+1)=6*(n*a)+6*n:=by rw[Int.mul_add,Qoa];omega
 have hn:n<=11000:=by
  rw[e1,e3] at n1;have h5:n*a+n<11000+a:=by omega
  apply Qbx;intro h6;have h7:n*a>=11001*a:=Qil (by omega) ha1.1
  omega
 have hk:k<=n:=by
  apply Qbx;intro h6;have f1:6*(c+1)*n<=6*(c+1)*(k-1):=Qiy (by omega) (by omega)
  have f2:6*(a+1)*n<=6*(c+1)*n:=Qil (by omega) n0
  have f3:6*(c+1)*(k-1)=6*(c+1)*k-6*(c+1):=by rw[Int.mul_sub];omega
  omega
 have v1:W (6*n)=6*n:=aa8 (by omega) (by omega)
 have v2:W (n-1)=n-1:=aa8 (by omega) (by omega)
 have v3:W (6*(n-1))=6*(n-1):=aa8 (by omega) (by omega)
 have v4:W (6*n*(a+1))=6*n*(a+1):=aa8 (by rw[e1] at n1;omega) (by rw[e1] at n1;omega)
 have v5:W (6*(n-1)*(a+1))=6*(n-1)*(a+1):=aa8 (by rw[e2];rw[e1] at n1;omega) (by rw[e2];rw[e1] at n1;omega)
 simp only[v1,v2,v3,v4,v5,bne_self_eq_false,lc2];rw[btD (show n>=0 from n0),btD hn,btD (show x<=6*n*(a+1) by rw[<- e1];exact n1.1),decide_eq_true hk,btD m1]
 by_cases hz:n=0
 ·rw[bt (beq_iff_eq.2 hz)]
 ·rw[bf (beq_eq_false_iff_ne.2 hz),btD (show x>6*(n-1)*(a+1) by rw[e2,<- e1];omega)]
theorem Pc1(x y:Int)(z:B2)(hx:0<=x/\x<=65535)(hy:0<=y/\y<=65535)(hz:(0<=z.d0/\z.d0<=255)/\0<=z.d1/\z.d1<=255):Y6 x y z=true:=by unfold Y6;rw[Yb3 hx hy hz.1 hz.2];rfl
theorem Pc2(x y:Int)(z:B2)(hx:0<=x/\x<=65535)(hy:0<=y/\y<=65535)(hz:(0<=z.d0/\z.d0<=255)/\0<=z.d1/\z.d1<=255):Y7 x y z=true:=by unfold Y7;rw[Yb3 hx hy hz.1 hz.2];rfl
end Go.Ev.Ce
namespace Go.Ev.Ce
open Go Go.Ev Go.Ev.L Go.ChangeShapes Go.RowKit
theorem Gc5{P:Program}{w:World}{ρ:Rho}{H:List a8}{F:Fz}{t:TypeId}{v:Value}{bs:Nat}{r:Reach}(ht:P.underlying t=some (.int .u16))
  (hok:Value.okWide P w r bs t v):∃n:Int,(0<=n/\n<=65535)/\J1 ρ H F w (.v (.int .u16 n)) v:=by
 unfold Value.okWide at hok;rw[ht] at hok;cases v with
 |int k' n =>
  simp only[Cell.okWide,ht,Cell.ok] at hok;obtain⟨rfl,h⟩:=hok;refine⟨n,?_,.cell (.v _)⟩;simp only[IntKind.has,IntKind.min,IntKind.max,IntKind.bits,IntKind.signed] at h
  simp at h
  omega
 |_=>simp[Cell.okWide,ht,Cell.ok] at hok
theorem Gc6(n:Int)(h:0<=n/\n<=65535):∃a,Rdg cH (.v (.int .u16 n)) a/\(0<=a/\a<=65535):=⟨n,⟨rfl,rfl⟩,h⟩
theorem gd3(g:Nat->Int)(h:∀c,c<2->0<=g c/\g c<=255):∃a,Rdg (ya5 tM) (.agg (Oa5 .u8 2 g)) a/\(0<=a.d0/\a.d0<=255)/\0<=a.d1/\a.d1<=255 :=
 ⟨⟨g 0,g 1⟩,⟨rfl,rfl⟩,h 0 (by omega),h 1 (by omega)⟩
theorem Qd7{D:Type}{enc:TypeId×Value->D}{P:Program}{w:World}{base:Nat}{spare:Nat->Bool}{held:Bool}{ρ:Rho}{H:List a8}{F:Fz}{t e:TypeId}{d:Nat}{v:Value}{dd:DataW D}{pp:List MemPlace}{bs:Nat}{r:Reach}
  (ht:P.underlying t=some (.array 2 e)) (he:P.underlying e=some (.int .u8)) (hts:P.cellTypes P.depth t=some [e,e]) (hf:K2 P d t=some (na3 .u8 2)) (hes:P.cellsOf t=2)
  (hok:Value.okWide P w r bs t v) (h:DataW.Trod enc P w base spare held t v dd pp):∃g:Nat->Int,(∀c,c<2->0<=g c/\g c<=255)/\J1 ρ H F w (.agg (Oa5 .u8 2 g)) v:=by
 obtain⟨g,hv⟩:=sd3 (ρ:=ρ) (H:=H) (F:=F) (by simp[agT,ht]) hf hes hok h
 refine⟨g,λc hc=>?_,hv⟩
 obtain⟨vs,e0,hl,hr⟩:=U1 (.val hv);subst e0;have hlen:vs.size=2:=by rw[<- hl];simp[Oa5]
 have hc':c<vs.size:=by omega
 have hg:(Oa5 .u8 2 g)[c]?=some (.v (.int .u8 (g c))):=by
  unfold Oa5;rw[Qbm,List.getElem?_range hc];rfl
 have hx:=D8 (.val (.cell (hr c _ _ hg (Qai hc'))));unfold Value.okWide at hok;rw[ht] at hok;obtain⟨cs,e1,hsz,ts,h1,h2,h3⟩:=hok;injection e1 with e1;subst e1;rw[hts] at h1;injection h1 with h1;subst h1;obtain⟨u,hu,hcell⟩:=h3 c _ (Qai hc');rw[hx] at hcell;have hue:u=e:=by
  have:c=0\/c=1:=by omega
  rcases this with rfl|rfl<;>simpa using hu.symm
 subst hue;simp only[Cell.okWide,Cell.ok,he] at hcell
 have:=hcell.2
 simp only[IntKind.has,IntKind.min,IntKind.max,IntKind.bits,IntKind.signed] at this
 simp at this
 omega
end Go.Ev.Ce
