/- Own work. -/
import Derived.Test.YtkfaiccnekeklaaGreatEvOc1
set_option linter.all false
def Qla:=@List.mem_map
def Qlb:=@Classical.byContradiction
def Qlc:=@List.mem_filter
def Qld:=@List.mem_append_left
def Qle:=@Int.mul_nonneg
def Qlf:=@Int.mul_pos
def Qlg:=@List.mem_append
def Qlh:=@Int.mul_le_mul_of_nonneg_left
def Qli:=@List.mem_cons_of_mem
def Qlj:=@Int.eq_of_mul_eq_mul_left
def Qlk:=@List.mem_cons
def Qll:=@Int.mul_eq_zero
def Qlm:=@Int.mul_nonpos_of_nonneg_of_nonpos
def Qln:=@Int.le_refl
def Qlo:=@List.mem_flatMap
def Qlp:=@Int.le_trans
def Qlq:=@List.not_mem_nil
def Qlr:=@List.mem_cons_self
def Qls:=@List.mem_append_right
def Qlt:=@Int.mul_zero
def Qlu:=@Int.le_of_mul_le_mul_left
def Qlv:=@List.nodup_cons
def Qlw:=@List.length_range
def Qlx:=@Int.mul_sub
def Qly:=@List.mem_singleton
def Qlz:=@Nat.mul_le_mul
def Qlaa:=@Int.mul_nonpos_of_nonpos_of_nonneg
def Qlab:=@Int.mul_assoc
def Qlac:=@List.map_cons
def Qlad:=@List.all_eq_true
def Qlae:=@List.length_map
def Qlaf:=@Int.toNat_of_nonneg
def Qlag:=@Int.mul_le_mul
def Qlah:=@Int.mul_neg
def Qlai:=@Nat.zero_le
def Qlaj:=@List.pairwise_map
def Qlak:=@Int.mul_neg_of_pos_of_neg
def Qlal:=@Int.lt_of_mul_lt_mul_left
def Qlam:=@Array.getElem?_eq_getElem
def Qlan:=@Int.add_zero
def Qlao:=@List.filter_cons
def Qlap:=@List.nodup_range
def Qlaq:=@Classical.axiomOfChoice
def Qlar:=@List.range_succ
def Qlas:=@List.length_pos_of_mem
def Qlat:=@Go.Ev.Ce.V3.ext'
namespace Go.Ev.Ce
open Go Go.Ev Go.Ev.L Go.Proofs
structure Pg(X:List V3):Prop where
 sol:Sol X
 nd:X.Nodup
 ex:∀v∈X,∃m,Hi X v m
section
variable{X:List V3}(hX:Pg X)
include hX
theorem Pg.lens{p:Pln}(hp:FG X p):3<=(onF p X).length:=by
 obtain⟨u,w,x,hu,hw,hx,h3,e1,e2,e3⟩:=hp.on;have n1:u≠w:=λe=>h3 (by subst e;refine Qlat ?_ ?_ ?_<;>simp only[N3,c7,c9]<;>grind)
 have n2:u≠x:=λe=>h3 (by subst e;refine Qlat ?_ ?_ ?_<;>simp only[N3,c7,c9]<;>grind)
 have n3:w≠x:=λe=>h3 (by subst e;refine Qlat ?_ ?_ ?_<;>simp only[N3,c7,c9]<;>grind)
 have hnd:[u,w,x].Nodup:=by simp[n1,n2,n3]
 exact List.Nodup.length_le_of_subset hnd λv hv=>by
  simp only[Qlk,Qlq,or_false] at hv
  rcases hv with rfl|rfl|rfl
  ·exact j7.2 ⟨hu,e1⟩
  ·exact j7.2 ⟨hw,e2⟩
  ·exact j7.2 ⟨hx,e3⟩
theorem Pg.rim{p:Pln}(hp:FG X p):Rim X (onF p X) p.n p.b :=
 ⟨prn hp.pr,hX.ex,λc hc=>j7.1 hc,hX.nd.filter _,by have:=hX.lens hp;omega⟩
theorem Pg.third{p:Pln}(hp:FG X p)(a c:V3):∃v∈onF p X,v≠a/\v≠c:=by
 apply Qlb;intro hno
 have:(onF p X).length<=[a,c].length:=List.Nodup.length_le_of_subset (hX.nd.filter _) λv hv=>by
  simp only[Qlk,Qlq,or_false];apply Qlb;intro hne;exact hno ⟨v,hv,λe=>hne (.inl e),λe=>hne (.inr e)⟩
 have:=hX.lens hp
 simp only[List.length_cons,List.length_nil] at *
 omega
theorem Pg.uni{p q:Pln}(hp:FG X p)(hq:FG X q){a c:V3}(e1:Edg (onF p X) p.n a c)(e2:Edg (onF q X) q.n a c):p=q:=by
 obtain⟨b1,hb1,ba1,bc1⟩:=hX.third hp a c;obtain⟨b2,hb2,ba2,bc2⟩:=hX.third hq a c;have s1:=e1.2.2.2 b1 hb1 ba1 bc1;have s2:=e2.2.2.2 b2 hb2 ba2 bc2;have pa:=(j7.1 e1.1).2;have pc:=(j7.1 e1.2.1).2;have qa:=(j7.1 e2.1).2;have qc:=(j7.1 e2.2.1).2;obtain⟨x1,p1⟩:=j7.1 hb1;obtain⟨x2,q2⟩:=j7.1 hb2;have c1:=λe=>K7 (d:=e) (I9 (n:=p.n) (a:=c9 c a) (c:=c9 b1 a) (by rw[G6];omega) (by rw[G6];omega))
 have c2:=λe=>K7 (d:=e) (I9 (n:=q.n) (a:=c9 c a) (c:=c9 b2 a) (by rw[G6];omega) (by rw[G6];omega))
 have t1:0<dot p.n (c7 (c9 c a) (c9 b1 a)):=s1;have t2:0<dot q.n (c7 (c9 c a) (c9 b2 a)):=s2;have hd1:=hp.hd b2 x2;by_cases hon:dot p.n b2=p.b
 ·-- both planes go through the same Ob3 corners
  have s3:0<dot p.n (c7 (c9 c a) (c9 b2 a)):=e1.2.2.2 b2 (j7.2 ⟨x2,hon⟩) ba2 bc2;have hN:(c7 (c9 c a) (c9 b2 a):V3)≠⟨0,0,0⟩:=λe=>by rw[e] at t2;simp[dot] at t2
  have c3:=λe=>K7 (d:=e) (I9 (n:=p.n) (a:=c9 c a) (c:=c9 b2 a) (by rw[G6];omega) (by rw[G6];omega))
  generalize c7 (c9 c a) (c9 b2 a)=N at *
  have hNN:=A9 hN;have par:c7 p.n q.n=⟨0,0,0⟩:=by
   have d1:∀v:V3,dot v ⟨1,0,0⟩=v.x:=λv=>by simp[dot]
   have d2:∀v:V3,dot v ⟨0,1,0⟩=v.y:=λv=>by simp[dot]
   have d3:∀v:V3,dot v ⟨0,0,1⟩=v.z:=λv=>by simp[dot]
   have a1:=c3 ⟨1,0,0⟩;have a2:=c3 ⟨0,1,0⟩;have a3:=c3 ⟨0,0,1⟩;have f1:=c2 ⟨1,0,0⟩;have f2:=c2 ⟨0,1,0⟩;have f3:=c2 ⟨0,0,1⟩;rw[d1,d1] at a1 f1;rw[d2,d2] at a2 f2;rw[d3,d3] at a3 f3;have z:∀{t:Int},dot N N*t=0->t=0:=λe=>(Qll.1 e).resolve_left (by omega)
   generalize dot N N=m at *
   generalize dot p.n N=x at *
   generalize dot q.n N=y at *
   refine Qlat (z (z ?_)) (z (z ?_)) (z (z ?_))
   ·have:m*(m*(c7 p.n q.n).x)=(m*p.n.y)*(m*q.n.z)-(m*p.n.z)*(m*q.n.y):=by simp only[c7];grind
    rw[this,a2,a3,f2,f3];grind
   ·have:m*(m*(c7 p.n q.n).y)=(m*p.n.z)*(m*q.n.x)-(m*p.n.x)*(m*q.n.z):=by simp only[c7];grind
    rw[this,a1,a3,f1,f3];grind
   ·have:m*(m*(c7 p.n q.n).z)=(m*p.n.x)*(m*q.n.y)-(m*p.n.y)*(m*q.n.x):=by simp only[c7];grind
    rw[this,a1,a2,f1,f2];grind
  have hn:q.n=p.n:=by
   rcases Sb9 (hp.pr) (hq.pr) par with e|e
   ·exact e
   ·rw[e] at t2
    have:dot (neg p.n) N=-dot p.n N:=by simp only[dot,neg];grind
    omega
  have hb:q.b=p.b:=by rw[<- qa,hn,pa]
  cases p;cases q
  simp only at hn hb
  rw[hn,hb]
 ·exfalso;have k1:=c1 (c9 b2 a);have h1:dot p.n (c9 b2 a)<0:=by rw[G6];omega
  have hN1:0<dot (c7 (c9 c a) (c9 b1 a)) (c7 (c9 c a) (c9 b1 a)):=A9 λe=>by rw[e] at t1;simp[dot] at t1
  have m1:=Qlak hN1 h1;have r1:dot (c7 (c9 c a) (c9 b1 a)) (c9 b2 a)<0:=by
   apply Qlb;intro hno
   have:=Qle (show 0<=dot p.n (c7 (c9 c a) (c9 b1 a)) by omega) (show 0<=dot (c7 (c9 c a) (c9 b1 a)) (c9 b2 a) by omega)
   omega
  have k2:=c2 (c9 b1 a);have h2:dot q.n (c9 b1 a)<=0:=by rw[G6];have:=hq.hd b1 x1;omega
  have hN2:0<dot (c7 (c9 c a) (c9 b2 a)) (c7 (c9 c a) (c9 b2 a)):=A9 λe=>by rw[e] at t2;simp[dot] at t2
  have m2:=Qle (show 0<=dot (c7 (c9 c a) (c9 b2 a)) (c7 (c9 c a) (c9 b2 a)) by omega) (show 0<=-dot q.n (c9 b1 a) by omega)
  rw[Qlah] at m2;have e3:dot (c7 (c9 c a) (c9 b2 a)) (c9 b1 a)=-dot (c7 (c9 c a) (c9 b1 a)) (c9 b2 a):=by simp only[dot,c7,c9];grind
  have m3:=Qlf t2 (show 0<dot (c7 (c9 c a) (c9 b2 a)) (c9 b1 a) by omega)
  omega
end
section
variable{X:List V3}(hX:Pg X)
include hX
theorem Pg.rev{p:Pln}(hp:FG X p){a c:V3}(he:Edg (onF p X) p.n a c):∃q,FG X q/\Edg (onF q X) q.n c a:=by
 obtain⟨xa,pa⟩:=j7.1 he.1;obtain⟨xc,pc⟩:=j7.1 he.2.1;obtain⟨b1,hb1,ba1,bc1⟩:=hX.third hp a c;obtain⟨xb,pb⟩:=j7.1 hb1;have sb:=he.2.2.2 b1 hb1 ba1 bc1
 -- the points off the plane
 obtain⟨v0,hv0,hne⟩:=hX.sol.off (prn hp.pr) p.b;have hle:=hp.hd;have hY:X.filter (λv=>decide (dot p.n v<p.b))≠[]:=λe=>by
  have:v0∈X.filter (λv=>decide (dot p.n v<p.b)):=Qlc.2 ⟨hv0,decide_eq_true (by have:=hle v0 hv0;omega)⟩
  rw[e] at this;cases this
 obtain⟨z,hz,hmin⟩:=nb4 (λv=>orp p.n a c v) (λv=>p.b-dot p.n v) _ hY λv hv=>by
  have:=of_decide_eq_true (Qlc.1 hv).2
  omega
 obtain⟨xz,hz'⟩:=Qlc.1 hz;have hzb:=of_decide_eq_true hz';have hmin':∀v∈X,dot p.n v<p.b->orp p.n a c z*(p.b-dot p.n v)<=orp p.n a c v*(p.b-dot p.n z):=λv hv hlt=>hmin v (Qlc.2 ⟨hv,decide_eq_true hlt⟩)
 clear hmin
 obtain⟨S,hS⟩:∃S,S=orp p.n a c z:=⟨_,rfl⟩;obtain⟨H,hH⟩:∃H,H=p.b-dot p.n z:=⟨_,rfl⟩;rw[<- hS,<- hH] at hmin';have hH0:0<H:=by omega
 -- how far a point Id2 within,and below
 have hs0:∀v∈X,dot p.n v=p.b->0<=orp p.n a c v:=λv hv on=>by
  by_cases e1:v=a
  ·rw[e1,sd9];exact Qln _
  ·by_cases e2:v=c
   ·rw[e2,Bc0];exact Qln _
   ·have:=he.2.2.2 v (j7.2 ⟨hv,on⟩) e1 e2;omega
 obtain⟨u,hu⟩:∃u:V3,u=c7 p.n (c9 c a):=⟨_,rfl⟩;obtain⟨m,hm⟩:∃m:V3,m=⟨-(H*u.x)-S*p.n.x,-(H*u.y)-S*p.n.y,-(H*u.z)-S*p.n.z⟩:=⟨_,rfl⟩;have hsv:∀v,orp p.n a c v=dot u (c9 v a):=λv=>by rw[hu];simp only[orp,crs,dot,c7,c9];grind
 have hmv:∀v,dot m v-dot m a=-(H*orp p.n a c v)+S*(p.b-dot p.n v):=λv=>by
  rw[hsv,hm,<- pa];simp only[dot,c9];grind
 have hma:∀v∈X,dot m v<=dot m a:=λv hv=>by
  have e:=hmv v;by_cases hlt:dot p.n v<p.b
  ·have:=hmin' v hv hlt
   have:orp p.n a c v*H=H*orp p.n a c v:=Int.mul_comm _ _
   omega
  ·have on:dot p.n v=p.b:=by have:=hle v hv;omega
   have:=Qle (show 0<=H by omega) (hs0 v hv on)
   rw[show p.b-dot p.n v=0 by omega,Qlt] at e
   omega
 have hmc:dot m c=dot m a:=by
  have e:=hmv c;rw[Bc0,Qlt,show p.b-dot p.n c=0 by omega,Qlt] at e
  omega
 have hmz:dot m z=dot m a:=by
  have e:=hmv z;rw[<- hS,<- hH,Int.mul_comm H S] at e;omega
 have hmb:dot m b1<dot m a:=by
  have e:=hmv b1
  have:=Qlf hH0 sb
  rw[show p.b-dot p.n b1=0 by omega,Qlt] at e
  omega
 have hdne:c9 c a≠⟨0,0,0⟩:=λe=>he.2.2.1 (by
  simp only[c9,V3.mk.injEq] at e;obtain⟨k1,k2,k3⟩:=e;exact Qlat (by omega) (by omega) (by omega))
 have hdd:=A9 hdne;have hN3:N3 a c z≠⟨0,0,0⟩:=λe=>by
  have:=Ab8 (m:=c9 c a) (show c7 (c9 c a) (c9 z a)=⟨0,0,0⟩ from e) p.n
  rw[G6 p.n c a,show dot p.n c-dot p.n a=0 by omega,Qlt,G6 p.n z a] at this
  have:=(Qll.1 this.symm).resolve_left (by omega)
  omega
 obtain⟨q,hq,qa,qc,qz⟩:=jd9 (n:=m) xa xc xz hN3 (λe=>by rw[e] at hmb;simp[dot] at hmb) hma hmc hmz
 -- the plane's normal Id2 along m
 have hmne:m≠⟨0,0,0⟩:=λe=>by rw[e] at hmb;simp[dot] at hmb
 have hmm:=A9 hmne;have hpar:c7 q.n m=⟨0,0,0⟩:=by
  have k1:c7 q.n (N3 a c z)=⟨0,0,0⟩:=I9 (by rw[G6];omega) (by rw[G6];omega)
  have k2:c7 m (N3 a c z)=⟨0,0,0⟩:=I9 (by rw[G6];omega) (by rw[G6];omega)
  have c1:=λe=>K7 (d:=e) k1
  have c2:=λe=>K7 (d:=e) k2
  have hNN:=A9 hN3;generalize N3 a c z=N at *
  have d1:∀v:V3,dot v ⟨1,0,0⟩=v.x:=λv=>by simp[dot]
  have d2:∀v:V3,dot v ⟨0,1,0⟩=v.y:=λv=>by simp[dot]
  have d3:∀v:V3,dot v ⟨0,0,1⟩=v.z:=λv=>by simp[dot]
  have a1:=c1 ⟨1,0,0⟩;have a2:=c1 ⟨0,1,0⟩;have a3:=c1 ⟨0,0,1⟩;have f1:=c2 ⟨1,0,0⟩;have f2:=c2 ⟨0,1,0⟩;have f3:=c2 ⟨0,0,1⟩;rw[d1,d1] at a1 f1;rw[d2,d2] at a2 f2;rw[d3,d3] at a3 f3;have w:∀{t:Int},dot N N*t=0->t=0:=λe=>(Qll.1 e).resolve_left (by omega)
  clear hmv hm hu hsv
  generalize dot N N=g at *
  generalize dot q.n N=x at *
  generalize dot m N=y at *
  refine Qlat (w (w ?_)) (w (w ?_)) (w (w ?_))
  ·have:g*(g*(c7 q.n m).x)=(g*q.n.y)*(g*m.z)-(g*q.n.z)*(g*m.y):=by simp only[c7];grind
   rw[this,a2,a3,f2,f3];grind
  ·have:g*(g*(c7 q.n m).y)=(g*q.n.z)*(g*m.x)-(g*q.n.x)*(g*m.z):=by simp only[c7];grind
   rw[this,a1,a3,f1,f3];grind
  ·have:g*(g*(c7 q.n m).z)=(g*q.n.x)*(g*m.y)-(g*q.n.y)*(g*m.x):=by simp only[c7];grind
   rw[this,a1,a2,f1,f2];grind
 have hq2:=λe=>K7 (d:=e) hpar
 have hk:0<dot q.n m:=by
  have e:=hq2 (c9 b1 a);rw[G6,G6] at e;have h1:dot q.n b1-dot q.n a<=0:=by have:=hq.hd b1 xb;omega
  apply Qlb;intro hno;have t1:=Qle (show 0<=dot m m by omega) (show 0<=-(dot q.n b1-dot q.n a) by omega)
  rw[Qlah] at t1;have t2:=Qle (show 0<=-dot q.n m by omega) (show 0<=-(dot m b1-dot m a) by omega)
  rw[Int.neg_mul_neg] at t2;have t3:dot q.n m*(dot m b1-dot m a)=0:=by omega
  rcases Qll.1 t3 with t3|t3
  ·have e':=hq2 q.n;rw[t3,Int.zero_mul] at e'
   have:=A9 (prn hq.pr)
   rcases Qll.1 e' with r|r<;>omega
  ·omega
 refine⟨q,hq,j7.2 ⟨xc,qc⟩,j7.2 ⟨xa,qa⟩,Ne.symm he.2.2.1,λv hv n1 n2=>?_⟩
 obtain⟨xv,qv⟩:=j7.1 hv;have e:=hq2 (c7 (c9 a c) (c9 v c))
 -- how the Ob3 points turn,seen along m
 have em:H*dot m (c7 (c9 a c) (c9 v c))=(p.b-dot p.n v)*(H*H*dot (c9 c a) (c9 c a)+S*S):=by
  have mv:dot m v=dot m a:=by
   have e':=hq2 (c9 v a);rw[G6,G6,show dot q.n v-dot q.n a=0 by omega,Qlt] at e'
   have:=(Qll.1 e'.symm).resolve_left (by omega)
   omega
  have r1:H*orp p.n a c v=S*(p.b-dot p.n v):=by have:=hmv v;omega
  have r2:dot m (c7 (c9 a c) (c9 v c))=H*((p.b-dot p.n v)*dot (c9 c a) (c9 c a))+S*orp p.n a c v:=by
   have nd:dot p.n (c9 c a)=0:=by rw[G6];omega
   have r3:dot m (c7 (c9 a c) (c9 v c))=H*(dot p.n (c9 c a)*dot (c9 c a) (c9 v a))-H*(dot p.n (c9 v a)*dot (c9 c a) (c9 c a))+S*orp p.n a c v:=by
    have q1:dot u (c7 (c9 c a) (c9 v a))=dot p.n (c9 c a)*dot (c9 c a) (c9 v a)-dot p.n (c9 v a)*dot (c9 c a) (c9 c a):=by rw[hu];simp only[dot,c7];grind
    have q2:c7 (c9 a c) (c9 v c)=⟨-(c7 (c9 c a) (c9 v a)).x,-(c7 (c9 c a) (c9 v a)).y,-(c7 (c9 c a) (c9 v a)).z⟩:=by refine Qlat ?_ ?_ ?_<;>simp only[c7,c9]<;>grind
    have q3:orp p.n a c v=dot p.n (c7 (c9 c a) (c9 v a)):=rfl;rw[q2,q3];have q4:dot m ⟨-(c7 (c9 c a) (c9 v a)).x,-(c7 (c9 c a) (c9 v a)).y,-(c7 (c9 c a) (c9 v a)).z⟩=H*dot u (c7 (c9 c a) (c9 v a))+S*dot p.n (c7 (c9 c a) (c9 v a)):=by
     rw[hm];generalize c7 (c9 c a) (c9 v a)=w;simp only[dot];grind
    rw[q4,q1]
    grind
   rw[r3,nd,Int.zero_mul,Qlt,G6 p.n v a,show dot p.n v-dot p.n a=-(p.b-dot p.n v) by omega]
   grind
  rw[r2];generalize dot (c9 c a) (c9 c a)=D at *
  generalize orp p.n a c v=s at *
  generalize p.b-dot p.n v=t at *
  grind
 have hpos:0<H*H*dot (c9 c a) (c9 c a)+S*S:=by
  have:=Qlf (Qlf hH0 hH0) hdd
  have:=Yd7 S
  omega
 have hv0':0<p.b-dot p.n v:=by
  apply Qlb;intro hno;have on:dot p.n v=p.b:=by have:=hle v xv;omega
  have s1:=he.2.2.2 v (j7.2 ⟨xv,on⟩) n2 n1;have e':=hq2 (c9 v a);rw[G6,G6,show dot q.n v-dot q.n a=0 by omega,Qlt] at e'
  have mv:=(Qll.1 e'.symm).resolve_left (by omega)
  have e2:=hmv v;rw[show p.b-dot p.n v=0 by omega,Qlt] at e2
  have:=Qlf hH0 s1
  omega
 have t1:=Qlf hv0' hpos;rw[<- em] at t1;have t2:0<dot m (c7 (c9 a c) (c9 v c)):=by
  apply Qlb;intro hno
  have:=Qle (show 0<=H by omega) (show 0<=-dot m (c7 (c9 a c) (c9 v c)) by omega)
  rw[Qlah] at this;omega
 have t3:=Qlf hk t2;rw[<- e] at t3;show 0<dot q.n (c7 (c9 a c) (c9 v c));apply Qlb;intro hno
 have:=Qle (show 0<=dot m m by omega) (show 0<=-dot q.n (c7 (c9 a c) (c9 v c)) by omega)
 rw[Qlah] at this;omega
end
noncomputable def V6g(X:List V3)(o:V3):Int:=sig (FX1 X) λp=>CN p X o
section
variable{X:List V3}(hX:Pg X)
include hX
theorem Pg.pt{p:Pln}(hp:FG X p):ptF p X∈onF p X:=by
 have:=hX.lens hp
 unfold ptF;cases h:onF p X with
 |nil=>rw[h] at this;simp at this
 |cons a l=>simp
theorem Pg.edges{p:Pln}(hp:FG X p)(f:V3->V3->Int):sig X (λa=>sig X (λc=>atE X p a c (f a c)))=sig (onF p X) (λa=>f a (nxt (onF p X) p.n a)):=by
 rw[<- (hX.rim hp).sum_edges f];unfold onF;rw[aa6];refine o8 λa ha=>?_
 split
 ·rw[aa6];refine o8 λc hc=>?_
  split
  ·rfl
  ·rename_i hn;unfold atE;rw[if_neg λhe=>hn (decide_eq_true (j7.1 he.2.1).2)]
 ·rename_i hn;refine ra5 λc _=>?_
  unfold atE;rw[if_neg λhe=>hn (decide_eq_true (j7.1 he.1).2)]
theorem Pg.anti(f:V3->V3->Int)(hf:∀a c,f a c=-f c a):sig (FX1 X) (λp=>sig X (λa=>sig X (λc=>atE X p a c (f a c))))=0:=by
 rw[ib8];have e:sig X (λa=>sig (FX1 X) (λp=>sig X (λc=>atE X p a c (f a c))))=sig X (λa=>sig X (λc=>sig (FX1 X) (λp=>atE X p a c (f a c)))):=o8 λa _=>ib8 _ _ _
 rw[e];have one:∀a c t,(∃p,p∈FX1 X/\Edg (onF p X) p.n a c)->sig (FX1 X) (λp=>atE X p a c t)=t:=λa c t ⟨p,hp,he⟩=>by
  rw[Xa6 (Ea9 X) hp λq hq hne=>?_]
  ·unfold atE;rw[if_pos he]
  ·unfold atE;rw[if_neg λhe'=>hne (hX.uni (H7.1 hq) (H7.1 hp) he' he)]
 have none:∀a c t,¬ (∃p,p∈FX1 X/\Edg (onF p X) p.n a c)->sig (FX1 X) (λp=>atE X p a c t)=0:=λa c t hn=>ra5 λp hp=>by
  unfold atE;rw[if_neg λhe=>hn ⟨p,hp,he⟩]
 have turn:∀a c,(∃p,p∈FX1 X/\Edg (onF p X) p.n a c)->∃p,p∈FX1 X/\Edg (onF p X) p.n c a:=λa c ⟨p,hp,he⟩=>by
  obtain⟨q,hq,h⟩:=hX.rev (H7.1 hp) he;exact⟨q,H7.2 hq,h⟩
 refine jd1 λa _ c _=>?_
 by_cases h:∃p,p∈FX1 X/\Edg (onF p X) p.n a c
 ·rw[one a c _ h,one c a _ (turn a c h)];exact hf a c
 ·rw[none a c _ h,none c a _ λk=>h (turn c a k)]
  rfl
theorem Pg.closed(w:V3):sig (FX1 X) (λp=>AR (onF p X) p.n w)=0:=by
 rw[<- hX.anti (λa c=>dot (c7 a c) w) λa c=>by simp only[dot,c7];grind]
 refine o8 λp hp=>?_
 rw[hX.edges (H7.1 hp)];rfl
theorem Pg.from'(o:V3):V6g X o=sig (FX1 X) λp=>AR (onF p X) p.n (ptF p X):=by
 unfold V6g;have e:sig (FX1 X) (λp=>CN p X o)=sig (FX1 X) (λp=>AR (onF p X) p.n (ptF p X)-AR (onF p X) p.n o):=o8 λp _=>dc6 _ _ _ _
 rw[e,Ab5,hX.closed o,Int.sub_zero]
theorem Pg.any(o o':V3):V6g X o=V6g X o':=by rw[hX.from',hX.from']
theorem Pg.cone{p:Pln}(hp:FG X p)(o:V3):(dot p.n o<p.b->0<AR (onF p X) p.n (c9 (ptF p X) o))/\(dot p.n o=p.b->AR (onF p X) p.n (c9 (ptF p X) o)=0)/\(p.b<dot p.n o->AR (onF p X) p.n (c9 (ptF p X) o)<0) :=
 (hX.rim hp).cone (hX.lens hp) (j7.1 (hX.pt hp)).2 o
end
theorem Xc0{X:List V3}(h4:Sol X):Pg (crG X):=⟨be2 h4,De7 X,λv hv=>by
 obtain⟨_,m,hm⟩:=ga3.1 hv;exact⟨m,λw hw hne=>hm w (ga3.1 hw).1 hne⟩⟩
noncomputable def VG(X:List V3):Int:=sig (FX1 X) λp=>CN p (crG X) ⟨0,0,0⟩
theorem Xc1{l:List V3}{p:Pln}(hp:∀u∈l,dot p.n u<=p.b){w:V3}:w∈onF p (crG l)↔w∈l/\dot p.n w=p.b/\∃m,∀u∈l,dot p.n u=p.b->u≠w->dot m u<dot m w:=by
 rw[j7,ga3];constructor
 ·rintro⟨⟨hw,m,hm⟩,e⟩;exact⟨hw,e,m,λu hu _ hne=>hm u hu hne⟩
 ·rintro⟨hw,e,m,hm⟩;refine⟨⟨hw,?_⟩,e⟩;obtain⟨N,hN,hb⟩:=big m (l.map λu=>⟨c9 u w,0⟩)
  refine⟨⟨m.x+(N+1)*p.n.x,m.y+(N+1)*p.n.y,m.z+(N+1)*p.n.z⟩,λu hu hne=>?_⟩
  have hd:∀t:V3,dot ⟨m.x+(N+1)*p.n.x,m.y+(N+1)*p.n.y,m.z+(N+1)*p.n.z⟩ t=dot m t+(N+1)*dot p.n t:=λt=>by simp only[dot];grind
  rw[hd,hd,e];by_cases hup:dot p.n u=p.b
  ·rw[hup]
   have:=hm u hu hup hne
   omega
  ·have h1:=hp u hu;have h2:dot (c9 u w) m<=N:=(hb _ (Qla.2 ⟨u,hu,rfl⟩)).1;have h3:dot (c9 u w) m=dot m u-dot m w:=by simp only[dot,c9];grind
   have h5:(N+1)*dot p.n u<=(N+1)*(p.b-1):=Qlh (by omega) (by omega)
   rw[Qlx,Int.mul_one] at h5;omega
theorem Ub6(X:List V3)(p:Pln):(onF p (crG X)).Pairwise LtV:=(Bb0 X).filter _
theorem be3{l l':List V3}{p:Pln}(hp:∀u∈l,dot p.n u<=p.b)(hp':∀u∈l',dot p.n u<=p.b)(hs:∀u,dot p.n u=p.b->(u∈l↔u∈l')):onF p (crG l)=onF p (crG l'):=by
 refine ra6 _ _ (Ub6 l p) (Ub6 l' p) λw=>?_
 rw[Xc1 hp,Xc1 hp'];constructor
 ·rintro⟨hw,e,m,hm⟩;exact⟨(hs w e).1 hw,e,m,λu hu eu hne=>hm u ((hs u eu).2 hu) eu hne⟩
 ·rintro⟨hw,e,m,hm⟩;exact⟨(hs w e).2 hw,e,m,λu hu eu hne=>hm u ((hs u eu).1 hu) eu hne⟩
theorem Bd3{X Y:List V3}(h:∀u,u∈X↔u∈Y){p:Pln}(hp:FG X p):FG Y p:=by
 obtain⟨⟨hd,u,w,x,hu,hw,hx,hr⟩,pr⟩:=hp;exact⟨⟨λv hv=>hd v ((h v).2 hv),u,w,x,(h u).1 hu,(h w).1 hw,(h x).1 hx,hr⟩,pr⟩
theorem Bd4{X Y:List V3}(h:∀u,u∈X↔u∈Y):VG X=VG Y:=by
 have e:crG X=crG Y:=ra6 _ _ (Bb0 X) (Bb0 Y) λv=>by
  rw[ga3,ga3,h];constructor
  ·rintro⟨a,m,hm⟩;exact⟨a,m,λw hw=>hm w ((h w).2 hw)⟩
  ·rintro⟨a,m,hm⟩;exact⟨a,m,λw hw=>hm w ((h w).1 hw)⟩
 unfold VG;rw[e];exact xb1 (Ea9 X) (Ea9 Y) λp=>by
  rw[H7,H7];exact⟨Bd3 h,Bd3 λu=>(h u).symm⟩
section
variable{X:List V3}(h4:Sol X)
include h4
theorem pc9(o:V3):VG X=sig (FX1 X) λp=>CN p (crG X) o:=by
 have h:=(Xc0 h4).any ⟨0,0,0⟩ o;have e:∀o',V6g (crG X) o'=sig (FX1 X) λp=>CN p (crG X) o':=λo'=>by
  unfold V6g;exact xb1 (Ea9 _) (Ea9 _) λp=>by rw[H7,H7];exact pe1
 rw[e,e] at h;exact h
theorem jb1{p:Pln}(hp:FG X p)(o:V3):(dot p.n o<p.b->0<CN p (crG X) o)/\(dot p.n o=p.b->CN p (crG X) o=0)/\(p.b<dot p.n o->CN p (crG X) o<0) :=
 (Xc0 h4).cone (Ub5 hp) o
theorem Le5:0<=VG X:=by
 obtain⟨o,ho⟩:=h4.ne;rw[pc9 h4 o];refine dc5 λp hp=>?_
 have h:=H7.1 hp;obtain⟨k1,k2,_⟩:=jb1 h4 h o
 have:=h.hd o ho
 by_cases e:dot p.n o=p.b
 ·rw[k2 e];exact Qln _
 ·have:=k1 (by omega);omega
end
noncomputable def vis(X:List V3)(v:V3):Int:=sig (FX1 X) λp=>if p.b<dot p.n v then -CN p (crG X) v else 0
theorem kd0{X:List V3}(h4:Sol X)(v:V3){p:Pln}(hp:p∈FX1 X):0<=(if p.b<dot p.n v then -CN p (crG X) v else 0):=by
 by_cases h:p.b<dot p.n v
 ·rw[if_pos h]
  have:=(jb1 h4 (H7.1 hp) v).2.2 h
  omega
 ·rw[if_neg h];exact Qln _
theorem De8{X:List V3}(h4:Sol X)(v:V3):0<=vis X v:=dc5 λ_ hp=>kd0 h4 v hp
theorem Ub7{X X':List V3}(h4:Sol X){v:V3}(hs:∀u,u∈X'↔u∈X\/u=v):VG X'=VG X+vis X v:=by
 have h4':Sol X':=h4.same λu hu=>(hs u).2 (.inl hu)
 have on:∀p:Pln,dot p.n v<p.b->∀u,dot p.n u=p.b->(u∈X↔u∈X'):=λp hlt u hu=>by
  rw[hs];refine⟨.inl,λh=>h.resolve_right λe=>?_⟩
  subst e;omega
 have iff:∀p:Pln,dot p.n v<p.b->(FG X' p↔FG X p):=λp hlt=>by
  constructor
  ·rintro⟨⟨hd,u,w,x,hu,hw,hx,h3,e1,e2,e3⟩,ok⟩;exact⟨⟨λt ht=>hd t ((hs t).2 (.inl ht)),u,w,x,(on p hlt u e1).2 hu,(on p hlt w e2).2 hw,(on p hlt x e3).2 hx,h3,e1,e2,e3⟩,ok⟩
  ·rintro⟨⟨hd,u,w,x,hu,hw,hx,h3,e1,e2,e3⟩,ok⟩;refine⟨⟨λt ht=>?_,u,w,x,(on p hlt u e1).1 hu,(on p hlt w e2).1 hw,(on p hlt x e3).1 hx,h3,e1,e2,e3⟩,ok⟩
   rcases (hs t).1 ht with h|rfl
   ·exact hd t h
   ·omega
 have term:sig (FX1 X') (λp=>CN p (crG X') v)=sig (FX1 X') (λp=>if decide (dot p.n v<p.b)=true then CN p (crG X) v else 0):=o8 λp hp=>by
  have hpS:=H7.1 hp;by_cases hlt:dot p.n v<p.b
  ·rw[if_pos (decide_eq_true hlt)];exact te7 (be3 hpS.hd ((iff p hlt).1 hpS).hd λu hu=>(on p hlt u hu).symm) v
  ·rw[if_neg (by simpa using hlt)]
   have:=hpS.hd v ((hs v).2 (.inr rfl))
   exact (jb1 h4' hpS v).2.1 (by omega)
 have part:sig (FX1 X) (λp=>CN p (crG X) v)+vis X v=sig (FX1 X) (λp=>if decide (dot p.n v<p.b)=true then CN p (crG X) v else 0):=by
  unfold vis;rw[<- pc6];refine o8 λp hp=>?_
  by_cases hlt:dot p.n v<p.b
  ·rw[if_pos (decide_eq_true hlt),if_neg (by omega)];omega
  ·have hf:(if decide (dot p.n v<p.b)=true then CN p (crG X) v else 0)=0:=if_neg λk=>hlt (of_decide_eq_true k)
   rw[hf];by_cases hgt:p.b<dot p.n v
   ·rw[if_pos hgt];omega
   ·rw[if_neg hgt,(jb1 h4 (H7.1 hp) v).2.1 (by omega)];rfl
 rw[pc9 h4' v,pc9 h4 v,part,term,<- aa6,<- aa6];refine xb1 ((Ea9 X').filter _) ((Ea9 X).filter _) λp=>?_
 rw[Qlc,Qlc,decide_eq_true_eq,H7,H7];constructor
 ·rintro⟨h1,h2⟩;exact⟨(iff p h2).1 h1,h2⟩
 ·rintro⟨h1,h2⟩;exact⟨(iff p h2).2 h1,h2⟩
def In(X:List V3)(z:V3):Prop:=∀(n:V3) (b:Int),(∀u∈X,dot n u<=b)->dot n z<=b
theorem In.mem{X:List V3}{z:V3}(h:z∈X):In X z:=λ_ _ hv=>hv z h
theorem In.mono{X Y:List V3}(hs:∀u∈X,u∈Y){z:V3}(h:In X z):In Y z:=λn b hv=>h n b λu hu=>hv u (hs u hu)
theorem De9{X:List V3}{v:V3}(h:In X v):vis X v=0:=ra5 λp hp=>by
 have:=h p.n p.b (H7.1 hp).hd
 rw[if_neg (by omega)]
theorem te9{X:List V3}(h4:Sol X):∀C:List V3,(∀c∈C,In X c)->VG (X++C)=VG X:=λC=>by
 induction C with
 |nil=>intro _;rw[List.append_nil]
 |cons c C ih =>
  intro h;have hC:=ih λd hd=>h d (Qli _ hd)
  have h4':Sol (X++C):=h4.same λu hu=>Qld _ hu
  rw[Ub7 (X:=X++C) (v:=c) h4' λu=>by
   simp only[Qlg,Qlk];constructor
   ·rintro (h|h|h)
    ·exact .inl (.inl h)
    ·exact .inr h
    ·exact .inl (.inr h)
   ·rintro ((h|h)|h)
    ·exact .inl h
    ·exact .inr (.inr h)
    ·exact .inr (.inl h),De9 ((h c Qlr).mono λu hu=>Qld _ hu),hC]
  omega
theorem Ee0{X:List V3}(h4:Sol X):∀C:List V3,VG X<=VG (X++C):=λC=>by
 induction C with
 |nil=>rw[List.append_nil];exact Qln _
 |cons c C ih =>
  have h4':Sol (X++C):=h4.same λu hu=>Qld _ hu
  rw[Ub7 (X:=X++C) (X':=X++c::C) (v:=c) h4' λu=>by
   simp only[Qlg,Qlk];constructor
   ·rintro (h|h|h)
    ·exact .inl (.inl h)
    ·exact .inr h
    ·exact .inl (.inr h)
   ·rintro ((h|h)|h)
    ·exact .inl h
    ·exact .inr (.inr h)
    ·exact .inr (.inl h)]
  have:=De8 h4' c
  omega
theorem Bd5{X C:List V3}(h4:Sol X)(hC:Sol C)(h:∀c∈C,In X c):VG C<=VG X:=by
 have e:VG (X++C)=VG (C++X):=Bd4 λu=>by rw[Qlg,Qlg];exact Or.comm
 rw[<- te9 h4 C h,e];exact Ee0 hC X
structure Lin(T:V3->V3)(r0 r1 r2:V3):Prop where
 det:dot r0 (c7 r1 r2)≠0
 t:∀u w,c9 (T u) (T w)=⟨dot r0 (c9 u w),dot r1 (c9 u w),dot r2 (c9 u w)⟩
def dt3(a c v o:V3):Int:=D3 (c9 a o) (c9 c o) (c9 v o)
def sgn(d:Int):Int:=if 0<d then 1 else -1
theorem pe2{d:Int}(h:d≠0):0<sgn d*d:=by unfold sgn;split<;>omega
section
variable{T:V3->V3}{r0 r1 r2:V3}(h:Lin T r0 r1 r2)
include h
theorem Lin.det3(a c v o:V3):dt3 (T a) (T c) (T v) (T o)=dot r0 (c7 r1 r2)*dt3 a c v o:=by
 unfold dt3 D3;rw[h.t,h.t,h.t,Kb4,<- Ac8,Ab7 (c7 r1 r2),Ab7 (c7 r2 r0),Ab7 (c7 r0 r1)]
theorem Lin.n3(u w x:V3):N3 (T u) (T w) (T x)=⟨dot (c7 r1 r2) (N3 u w x),dot (c7 r2 r0) (N3 u w x),dot (c7 r0 r1) (N3 u w x)⟩:=by
 show c7 (c9 (T w) (T u)) (c9 (T x) (T u))=_;rw[h.t,h.t,Kb4];rfl
theorem Lin.sim{l:List V3}(hl:l.all inV=true)(hm:(l.map T).all inV=true):Sim l T:=by
 have hd:=h.det;refine⟨hl,hm,λn=>⟨⟨sgn (dot r0 (c7 r1 r2))*dot n (c7 r1 r2),sgn (dot r0 (c7 r1 r2))*dot n (c7 r2 r0),sgn (dot r0 (c7 r1 r2))*dot n (c7 r0 r1)⟩,sgn (dot r0 (c7 r1 r2))*dot r0 (c7 r1 r2),pe2 hd,λu hu w hw=>?_⟩,λn'=>⟨⟨n'.x*r0.x+n'.y*r1.x+n'.z*r2.x,n'.x*r0.y+n'.y*r1.y+n'.z*r2.y,n'.x*r0.z+n'.y*r1.z+n'.z*r2.z⟩,1,by omega,λu hu w hw=>?_⟩,λu hu w hw x hx=>?_⟩
 ·rw[<- v7,<- v7,h.t,Qlab,<- Ac8];generalize sgn (dot r0 (c7 r1 r2))=s;simp only[dot]
  grind
 ·rw[<- v7,<- v7,h.t];simp only[dot]
  grind
 ·rw[h.n3];constructor
  ·intro hne h0;simp only[V3.mk.injEq] at h0;obtain⟨e1,e2,e3⟩:=h0;obtain⟨b1,b2,b3⟩:=Nc0 r0 r1 r2 (N3 u w x);rw[e1,e2,e3] at b1 b2 b3;simp only[Int.zero_mul,Qlan] at b1 b2 b3;exact hne (Qlat ((Qll.1 b1).resolve_left hd) ((Qll.1 b2).resolve_left hd) ((Qll.1 b3).resolve_left hd))
  ·intro hne h0;rw[h0] at hne;have z:∀v:V3,dot v ⟨0,0,0⟩=0:=λv=>by simp[dot]
   rw[z,z,z] at hne;exact hne rfl
end
theorem Bd6{n a c v:V3}(h1:dot n a=dot n v)(h2:dot n c=dot n v)(o:V3):dot n n*dt3 a c v o=orp n a c v*(dot n v-dot n o):=by
 have e:dt3 a c v o=dot (c7 (c9 a v) (c9 c v)) (c9 v o):=by simp only[dt3,D3,dot,c7,c9];grind
 have hp:=I9 (n:=n) (a:=c9 a v) (c:=c9 c v) (by rw[v7];omega) (by rw[v7];omega)
 have hp':c7 (c7 (c9 a v) (c9 c v)) n=⟨0,0,0⟩:=by
  have:∀x y:V3,c7 x y=⟨-(c7 y x).x,-(c7 y x).y,-(c7 y x).z⟩:=λx y=>by simp only[c7,V3.mk.injEq];refine⟨?_,?_,?_⟩<;>grind
  rw[this,hp];rfl
 have d1:=K7 (d:=c9 v o) hp';have d2:dot (c7 (c9 a v) (c9 c v)) n=orp n a c v:=by rw[sd8];exact Ab7 _ _
 rw[d2,v7 n v o] at d1;rw[e];exact d1
theorem be4(n a c v:V3):orp n c a v=-orp n a c v:=by simp only[orp,crs,dot,c7,c9];grind
theorem kd1{k x m y:Int}(hk:0<k)(hy:0<y)(e:k*x=m*y):0<x↔0<m:=by
 constructor
 ·intro hx
  have:=Qlf hk hx
  apply Qlb;intro hno
  have:=Qlaa (show m<=0 by omega) (show 0<=y by omega)
  omega
 ·intro hm
  have:=Qlf hm hy
  apply Qlb;intro hno
  have:=Qlm (show 0<=k by omega) (show x<=0 by omega)
  omega
section
variable{l:List V3}{T:V3->V3}{r0 r1 r2:V3}(h:Lin T r0 r1 r2)(hc:Z4 l=0)(hm:(l.map T).all inV=true)
include h hc hm
theorem Lin.chk:Z4 (l.map T)=0:=by
 obtain⟨h48,hl,hs⟩:=J4 hc;have hS:=h.sim hl hm;exact ib5 (by rw[Qlae];omega) hm (hS.sol.1 hs)
theorem Lin.cone{p q:Pln}(hp:p∈F0 l)(hq:q∈F0 (l.map T))(hcar:Car l T p q)(o:V3):CN q (M0 (l.map T)) (T o)=sgn (dot r0 (c7 r1 r2))*dot r0 (c7 r1 r2)*CN p (M0 l) o:=by
 obtain⟨h48,hl,hs⟩:=J4 hc;have hS:=h.sim hl hm;have hs':=hS.sol.1 hs;have hc':=Lin.chk h hc hm;have hX:=Ab9 hc;have hX':=Ab9 hc';have hpS:=(C4 hl p).1 hp;have hqS:=(C4 hm q).1 hq;have hR:=hX.rim (Ub0 hl hs hpS);have hR':=hX'.rim (Ub0 hm hs' hqS);obtain⟨_,_,_,_,_,_,_,_,_,_,_,hall⟩:=hcar;have mem:∀w,w∈onF q (M0 (l.map T))↔∃v∈onF p (M0 l),w=T v:=λw=>by
  rw[j7];unfold M0;rw[hS.ext_mem hs];constructor
  ·rintro⟨⟨v,hv,rfl⟩,e⟩;exact⟨v,j7.2 ⟨hv,(hall v (ga2 hl hs hv)).2 e⟩,rfl⟩
  ·rintro⟨v,hv,rfl⟩;obtain⟨h1,h2⟩:=j7.1 hv;exact⟨⟨v,h1,rfl⟩,(hall v (ga2 hl hs h1)).1 h2⟩
 have mT:∀v∈onF p (M0 l),T v∈onF q (M0 (l.map T)):=λv hv=>(mem _).2 ⟨v,hv,rfl⟩
 have inl:∀v∈onF p (M0 l),v∈l:=λv hv=>ga2 hl hs (j7.1 hv).1
 -- a point behind the facet
 obtain⟨b,hb,hoff⟩:=hs.off (Xa0 hpS.ok) p.b;have hblt:dot p.n b<p.b:=by have:=hpS.hd b hb;omega
 have hblt':dot q.n (T b)<q.b:=by
  have h1:=hqS.hd (T b) (Qla.2 ⟨b,hb,rfl⟩);have h2:dot q.n (T b)≠q.b:=λe=>hoff ((hall b hb).2 e)
  omega
 have nn:=A9 hR.n0;have nn':=A9 hR'.n0;have on:=λv hv=>(j7 (p:=p) (X:=M0 l) (v:=v)).1 hv |>.2
 have on':=λv hv=>(j7 (p:=q) (X:=M0 (l.map T)) (v:=v)).1 hv |>.2
 have s1:∀a c v,a∈onF p (M0 l)->c∈onF p (M0 l)->v∈onF p (M0 l)->(0<dt3 a c v b↔0<orp p.n a c v):=λa c v ha hc hv =>
  kd1 nn (show 0<dot p.n v-dot p.n b by rw[on v hv];omega) (Bd6 (by rw[on a ha,on v hv]) (by rw[on c hc,on v hv]) b)
 have s2:∀a c v,a∈onF p (M0 l)->c∈onF p (M0 l)->v∈onF p (M0 l)->(0<dt3 (T a) (T c) (T v) (T b)↔0<orp q.n (T a) (T c) (T v)):=λa c v ha hc hv =>
  kd1 nn' (show 0<dot q.n (T v)-dot q.n (T b) by rw[on' _ (mT v hv)];omega) (Bd6 (by rw[on' _ (mT a ha),on' _ (mT v hv)]) (by rw[on' _ (mT c hc),on' _ (mT v hv)]) (T b))
 have hinj:∀a∈onF p (M0 l),∀c∈onF p (M0 l),T a=T c->a=c:=λa ha c hc e=>hS.inj (inl a ha) (inl c hc) e
 -- the parts of the sum
 obtain⟨c0,hc0⟩:∃c0,ptF p (M0 l)=c0:=⟨_,rfl⟩;have mc0:c0∈onF p (M0 l):=hc0 ▸ hX.pt (Ub0 hl hs hpS);have md:=hX'.pt (Ub0 hm hs' hqS);have k0:CN q (M0 (l.map T)) (T o)=AR (onF q (M0 (l.map T))) q.n (c9 (T c0) (T o)):=by
  have z:=hR'.ar_perp (d:=c9 (ptF q (M0 (l.map T))) (T c0)) (hR'.perp md (mT c0 mc0));unfold CN;rw[dc6] at z;rw[dc6,dc6];have z:AR (onF q (M0 (l.map T))) q.n (ptF q (M0 (l.map T)))-AR (onF q (M0 (l.map T))) q.n (T c0)=0:=z;omega
 have hperm:(onF q (M0 (l.map T))).Perm ((onF p (M0 l)).map T):=by
  refine pc8 hR'.nd ?_ λw=>?_
  ·have key : ∀ L : List V3, L.Nodup → (∀ v ∈ L, v ∈ onF p (M0 l)) → (L.map T).Nodup := fun L => by
    induction L with
    |nil=>intro _ _;simp
    |cons a L ih =>
     intro hnd hsub;rw[Qlv] at hnd;rw[Qlac,Qlv];refine⟨λhmem=>?_,ih hnd.2 λv hv=>hsub v (Qli _ hv)⟩
     obtain⟨c,hcL,e⟩:=Qla.1 hmem
     have:=hinj c (hsub c (Qli _ hcL)) a (hsub a Qlr) e
     subst this;exact hnd.1 hcL
   exact key _ hR.nd λv hv=>hv
  ·rw[mem,Qla];constructor
   ·rintro⟨v,hv,rfl⟩;exact⟨v,hv,rfl⟩
   ·rintro⟨v,hv,rfl⟩;exact⟨v,hv,rfl⟩
 have k1:CN q (M0 (l.map T)) (T o)=sig (onF p (M0 l)) λa=>D3 (c9 (T a) (T o)) (c9 (nxt (onF q (M0 (l.map T))) q.n (T a)) (T o)) (c9 (T c0) (T o)):=by
  rw[k0,<- hR'.ar_o (T o),ib9 hperm,ab8]
 have k2:CN p (M0 l) o=sig (onF p (M0 l)) λa=>D3 (c9 a o) (c9 (nxt (onF p (M0 l)) p.n a) o) (c9 c0 o):=by
  unfold CN;rw[hc0,<- hR.ar_o o]
 rw[k1,k2,<- Ab6];have hd:=h.det;by_cases hpos:0<dot r0 (c7 r1 r2)
 ·have e1:sgn (dot r0 (c7 r1 r2))=1:=by unfold sgn;rw[if_pos hpos]
  rw[e1,Int.one_mul];refine o8 λa ha=>?_
  have hedge:Edg (onF q (M0 (l.map T))) q.n (T a) (T (nxt (onF p (M0 l)) p.n a)):=by
   obtain⟨x1,x2,x3,x4⟩:=hR.nx ha;refine⟨mT a ha,mT _ x2,λe=>x3 (hinj a ha _ x2 e),λw hw wa wc=>?_⟩
   obtain⟨v,hv,rfl⟩:=(mem w).1 hw;refine (s2 a _ v ha x2 hv).1 ?_;rw[h.det3];exact Qlf hpos ((s1 a _ v ha x2 hv).2 (x4 v hv (λe=>wa (by rw[e])) λe=>wc (by rw[e])))
  rw[<- (hR'.edg_iff (mT a ha)).1 hedge];exact h.det3 a _ c0 o
 ·have e1:sgn (dot r0 (c7 r1 r2))=-1:=by unfold sgn;rw[if_neg hpos]
  rw[e1];rw[<- hR.sig_nx λa=>D3 (c9 (T a) (T o)) (c9 (nxt (onF q (M0 (l.map T))) q.n (T a)) (T o)) (c9 (T c0) (T o))]
  refine o8 λa ha=>?_
  obtain⟨x1,x2,x3,x4⟩:=hR.nx ha;have hedge:Edg (onF q (M0 (l.map T))) q.n (T (nxt (onF p (M0 l)) p.n a)) (T a):=by
   refine⟨mT _ x2,mT a ha,λe=>x3 (hinj a ha _ x2 e.symm),λw hw wc wa=>?_⟩
   obtain⟨v,hv,rfl⟩:=(mem w).1 hw;refine (s2 _ a v x2 ha hv).1 ?_;rw[h.det3];have h3:=x4 v hv (λe=>wa (by rw[e])) λe=>wc (by rw[e])
   have h4:=(s1 a _ v ha x2 hv).2 h3;have h5:dt3 (nxt (onF p (M0 l)) p.n a) a v b=-dt3 a (nxt (onF p (M0 l)) p.n a) v b:=by simp only[dt3,D3,dot,c7,c9];grind
   rw[h5]
   have:=Qlf (show 0 < -dot r0 (c7 r1 r2) by omega) h4
   rw[Int.neg_mul] at this;rw[Qlah];exact this
  rw[<- (hR'.edg_iff (mT _ x2)).1 hedge];have h6:=h.det3 a (nxt (onF p (M0 l)) p.n a) c0 o;have h7:D3 (c9 (T (nxt (onF p (M0 l)) p.n a)) (T o)) (c9 (T a) (T o)) (c9 (T c0) (T o))=-dt3 (T a) (T (nxt (onF p (M0 l)) p.n a)) (T c0) (T o):=by simp only[dt3,D3,dot,c7];grind
  rw[h7,h6];show -(dot r0 (c7 r1 r2)*dt3 a (nxt (onF p (M0 l)) p.n a) c0 o)=-1*dot r0 (c7 r1 r2)*dt3 a (nxt (onF p (M0 l)) p.n a) c0 o;rw[Int.neg_mul,Int.one_mul,Int.neg_mul]
open Classical in
theorem Lin.six:Y2 (l.map T)=(sgn (dot r0 (c7 r1 r2))*dot r0 (c7 r1 r2)*(Y2 l).1,0):=by
 obtain⟨h48,hl,hs⟩:=J4 hc;have hS:=h.sim hl hm;have hs':=hS.sol.1 hs;have hc':=Lin.chk h hc hm;rw[Cc1 hc' (T ⟨0,0,0⟩),Cc1 hc ⟨0,0,0⟩];congr 1;have hex:∀p:Pln,∃q:Pln,p∈F0 l->q∈F0 (l.map T)/\Car l T p q:=λp=>by
  by_cases hp:p∈F0 l
  ·obtain⟨q,hq,hcar⟩:=Sim.upf hS hs hs' hp;exact⟨q,λ_=>⟨hq,hcar⟩⟩
  ·exact⟨p,λk=>absurd k hp⟩
 obtain⟨f,hf⟩:=Qlaq hex;have hnd:((F0 l).map f).Nodup:=by
  have key:∀L:List Pln,L.Nodup->(∀v∈L,v∈F0 l)->(L.map f).Nodup:=λL=>by
   induction L with
   |nil=>intro _ _;simp
   |cons a L ih =>
    intro hnd hsub;rw[Qlv] at hnd;rw[Qlac,Qlv];refine⟨λhmem=>?_,ih hnd.2 λv hv=>hsub v (Qli _ hv)⟩
    obtain⟨c,hcL,e⟩:=Qla.1 hmem;have ma:=hsub a Qlr;have mc:=hsub c (Qli _ hcL);obtain⟨u,w,x,hu,hw,hx,h3,⟨p1,p2,p3⟩,q1,q2,q3,_⟩:=(hf a ma).2;obtain⟨_,_,_,_,_,_,_,_,_,_,_,hall⟩:=(hf c mc).2
    have:a=c:=Tb9 hl hs ((C4 hl a).1 ma) ((C4 hl c).1 mc) hu hw hx h3 p1 p2 p3 ((hall u hu).2 (by rw[e];exact q1)) ((hall w hw).2 (by rw[e];exact q2)) ((hall x hx).2 (by rw[e];exact q3))
    subst this;exact hnd.1 hcL
  exact key _ (Ad3 l) λv hv=>hv
 have hperm:((F0 l).map f).Perm (F0 (l.map T)):=Ac7 hnd (Ad3 _) (λq hq=>by
  obtain⟨p,hp,rfl⟩:=Qla.1 hq;exact (hf p hp).1) (by rw[Qlae,Sim.len hS hs hs'];exact Nat.le_refl _)
 rw[<- ib9 hperm,ab8,<- Ab6];exact o8 λp hp=>Lin.cone h hc hm hp (hf p hp).1 (hf p hp).2 _
end
open Classical in
theorem Cc3{α:Type}{f:α->Int}{a c:List α}(ha:a.Nodup)(hc:c.Nodup)(hs:∀x∈a,x∈c)(hf:∀x∈c,0<=f x):sig a f<=sig c f:=by
 have e:sig c f=sig c (λx=>if decide (x∈a)=true then f x else 0)+sig c (λx=>if decide (x∈a)=true then 0 else f x):=by
  rw[<- pc6];refine o8 λx _=>?_
  split<;>omega
 have e1:sig c (λx=>if decide (x∈a)=true then f x else 0)=sig a f:=by
  rw[<- aa6];refine xb1 (hc.filter _) ha λx=>?_
  rw[Qlc,decide_eq_true_eq];exact⟨λh=>h.2,λh=>⟨hs x h,h⟩⟩
 have e2:0<=sig c (λx=>if decide (x∈a)=true then 0 else f x):=dc5 λx hx=>by
  split
  ·exact Qln _
  ·exact hf x hx
 omega
theorem td6{α:Type}{f:α->Int}{c:List α}(hc:c.Nodup){x:α}(hx:x∈c)(hf:∀y∈c,0<=f y):f x<=sig c f:=by
 have:=Cc3 (a:=[x]) (by simp) hc (by simpa using hx) hf
 rw[n5,Ra0] at this;omega
theorem Ee1(v:V3):g3 ⟨-v.x,-v.y,-v.z⟩=g3 v:=by unfold g3;simp only[Int.natAbs_neg]
theorem be5 {X : List V3} {n u w x : V3} (hu : u ∈ X) (hw : w ∈ X) (hx : x ∈ X) (h3 : N3 u w x ≠ ⟨0, 0, 0⟩) (hn : n ≠ ⟨0, 0, 0⟩) (hle : ∀ v ∈ X, dot n v ≤ dot n u) (e1 : dot n w = dot n u) (e2 : dot n x = dot n u) :
  ∃p g,FG X p/\0<g/\(∀v,g*dot p.n v=dot n v)/\g*p.b=dot n u:=by
 obtain⟨n',hpr,hg,ex,ey,ez⟩:=Ad2 hn;have hd:∀v,g3 n*dot n' v=dot n v:=λv=>by
  have:dot n v=(g3 n*n'.x)*v.x+(g3 n*n'.y)*v.y+(g3 n*n'.z)*v.z:=by rw[ex,ey,ez];rfl
  rw[this];generalize g3 n=g;simp only[dot]
  grind
 have hle':∀v,dot n v<=dot n u->dot n' v<=dot n' u:=λv h=>by
  rw[<- hd,<- hd] at h;exact Qlu h hg
 have heq:∀v,dot n v=dot n u->dot n' v=dot n' u:=λv h=>by
  rw[<- hd,<- hd] at h;exact Qlj (by omega) h
 exact⟨⟨n',dot n' u⟩,g3 n,⟨⟨λv hv=>hle' v (hle v hv),u,w,x,hu,hw,hx,h3,rfl,heq w e1,heq x e2⟩,hpr⟩,hg,hd,hd u⟩
theorem pe3{X X' C:List V3}{n n':V3}{k k':Int}(h:Rim X C n k)(h':Rim X' C n' k')(hn:∀v,dot n' v=-dot n v)(d:V3):AR C n' d=-AR C n d:=by
 have ho:∀a c v,orp n' c a v=orp n a c v:=λa c v=>by
  have e:orp n' c a v=-orp n c a v:=hn _;rw[e,be4];omega
 have hnx:∀a∈C,nxt C n' (nxt C n a)=a:=λa ha=>by
  obtain⟨x1,x2,x3,x4⟩:=h.nx ha;exact ((h'.edg_iff x2).1 ⟨x2,x1,Ne.symm x3,λv hv va vc=>by rw[ho];exact x4 v hv vc va⟩).symm
 unfold AR;rw[<- h.sig_nx λa=>dot (c7 a (nxt C n' a)) d,<- pc7]
 refine o8 λa ha=>?_
 rw[hnx a ha];simp only[dot,c7]
 grind
structure Cut(A B S:List V3)(e:V3)(t:Int):Prop where
 ne:e≠⟨0,0,0⟩
 a:∀u∈A,dot e u<=t
 b:∀u∈B,t<dot e u
 s:∀u,u∈S↔u∈A/\dot e u=t
 x:∀a∈A,dot e a<t->∀b∈B,∃z∈S,∀n,(dot e b-dot e a)*dot n z=(dot e b-t)*dot n a+(t-dot e a)*dot n b
section
variable{A B S:List V3}{e:V3}{t:Int}(h:Cut A B S e t)
include h
theorem Cut.over{a b:V3}(ha:a∈A)(hlt:dot e a<t)(hb:b∈B){n:V3}{c:Int}(h1:c<=dot n a)(h2:c<=dot n b)(h3:c<dot n a\/c<dot n b):∃z∈S,c<dot n z:=by
 obtain⟨z,hz,hx⟩:=h.x a ha hlt b hb;refine⟨z,hz,?_⟩;have e1:=hx n;have hbt:=h.b b hb;obtain⟨p,hp⟩:∃p,p=dot e b-t:=⟨_,rfl⟩;obtain⟨q,hq⟩:∃q,q=t-dot e a:=⟨_,rfl⟩;rw[<- hp,<- hq,show dot e b-dot e a=p+q by omega] at e1
 have e2:(p+q)*(dot n z-c)=p*(dot n a-c)+q*(dot n b-c):=by
  rw[Qlx,e1];grind
 have k1:=Qle (show 0<=p by omega) (show 0<=dot n a-c by omega)
 have k2:=Qle (show 0<=q by omega) (show 0<=dot n b-c by omega)
 have k3:0<p*(dot n a-c)+q*(dot n b-c):=by
  rcases h3 with h3|h3
  ·have:=Qlf (show 0<p by omega) (show 0<dot n a-c by omega);omega
  ·have:=Qlf (show 0<q by omega) (show 0<dot n b-c by omega);omega
 apply Qlb;intro hno
 have:=Qlm (show 0<=p+q by omega) (show dot n z-c<=0 by omega)
 omega
theorem Cut.flat(hA:Sol A)(hB:B≠[]):∃u w x,u∈S/\w∈S/\x∈S/\N3 u w x≠⟨0,0,0⟩:=by
 obtain⟨b,hb⟩:∃b,b∈B:=by
  cases B with
  |nil=>exact absurd rfl hB
  |cons b l=>exact⟨b,by simp⟩
 rcases mb5 (S.map λs=>c9 s b) with⟨x,y,z,hx,hy,hz,hw⟩|⟨d,hd,hz⟩
 ·obtain⟨u,hu,rfl⟩:=Qla.1 hx;obtain⟨v,hv,rfl⟩:=Qla.1 hy;obtain⟨w,hw',rfl⟩:=Qla.1 hz;refine⟨u,v,w,hu,hv,hw',λe3=>hw ?_⟩
  have:dot (c9 u b) (c7 (c9 v b) (c9 w b))=dot (N3 u v w) (c9 u b):=by simp only[dot,c7,N3,c9];grind
  rw[this,e3];simp[dot]
 ·exfalso;have hS:∀s∈S,dot d s=dot d b:=λs hs=>by
   have h1:=hz _ (Qla.2 ⟨s,hs,rfl⟩);have h2:dot (c9 s b) d=dot d s-dot d b:=by simp only[dot,c9];grind
   omega
  obtain⟨a,ha,hne⟩:=hA.off hd (dot d b);by_cases hlt:dot e a<t
  ·obtain⟨z,hzS,hx⟩:=h.x a ha hlt b hb;have e1:=hx d;rw[hS z hzS] at e1;have hbt:=h.b b hb;obtain⟨p,hp⟩:∃p,p=dot e b-t:=⟨_,rfl⟩;obtain⟨q,hq⟩:∃q,q=t-dot e a:=⟨_,rfl⟩;rw[<- hp,<- hq,show dot e b-dot e a=p+q by omega] at e1
   have e2:p*(dot d a-dot d b)=0:=by rw[Qlx];grind
   have:=(Qll.1 e2).resolve_left (by omega)
   omega
  ·exact hne (hS a ((h.s a).2 ⟨ha,by have:=h.a a ha;omega⟩))
section
variable{u w x:V3}(hu:u∈S)(hw:w∈S)(hx:x∈S)(h3:N3 u w x≠⟨0,0,0⟩)
include hu hw hx h3
theorem Cut.sol{R:List V3}{b:V3}(hb:b∈B)(hR:b∈R):Sol (S++R) :=
 ⟨u,w,x,b,Qld _ hu,Qld _ hw,Qld _ hx,Qls _ hR,oe8 h3 (n:=e) (by rw[((h.s u).1 hu).2,((h.s w).1 hw).2]) (by rw[((h.s u).1 hu).2,((h.s x).1 hx).2]) (by have:=h.b b hb;rw[((h.s u).1 hu).2];omega)⟩
theorem Cut.base(hA:Sol A){b:V3}(hb:b∈B):VG A+VG (S++[b])<=VG (A++[b]):=by
 have hD:=h.sol hu hw hx h3 hb (R:=[b]) (by simp)
 obtain⟨uA,ue⟩:=(h.s u).1 hu;obtain⟨wA,we⟩:=(h.s w).1 hw;obtain⟨xA,xe⟩:=(h.s x).1 hx;obtain⟨p,g,hp,hg,hgv,hgb⟩:=be5 (n:=e) uA wA xA h3 h.ne (λv hv=>by have:=h.a v hv;omega) (by omega) (by omega)
 rw[ue] at hgb;have on:∀v,dot p.n v=p.b↔dot e v=t:=λv=>by
  rw[<- hgv,<- hgb];exact⟨λk=>by rw[k],λk=>Qlj (by omega) k⟩
 have above:p.b<dot p.n b:=by
  have k:=h.b b hb;rw[<- hgv b,<- hgb] at k;exact Qlal k (by omega)
 rw[Ub7 hA (X':=A++[b]) (v:=b) λz=>by simp]
 have v1:-CN p (crG A) b<=vis A b:=by
  have:=td6 (Ea9 A) (H7.2 hp) λq hq=>kd0 hA b hq
  rw[if_pos above] at this;exact this
 have hf:∀v,dot (N8 p).n v=-dot p.n v:=λv=>ib4 p v
 have hfb:(N8 p).b=-p.b:=rfl;have hfG:FG (S++[b]) (N8 p):=by
  refine⟨⟨λv hv=>?_,u,w,x,by simp[hu],by simp[hw],by simp[hx],h3,by rw[hf,hfb,(on u).2 ue],by rw[hf,hfb,(on w).2 we],by rw[hf,hfb,(on x).2 xe]⟩,?_⟩
  ·rw[hf,hfb]
   rcases Qlg.1 hv with hv|hv
   ·have:=(on v).2 ((h.s v).1 hv).2;omega
   ·rw[Qly.1 hv];omega
  ·exact (Ee1 p.n).trans hp.pr
 have v2:VG (S++[b])=CN (N8 p) (crG (S++[b])) b:=by
  rw[pc9 hD b];refine Xa6 (Ea9 _) (H7.2 hfG) λq hq hne=>?_
  have hqG:=H7.1 hq;refine (jb1 hD hqG b).2.1 ?_;apply Qlb;intro hoff;obtain⟨a,c,k,ha,hc,hk,k3,f1,f2,f3⟩:=hqG.on;have ps:∀v∈S++[b],dot q.n v=q.b->dot p.n v=p.b:=λv hv ev=>by
   rcases Qlg.1 hv with hv|hv
   ·exact (on v).2 ((h.s v).1 hv).2
   ·rw[Qly.1 hv] at ev;exact absurd ev hoff
  rcases Cc2 hp.pr hqG.pr k3 (ps a ha f1) (ps c hc f2) (ps k hk f3) f1 f2 f3 with e'|e'
  ·subst e'
   have:=hqG.hd b (by simp)
   omega
  ·exact hne e'
 have hC:onF (N8 p) (crG (S++[b]))=onF p (crG A):=by
  refine ra6 _ _ (Ub6 _ _) (Ub6 _ _) λv=>?_
  rw[Xc1 hfG.hd,Xc1 hp.hd];have onf:∀y,dot (N8 p).n y=(N8 p).b↔dot p.n y=p.b:=λy=>by rw[hf,hfb];omega
  have mem:∀y,dot p.n y=p.b->(y∈S++[b]↔y∈A):=λy hy=>by
   rw[Qlg,Qly];constructor
   ·rintro (k|rfl)
    ·exact ((h.s y).1 k).1
    ·omega
   ·intro k;exact .inl ((h.s y).2 ⟨k,(on y).1 hy⟩)
  constructor
  ·rintro⟨k1,k2,m,hm⟩;rw[onf] at k2;exact⟨(mem v k2).1 k1,k2,m,λy hy ey hne=>hm y ((mem y ey).2 hy) ((onf y).2 ey) hne⟩
  ·rintro⟨k1,k2,m,hm⟩;exact⟨(mem v k2).2 k1,(onf v).2 k2,m,λy hy ey hne=>hm y ((mem y ((onf y).1 ey)).1 hy) ((onf y).1 ey) hne⟩
 have R1:=(Xc0 hA).rim (Ub5 hp);have R2:=(Xc0 hD).rim (Ub5 hfG);rw[hC] at R2;have v3:CN (N8 p) (crG (S++[b])) b=-CN p (crG A) b:=by
  have hpt:ptF (N8 p) (crG (S++[b]))=ptF p (crG A):=by unfold ptF;rw[hC]
  unfold CN;rw[hC,hpt];exact pe3 R1 R2 hf _
 rw[v2,v3];omega
theorem Cut.step{R:List V3}(hR:∀r∈R,r∈B)(hA:Sol A)(hne:R≠[]){v:V3}(hv:v∈B):vis (S++R) v<=vis (A++R) v:=by
 obtain⟨r0,hr0⟩:∃r,r∈R:=by
  cases R with
  |nil=>exact absurd rfl hne
  |cons b l=>exact⟨b,by simp⟩
 have hD:Sol (S++R):=h.sol hu hw hx h3 (hR r0 hr0) hr0;have hL:Sol (A++R):=hA.same λy hy=>Qld _ hy
 have sub:∀y∈S++R,y∈A++R:=λy hy=>by
  rcases Qlg.1 hy with k|k
  ·exact Qld _ ((h.s y).1 k).1
  ·exact Qls _ k
 have key:∀q,FG (S++R) q->q.b<dot q.n v->FG (A++R) q/\onF q (crG (S++R))=onF q (crG (A++R)):=λq hq hvis=>by
  -- some point of the facet Id2 before the plane
  obtain⟨y0,hy0,eq0,hyt⟩:∃y∈R,dot q.n y=q.b/\t<dot e y:=by
   apply Qlb;intro hno;obtain⟨a,c,k,ha,hc,hk,k3,f1,f2,f3⟩:=hq.on;have pl:∀y∈S++R,dot q.n y=q.b->dot e y=t:=λy hy ey=>by
    rcases Qlg.1 hy with k|k
    ·exact ((h.s y).1 k).2
    ·exact absurd ⟨y,k,ey,h.b y (hR y k)⟩ hno
   have p1:c7 e (N3 a c k)=⟨0,0,0⟩:=I9 (by rw[G6,pl c hc f2,pl a ha f1];omega) (by rw[G6,pl k hk f3,pl a ha f1];omega)
   have p2:c7 q.n (N3 a c k)=⟨0,0,0⟩:=I9 (by rw[G6];omega) (by rw[G6];omega)
   have hpar:c7 q.n e=⟨0,0,0⟩:=Nc2 k3 p2 p1;have hd:=λd=>K7 (d:=c9 d a) hpar
   have hee:=A9 h.ne;have d1:=hd v;rw[G6,G6,f1,pl a ha f1] at d1;have d2:=hd r0;rw[G6,G6,f1,pl a ha f1] at d2;have hvt:=h.b v hv;have hrt:=h.b r0 (hR r0 hr0);have hle:=hq.hd r0 (Qls _ hr0);have m1:=Qlf hee (show 0<dot q.n v-q.b by omega)
   have hpos:0<dot q.n e:=by
    apply Qlb;intro hno2
    have:=Qlaa (show dot q.n e<=0 by omega) (show 0<=dot e v-t by omega)
    omega
   have m2:=Qlf hpos (show 0<dot e r0-t by omega)
   have m3:=Qlm (show 0<=dot e e by omega) (show dot q.n r0-q.b<=0 by omega)
   omega
  have inS:∀z∈S,¬ q.b<dot q.n z:=λz hz k=>by
   have:=hq.hd z (Qld _ hz)
   omega
  have hd:∀y∈A++R,dot q.n y<=q.b:=λy hy=>by
   rcases Qlg.1 hy with k|k
   ·by_cases hlt:dot e y<t
    ·apply Qlb;intro hno;obtain⟨z,hz,hz2⟩:=h.over k hlt (hR y0 hy0) (n:=q.n) (c:=q.b) (by omega) (by omega) (.inl (by omega))
     exact inS z hz hz2
    ·exact hq.hd y (Qld _ ((h.s y).2 ⟨k,by have:=h.a y k;omega⟩))
   ·exact hq.hd y (Qls _ k)
  obtain⟨a,c,k,ha,hc,hk,hr⟩:=hq.on;refine⟨⟨⟨hd,a,c,k,sub a ha,sub c hc,sub k hk,hr⟩,hq.pr⟩,be3 hq.hd hd λy hy=>⟨sub y,λhyL=>?_⟩⟩
  rcases Qlg.1 hyL with k|k
  ·by_cases hlt:dot e y<t
   ·exfalso;obtain⟨z,hz,hz2⟩:=h.over k hlt hv (n:=q.n) (c:=q.b) (by omega) (by omega) (.inr hvis)
    exact inS z hz hz2
   ·exact Qld _ ((h.s y).2 ⟨k,by have:=h.a y k;omega⟩)
  ·exact Qls _ k
 have e1:vis (S++R) v=sig ((FX1 (S++R)).filter λq=>decide (q.b<dot q.n v)) (λq=>-CN q (crG (A++R)) v):=by
  unfold vis;rw[aa6];refine o8 λq hq=>?_
  by_cases k:q.b<dot q.n v
  ·rw[if_pos k,if_pos (decide_eq_true k),te7 (key q (H7.1 hq) k).2]
  ·rw[if_neg k,if_neg λk'=>k (of_decide_eq_true k')]
 have e2:vis (A++R) v=sig ((FX1 (A++R)).filter λq=>decide (q.b<dot q.n v)) (λq=>-CN q (crG (A++R)) v):=by
  unfold vis;rw[aa6];refine o8 λq hq=>?_
  by_cases k:q.b<dot q.n v
  ·rw[if_pos k,if_pos (decide_eq_true k)]
  ·rw[if_neg k,if_neg λk'=>k (of_decide_eq_true k')]
 rw[e1,e2];refine Cc3 ((Ea9 _).filter _) ((Ea9 _).filter _) (λq hq=>?_) λq hq=>?_
 ·obtain⟨k1,k2⟩:=Qlc.1 hq;exact Qlc.2 ⟨H7.2 (key q (H7.1 k1) (of_decide_eq_true k2)).1,k2⟩
 ·obtain⟨k1,k2⟩:=Qlc.1 hq
  have:=(jb1 hL (H7.1 k1) v).2.2 (of_decide_eq_true k2)
  omega
theorem Cut.list(hA:Sol A){b:V3}(hb:b∈B):∀R:List V3,(∀r∈R,r∈B)->VG A+VG (S++b::R)<=VG (A++b::R):=λR=>by
 induction R with
 |nil=>intro _;exact h.base hu hw hx h3 hA hb
 |cons r R ih =>
  intro hR;have h1:=ih λy hy=>hR y (Qli _ hy)
  have hbR:∀y∈b::R,y∈B:=λy hy=>by
   rcases Qlk.1 hy with rfl|hy
   ·exact hb
   ·exact hR y (Qli _ hy)
  have h2:=h.step hu hw hx h3 (R:=b::R) hbR hA (by simp) (hR r Qlr)
  have mem:∀(Z:List V3) y,y∈Z++b::r::R↔y∈Z++b::R\/y=r:=λZ y=>by
   simp only[Qlg,Qlk];constructor
   ·rintro (k|k|k|k)
    ·exact .inl (.inl k)
    ·exact .inl (.inr (.inl k))
    ·exact .inr k
    ·exact .inl (.inr (.inr k))
   ·rintro ((k|k|k)|k)
    ·exact .inl k
    ·exact .inr (.inl k)
    ·exact .inr (.inr (.inr k))
    ·exact .inr (.inr (.inl k))
  rw[Ub7 (h.sol hu hw hx h3 hb (R:=b::R) (by simp)) (mem S),Ub7 (hA.same (l':=A++b::R) λy hy=>Qld _ hy) (mem A)]
  omega
end
theorem Cut.both(hA:Sol A)(hB:B≠[]):VG A+VG (S++B)<=VG (A++B):=by
 obtain⟨u,w,x,hu,hw,hx,h3⟩:=h.flat hA hB;cases B with
 |nil=>exact absurd rfl hB
 |cons b R=>exact h.list hu hw hx h3 hA Qlr R λr hr=>Qli _ hr
end
theorem be6{Y A:List V3}{e:V3}{t:Int}(h1:∀y∈Y,dot e y<=t->y∈A)(h2:∀a∈Y,dot e a<t->∀b∈Y,t<dot e b->∃z∈A,∀n,(dot e b-dot e a)*dot n z=(dot e b-t)*dot n a+(t-dot e a)*dot n b){z:V3}(hz:In Y z)(hle:dot e z<=t):In A z:=λn b hv=>by
 by_cases hL:Y.filter (λy=>decide (t<dot e y))=[]
 ·refine hz n b λu hu=>hv u (h1 u hu ?_)
  apply Qlb;intro hno
  have:u∈Y.filter (λy=>decide (t<dot e y)):=Qlc.2 ⟨hu,decide_eq_true (by omega)⟩
  rw[hL] at this;cases this
 obtain⟨b0,hb0,hmin⟩:=nb4 (λy=>b-dot n y) (λy=>dot e y-t) _ hL λy hy=>by
  have:=of_decide_eq_true (Qlc.1 hy).2
  omega
 obtain⟨hb0Y,hb0t⟩:=Qlc.1 hb0;have hb0t:=of_decide_eq_true hb0t;have hmin:∀y∈Y,t<dot e y->(b-dot n b0)*(dot e y-t)<=(b-dot n y)*(dot e b0-t):=λy hy ht=>hmin y (Qlc.2 ⟨hy,decide_eq_true ht⟩)
 by_cases hg:dot n b0<=b
 ·refine hz n b λu hu=>?_
  by_cases ht:t<dot e u
  ·have k:=hmin u hu ht;have k2:=Qle (show 0<=b-dot n b0 by omega) (show 0<=dot e u-t by omega)
   apply Qlb;intro hno
   have:=Int.mul_neg_of_neg_of_pos (show b-dot n u<0 by omega) (show 0<dot e b0-t by omega)
   omega
  ·exact hv u (h1 u hu (by omega))
 obtain⟨al,hal⟩:∃al,al=dot e b0-t:=⟨_,rfl⟩;obtain⟨g0,hg0⟩:∃g0,g0=dot n b0-b:=⟨_,rfl⟩;have hd:∀y:V3,dot ⟨al*n.x-g0*e.x,al*n.y-g0*e.y,al*n.z-g0*e.z⟩ y=al*dot n y-g0*dot e y:=λy=>by simp only[dot];grind
 have key:=hz ⟨al*n.x-g0*e.x,al*n.y-g0*e.y,al*n.z-g0*e.z⟩ (al*b-g0*t) λy hy=>by
  rw[hd]
  suffices hs:al*(dot n y-b)-g0*(dot e y-t)<=0 by
   rw[Qlx,Qlx] at hs;omega
  rcases Int.lt_trichotomy (dot e y) t with k|k|k
  ·obtain⟨z',hz',hx⟩:=h2 y hy k b0 hb0Y hb0t;have k1:=hx n;have k2:=hv z' hz';have k3:dot e b0-dot e y=al+(t-dot e y):=by omega
   rw[k3,<- hal] at k1;have k4:=Qlh k2 (show 0<=al+(t-dot e y) by omega)
   rw[k1] at k4;have k5:al*(dot n y-b)-g0*(dot e y-t)=al*dot n y+(t-dot e y)*dot n b0-(al+(t-dot e y))*b:=by rw[hg0];grind
   omega
  ·have k1:=hv y (h1 y hy (by omega))
   rw[k,Int.sub_self,Qlt]
   have:=Qlm (show 0<=al by omega) (show dot n y-b<=0 by omega)
   omega
  ·have k1:=hmin y hy k;rw[<- hal] at k1;have k2:al*(dot n y-b)-g0*(dot e y-t)=(b-dot n b0)*(dot e y-t)-(b-dot n y)*al:=by rw[hg0];grind
   omega
 rw[hd] at key;have k1:al*(dot n z-b)<=g0*(dot e z-t):=by rw[Qlx,Qlx];omega
 have k2:=Qlm (show 0<=g0 by omega) (show dot e z-t<=0 by omega)
 apply Qlb;intro hno
 have:=Qlf (show 0<al by omega) (show 0<dot n z-b by omega)
 omega
def scV(M:Int)(v:V3):V3:=⟨M*v.x,M*v.y,M*v.z⟩
theorem ca4(n v:V3)(M:Int):dot n (scV M v)=M*dot n v:=by simp only[dot,scV];grind
theorem Bd7(n v:V3)(M:Int):dot (scV M n) v=M*dot n v:=by simp only[dot,scV];grind
theorem Le6(M s:Int)(v:V3):scV M (scV s v)=scV (M*s) v:=by simp only[scV,V3.mk.injEq];refine⟨?_,?_,?_⟩<;>grind
theorem td7{M:Int}(hM:0<M){u v:V3}(h:scV M u=scV M v):u=v:=by
 simp only[scV,V3.mk.injEq] at h;obtain⟨h1,h2,h3⟩:=h;exact Qlat (Qlj (by omega) h1) (Qlj (by omega) h2) (Qlj (by omega) h3)
theorem Ee2(n a c v:V3)(M:Int):orp n (scV M a) (scV M c) (scV M v)=M*M*orp n a c v:=by simp only[orp,crs,dot,c7,c9,scV];grind
theorem be7(u w x:V3)(M:Int):N3 (scV M u) (scV M w) (scV M x)=scV (M*M) (N3 u w x):=by simp only[N3,c7,c9,scV,V3.mk.injEq];refine⟨?_,?_,?_⟩<;>grind
section
variable{M:Int}(hM:0<M)
include hM
theorem pe4{v:V3}:scV M v=⟨0,0,0⟩↔v=⟨0,0,0⟩:=by
 constructor
 ·intro h;refine td7 hM (h.trans ?_);simp[scV]
 ·rintro rfl;simp[scV]
theorem be8(u v:V3):eqV (scV M u) (scV M v)=eqV u v:=by
 cases h:eqV u v with
 |true=>exact (Ja9 _ _).2 (by rw[(Ja9 _ _).1 h])
 |false =>
  rw[<- Bool.not_eq_true,Ja9] at h ⊢;exact λe=>h (td7 hM e)
theorem Ia0{x y:Int}:M*x<M*y↔x<y:=⟨λh=>Qlal h (by omega),λh=>Int.mul_lt_mul_of_pos_left h hM⟩
theorem Kb5{x y:Int}:M*x<=M*y↔x<=y:=⟨λh=>Qlu h hM,λh=>Qlh h (by omega)⟩
theorem Xa7{x y:Int}:M*x=M*y↔x=y:=⟨λh=>Qlj (by omega) h,λh=>by rw[h]⟩
theorem pe5{x:Int}:M*M*x<0↔x<0:=by
 have h:0<M*M:=Qlf hM hM;constructor
 ·intro k;apply Qlb;intro hno
  have:=Qle (show 0<=M*M by omega) (show 0<=x by omega)
  omega
 ·intro k;exact Qlak h k
theorem td8(n a:V3):∀(C:List V3) (b:V3),nxF n (scV M a) (C.map (scV M)) (scV M b)=scV M (nxF n a C b)
 |[],b=>rfl
 |c::C,b=>by
  rw[Qlac];unfold nxF;rw[be8 hM,be8 hM,Ee2];have e:decide (M*M*orp n a b c<0)=decide (orp n a b c<0):=by rw[decide_eq_decide];exact pe5 hM
  rw[e];split
  ·exact td8 n a C c
  ·exact td8 n a C b
theorem Ee3(C:List V3)(n a:V3):nxt (C.map (scV M)) n (scV M a)=scV M (nxt C n a):=td8 hM n a C a
theorem Ee4(X:List V3):crG (X.map (scV M))=(crG X).map (scV M):=by
 refine ra6 _ _ (Bb0 _) ?_ λw=>?_
 ·rw[Qlaj];refine (Bb0 X).imp λ{u v} h=>?_
  unfold LtV at h ⊢;simp only[scV];rw[Ia0 hM,Ia0 hM,Ia0 hM,Xa7 hM,Xa7 hM];exact h
 ·rw[ga3,Qla,Qla];constructor
  ·rintro⟨⟨v,hv,rfl⟩,m,hm⟩;refine⟨v,ga3.2 ⟨hv,m,λu hu hne=>?_⟩,rfl⟩
   have:=hm (scV M u) (Qla.2 ⟨u,hu,rfl⟩) λe=>hne (td7 hM e)
   rw[ca4,ca4,Ia0 hM] at this;exact this
  ·rintro⟨v,hv,rfl⟩;obtain⟨h1,m,hm⟩:=ga3.1 hv;refine⟨⟨v,h1,rfl⟩,m,λw hw hne=>?_⟩
   obtain⟨u,hu,rfl⟩:=Qla.1 hw;rw[ca4,ca4,Ia0 hM];exact hm u hu λe=>hne (by rw[e])
theorem Le7{X:List V3}{p:Pln}:FG (X.map (scV M)) p↔∃p0,FG X p0/\p=⟨p0.n,M*p0.b⟩:=by
 constructor
 ·rintro⟨⟨hd,u',w',x',hu,hw,hx,h3,e1,e2,e3⟩,pr⟩;obtain⟨u,mu,rfl⟩:=Qla.1 hu;obtain⟨w,mw',rfl⟩:=Qla.1 hw;obtain⟨x,mx,rfl⟩:=Qla.1 hx;rw[ca4] at e1 e2 e3;rw[be7] at h3;have hb:p.b=M*dot p.n u:=e1.symm;rw[hb,Xa7 hM] at e2 e3;refine⟨⟨p.n,dot p.n u⟩,⟨⟨λv hv=>?_,u,w,x,mu,mw',mx,λe=>h3 (by rw[e];simp[scV]),rfl,e2,e3⟩,pr⟩,by rw[<- hb]⟩
  have:=hd (scV M v) (Qla.2 ⟨v,hv,rfl⟩)
  rw[ca4,hb,Kb5 hM] at this;exact this
 ·rintro⟨p0,⟨⟨hd,u,w,x,hu,hw,hx,h3,e1,e2,e3⟩,pr⟩,rfl⟩;refine⟨⟨λv' hv'=>?_,scV M u,scV M w,scV M x,Qla.2 ⟨u,hu,rfl⟩,Qla.2 ⟨w,hw,rfl⟩,Qla.2 ⟨x,hx,rfl⟩,λe=>?_,by rw[ca4,e1],by rw[ca4,e2],by rw[ca4,e3]⟩,pr⟩
  ·obtain⟨v,hv,rfl⟩:=Qla.1 hv';rw[ca4];exact (Kb5 hM).2 (hd v hv)
  ·rw[be7] at e;exact h3 ((pe4 (M:=M*M) (Qlf hM hM)).1 e)
theorem Le8(X:List V3)(p:Pln):CN ⟨p.n,M*p.b⟩ ((crG X).map (scV M)) ⟨0,0,0⟩=M*M*M*CN p (crG X) ⟨0,0,0⟩:=by
 have hC:onF ⟨p.n,M*p.b⟩ ((crG X).map (scV M))=(onF p (crG X)).map (scV M):=by
  unfold onF;rw[List.filter_map];congr 1;refine List.filter_congr λv _=>?_
  show decide (dot p.n (scV M v)=M*p.b)=decide (dot p.n v=p.b);rw[decide_eq_decide,ca4];exact Xa7 hM
 have hpt:ptF ⟨p.n,M*p.b⟩ ((crG X).map (scV M))=scV M (ptF p (crG X)):=by
  unfold ptF;rw[hC];cases onF p (crG X) with
  |nil=>simp[scV]
  |cons a l=>rfl
 unfold CN AR;rw[hC,hpt,ab8,<- Ab6];refine o8 λa _=>?_
 show dot (c7 (scV M a) (nxt ((onF p (crG X)).map (scV M)) p.n (scV M a))) _=_;rw[Ee3 hM];simp only[dot,c7,scV,c9]
 grind
theorem ue0(X:List V3):VG (X.map (scV M))=M*M*M*VG X:=by
 unfold VG;have hperm:((FX1 X).map λp:Pln=>(⟨p.n,M*p.b⟩:Pln)).Perm (FX1 (X.map (scV M))):=by
  refine pc8 ?_ (Ea9 _) λp=>?_
  ·unfold List.Nodup;rw[Qlaj];refine List.Pairwise.imp (λ{p q} hne e=>hne ?_) (Ea9 X)
   simp only[Pln.mk.injEq] at e;cases p;cases q
   simp only at e
   rw[e.1,(Xa7 hM).1 e.2]
  ·rw[Qla,H7,Le7 hM];constructor
   ·rintro⟨q,hq,rfl⟩;exact⟨q,H7.1 hq,rfl⟩
   ·rintro⟨q,hq,rfl⟩;exact⟨q,H7.2 hq,rfl⟩
 rw[<- ib9 hperm,ab8,<- Ab6,Ee4 hM];exact o8 λp _=>Le8 hM X p
theorem Le9{X:List V3}{z:V3}(h:In X z):In (X.map (scV M)) (scV M z):=λn b hv=>by
 have:=h (scV M n) b λu hu=>by
  have:=hv (scV M u) (Qla.2 ⟨u,hu,rfl⟩)
  rw[ca4] at this;rw[Bd7];exact this
 rw[Bd7] at this;rw[ca4];exact this
theorem Sol.sc{X:List V3}(h:Sol X):Sol (X.map (scV M)):=by
 obtain⟨a,c,k,v,ha,hc,hk,hv,hne⟩:=h;refine⟨scV M a,scV M c,scV M k,scV M v,Qla.2 ⟨a,ha,rfl⟩,Qla.2 ⟨c,hc,rfl⟩,Qla.2 ⟨k,hk,rfl⟩,Qla.2 ⟨v,hv,rfl⟩,λe=>hne ?_⟩
 have e2:dot (N3 (scV M a) (scV M c) (scV M k)) (c9 (scV M v) (scV M a))=M*(M*(M*dot (N3 a c k) (c9 v a))):=by
  rw[be7];generalize N3 a c k=N;simp only[dot,scV,c9];grind
 rw[e2] at e;have w:∀{t:Int},M*t=0->t=0:=λe=>(Qll.1 e).resolve_left (by omega)
 exact w (w (w e))
end
theorem Ee5{l:List V3}(hl:l.all inV=true){p:Pln}:FG l p↔Da7 l p:=by
 refine⟨λh=>⟨⟨h.hd,h.on⟩,?_⟩,λh=>⟨⟨h.hd,h.on⟩,Kb0 h.ok⟩⟩
 obtain⟨u,w,x,hu,hw,hx,h3,e1,e2,e3⟩:=h.on;have hi:=Qlad.1 hl;have hT:=(ba6 (ra0 (hi u hu) (hi w hw) (hi x hx) h3)).2;obtain⟨s1,s2,s3⟩:=cc8 hT
 rcases Cc2 (Kb0 hT.ok) h.pr h3 s1 s2 s3 e1 e2 e3 with e|e
 ·rw[e];exact hT.ok
 ·rw[e];exact wb6 hT.ok
theorem Xc2{l:List V3}(hc:Z4 l=0):VG l=(Y2 l).1:=by
 obtain⟨_,hl,h4⟩:=J4 hc;have e:crG l=M0 l:=ra6 _ _ (Bb0 l) (be0 l) λv=>by
  rw[ga3];constructor
  ·rintro⟨hv,m,hm⟩;exact (Ub1 hl h4 hv).2 ⟨m,hm⟩
  ·intro hv;have hvl:=ga2 hl h4 hv;exact⟨hvl,(Ub1 hl h4 hvl).1 hv⟩
 rw[Cc1 hc ⟨0,0,0⟩];unfold VG;rw[e];exact xb1 (Ea9 l) (Ad3 l) λp=>by rw[H7,C4 hl];exact Ee5 hl
def cub(q:V3):List V3:=[q,⟨q.x+1,q.y,q.z⟩,⟨q.x,q.y+1,q.z⟩,⟨q.x+1,q.y+1,q.z⟩,⟨q.x,q.y,q.z+1⟩,⟨q.x+1,q.y,q.z+1⟩,⟨q.x,q.y+1,q.z+1⟩,⟨q.x+1,q.y+1,q.z+1⟩]
theorem jb2:Z4 (cub ⟨0,0,0⟩)=0/\Y2 (cub ⟨0,0,0⟩)=(6,0):=by
 have hc:Z4 (cub ⟨0,0,0⟩)=0:=by kernel_rfl
 refine⟨hc,td2 (d:=[⟨0,0,0⟩,⟨0,0,1⟩,⟨0,1,0⟩,⟨0,1,1⟩,⟨1,0,0⟩,⟨1,0,1⟩,⟨1,1,0⟩,⟨1,1,1⟩]) hc (by simp[LtV]) (λv=>?_) (by kernel_rfl)⟩
 unfold cub;simp only[Int.zero_add,Qlk,Qlq,or_false]
 constructor<;>rintro (h | h | h | h | h | h | h | h)<;>simp[h]
theorem be9(q:V3):Lin (λv=>(⟨v.x+q.x,v.y+q.y,v.z+q.z⟩:V3)) ⟨1,0,0⟩ ⟨0,1,0⟩ ⟨0,0,1⟩:=by
 refine⟨by simp[dot,c7],λu w=>?_⟩
 simp only[c9,dot,V3.mk.injEq];refine⟨?_,?_,?_⟩<;>grind
theorem kd2(q:V3):(cub ⟨0,0,0⟩).map (λv=>(⟨v.x+q.x,v.y+q.y,v.z+q.z⟩:V3))=cub q:=by
 simp only[cub,Qlac,List.map_nil,Int.zero_add,Int.add_comm 1]
theorem Ee6{q:V3}(hq:(cub q).all inV=true):VG (cub q)=6/\Sol (cub q):=by
 have h:=be9 q;have hm:((cub ⟨0,0,0⟩).map (λv=>(⟨v.x+q.x,v.y+q.y,v.z+q.z⟩:V3))).all inV=true:=by rw[kd2];exact hq
 have hc:=h.chk jb2.1 hm;have h6:=h.six jb2.1 hm;rw[kd2] at hc h6;refine⟨?_,(J4 hc).2.2⟩;rw[Xc2 hc,h6,jb2.2];rfl
theorem Bd8:∀L:List Int,(∀k∈L,0<k)->∃M,0<M/\∀k∈L,k∣M
 |[],_=>⟨1,by omega,λk hk=>by cases hk⟩
 |k::L,h=>by
  obtain⟨M,h1,h2⟩:=Bd8 L λj hj=>h j (Qli _ hj)
  refine⟨k*M,Qlf (h k Qlr) h1,λj hj=>?_⟩
  rcases Qlk.1 hj with rfl|hj
  ·exact Int.dvd_mul_right _ _
  ·exact Int.dvd_trans (h2 j hj) (Int.dvd_mul_left _ _)
theorem Ee7 (X : List V3) (e : V3) (t : Int) : ∃ M, 0 < M ∧ ∃ Z : List V3, (∀ z ∈ Z, dot e z = M * t ∧ In (X.map (scV M)) z) ∧
  ∀a∈X,dot e a<t->∀b∈X,t<dot e b->∃z∈Z,∀n,(dot e (scV M b)-dot e (scV M a))*dot n z=(dot e (scV M b)-M*t)*dot n (scV M a)+(M*t-dot e (scV M a))*dot n (scV M b):=by
 obtain⟨M,hM,hdv⟩:=Bd8 ((X.flatMap λa=>X.map λb=>dot e b-dot e a).filter λk=>decide (0<k)) λk hk=>of_decide_eq_true (Qlc.1 hk).2
 have hdv:∀a∈X,∀b∈X,dot e a<dot e b->(dot e b-dot e a)∣M:=λa ha b hb hlt=>hdv _ (Qlc.2 ⟨Qlo.2 ⟨a,ha,Qla.2 ⟨b,hb,rfl⟩⟩,decide_eq_true (by omega)⟩)
 -- the point between
 have pt:∀a b:V3,∃z:V3,∀n,dot n z=M / (dot e b-dot e a)*((dot e b-t)*dot n a+(t-dot e a)*dot n b):=λa b =>
  ⟨⟨M / (dot e b-dot e a)*((dot e b-t)*a.x+(t-dot e a)*b.x),M / (dot e b-dot e a)*((dot e b-t)*a.y+(t-dot e a)*b.y),M / (dot e b-dot e a)*((dot e b-t)*a.z+(t-dot e a)*b.z)⟩,λn=>by
   generalize M / (dot e b-dot e a)=g;generalize dot e b-t=p;generalize t-dot e a=q;simp only[dot];grind⟩
 obtain⟨f,hf⟩:=Qlaq λt:V3×V3=>pt t.1 t.2
 have hf:∀a b n,dot n (f (a,b))=M / (dot e b-dot e a)*((dot e b-t)*dot n a+(t-dot e a)*dot n b):=λa b n=>hf (a,b) n
 have c7:∀a∈X,dot e a<t->∀b∈X,t<dot e b->∀n,(dot e b-dot e a)*dot n (f (a,b))=M*((dot e b-t)*dot n a+(t-dot e a)*dot n b):=λa ha h1 b hb h2 n=>by
  have h3:=Int.mul_ediv_cancel' (hdv a ha b hb (by omega))
  rw[hf,<- Qlab,h3]
 refine⟨M,hM,X.flatMap λa=>X.flatMap λb=>if dot e a<t/\t<dot e b then [f (a,b)] else [],λz hz=>?_,λa ha h1 b hb h2=>?_⟩
 ·obtain⟨a,ha,hz⟩:=Qlo.1 hz;obtain⟨b,hb,hz⟩:=Qlo.1 hz
  split at hz
  ·rename_i hab;rw[Qly.1 hz];have hk:=c7 a ha hab.1 b hb hab.2;refine⟨?_,λn c hv=>?_⟩
   ·have h3:=hk e;have h4:M*((dot e b-t)*dot e a+(t-dot e a)*dot e b)=(dot e b-dot e a)*(M*t):=by grind
    rw[h4] at h3;exact Qlj (by omega) h3
   ·have h3:=hk n;have ka:=hv (scV M a) (Qla.2 ⟨a,ha,rfl⟩);have kb:=hv (scV M b) (Qla.2 ⟨b,hb,rfl⟩);rw[ca4] at ka kb;have j1:=Qlh ka (show 0<=dot e b-t by omega)
    have j2:=Qlh kb (show 0<=t-dot e a by omega)
    have h4:M*((dot e b-t)*dot n a+(t-dot e a)*dot n b)=(dot e b-t)*(M*dot n a)+(t-dot e a)*(M*dot n b):=by grind
    have h5:(dot e b-dot e a)*c=(dot e b-t)*c+(t-dot e a)*c:=by grind
    refine Qlu (a:=dot e b-dot e a) ?_ (by omega)
    omega
  ·cases hz
 ·refine⟨f (a,b),Qlo.2 ⟨a,ha,Qlo.2 ⟨b,hb,by rw[if_pos ⟨h1,h2⟩];simp⟩⟩,λn=>?_⟩
  have h3:=c7 a ha h1 b hb h2 n;rw[ca4,ca4,ca4,ca4];have h4:(M*dot e b-M*dot e a)*dot n (f (a,b))=M*((dot e b-dot e a)*dot n (f (a,b))):=by grind
  rw[h4,h3]
  grind
theorem ce0{A:List V3}{q:V3}{s:Int}(hs:0<s)(h:∀c∈cub q,In A (scV s c)):Sol A:=by
 have hne:A≠[]:=λe=>by
  subst e
  have:=h q (by simp[cub]) ⟨0,0,0⟩ (-1) λu hu=>by cases hu
  simp[dot] at this
 obtain⟨a,ha⟩:∃a,a∈A:=by
  cases A with
  |nil=>exact absurd rfl hne
  |cons a l=>exact⟨a,by simp⟩
 rcases mb5 (A.map λv=>c9 v a) with⟨x,y,z,hx,hy,hz,hw⟩|⟨d,hd,hz⟩
 ·obtain⟨u,hu,rfl⟩:=Qla.1 hx;obtain⟨v,hv,rfl⟩:=Qla.1 hy;obtain⟨w,hw',rfl⟩:=Qla.1 hz;exact⟨a,v,w,u,ha,hv,hw',hu,λe=>hw (by rw[<- e];simp only[dot,c7,N3];grind)⟩
 ·exfalso;have e:∀v∈A,dot d v=dot d a:=λv hv=>by
   have h1:=hz _ (Qla.2 ⟨v,hv,rfl⟩);have h2:dot (c9 v a) d=dot d v-dot d a:=by simp only[dot,c9];grind
   omega
  have key:∀c∈cub q,s*dot d c=dot d a:=λc hc=>by
   have h1:=h c hc d (dot d a) λu hu=>by rw[e u hu];exact Qln _
   have q1:∀z:V3,dot (neg d) z=-dot d z:=λz=>by simp only[dot,neg];grind
   have h2:=h c hc (neg d) (-dot d a) λu hu=>by rw[q1,e u hu];exact Qln _
   rw[q1] at h2;rw[ca4] at h1 h2;omega
  have w:∀{x y:Int},s*x=s*y->x=y:=λh=>Qlj (by omega) h
  have k0:=key q (by simp[cub])
  have k1:=w ((key ⟨q.x+1,q.y,q.z⟩ (by simp[cub])).trans k0.symm)
  have k2:=w ((key ⟨q.x,q.y+1,q.z⟩ (by simp[cub])).trans k0.symm)
  have k3:=w ((key ⟨q.x,q.y,q.z+1⟩ (by simp[cub])).trans k0.symm)
  refine hd (Qlat ?_ ?_ ?_)
  ·show d.x=0;simp only[dot] at k1;rw[Int.mul_add] at k1;omega
  ·show d.y=0;simp only[dot] at k2;rw[Int.mul_add] at k2;omega
  ·show d.z=0;simp only[dot] at k3;rw[Int.mul_add] at k3;omega
structure Axi(e:V3):Prop where
 ne:e≠⟨0,0,0⟩
 bd:∀q,∀c∈cub q,dot e q<=dot e c/\dot e c<=dot e q+1
 top:∀q,∃c∈cub q,dot e c=dot e q+1
theorem Me0:Axi ⟨1,0,0⟩:=⟨by simp,λq c hc=>by
 unfold cub at hc;simp only[Qlk,Qlq,or_false] at hc
 rcases hc with rfl|rfl|rfl|rfl|rfl|rfl|rfl|rfl<;>simp only[dot]<;>omega,λq=>⟨⟨q.x+1,q.y,q.z⟩,by simp[cub],by simp only[dot];omega⟩⟩
theorem Me1:Axi ⟨0,1,0⟩:=⟨by simp,λq c hc=>by
 unfold cub at hc;simp only[Qlk,Qlq,or_false] at hc
 rcases hc with rfl|rfl|rfl|rfl|rfl|rfl|rfl|rfl<;>simp only[dot]<;>omega,λq=>⟨⟨q.x,q.y+1,q.z⟩,by simp[cub],by simp only[dot];omega⟩⟩
theorem Me2:Axi ⟨0,0,1⟩:=⟨by simp,λq c hc=>by
 unfold cub at hc;simp only[Qlk,Qlq,or_false] at hc
 rcases hc with rfl|rfl|rfl|rfl|rfl|rfl|rfl|rfl<;>simp only[dot]<;>omega,λq=>⟨⟨q.x,q.y,q.z+1⟩,by simp[cub],by simp only[dot];omega⟩⟩
theorem Ee8{q q':V3}(h:q≠q'):∃e,Axi e/\(dot e q<dot e q'\/dot e q'<dot e q):=by
 have dx:∀v:V3,dot ⟨1,0,0⟩ v=v.x:=λv=>by simp[dot]
 have dy:∀v:V3,dot ⟨0,1,0⟩ v=v.y:=λv=>by simp[dot]
 have dz:∀v:V3,dot ⟨0,0,1⟩ v=v.z:=λv=>by simp[dot]
 by_cases h1:q.x=q'.x
 ·by_cases h2:q.y=q'.y
  ·by_cases h3:q.z=q'.z
   ·exact absurd (Qlat h1 h2 h3) h
   ·exact⟨_,Me2,by rw[dz,dz];omega⟩
  ·exact⟨_,Me1,by rw[dy,dy];omega⟩
 ·exact⟨_,Me0,by rw[dx,dx];omega⟩
theorem kd3{α:Type}(c:α->Bool):∀l:List α,(l.filter c).length+(l.filter λx=>!c x).length=l.length
 |[]=>rfl
 |x::l=>by
  have:=kd3 c l
  rw[Qlao,Qlao];cases h:c x
  ·simp only[Bool.not_false,if_true,Bool.false_eq_true,if_false,List.length_cons];omega
  ·simp only[Bool.not_true,Bool.false_eq_true,if_false,if_true,List.length_cons];omega
theorem ce1:∀(k:Nat) (Q:List V3),Q.length=k->Q.Nodup->(∀q∈Q,(cub q).all inV=true)->∀(X:List V3) (s:Int),0<s->Sol X->(∀q∈Q,∀c∈cub q,In X (scV s c))->6*(Q.length:Int)*(s*s*s)<=VG X:=by
 intro k
 induction k using Nat.strongRecOn with
 |_ k ih =>
  intro Q hk hnd hin X s hs hX hQ
  match Q,hk,hnd,hin,hQ with
  |[],_,_,_,_ =>
   have:=Le5 hX
   simpa using this
  |[q],_,_,hin,hQ =>
   obtain⟨h6,hsol⟩:=Ee6 (hin q (by simp))
   have h1:=Bd5 (X:=X) (C:=(cub q).map (scV s)) hX (hsol.sc hs) λc hc=>by
    obtain⟨c0,h0,rfl⟩:=Qla.1 hc;exact hQ q (by simp) c0 h0
   rw[ue0 hs,h6] at h1;simp only[List.length_singleton];omega
  |q1::q2::Q',hk,hnd,hin,hQ =>
   obtain⟨Q,hQe⟩:∃Q,Q=q1::q2::Q':=⟨_,rfl⟩;rw[<- hQe] at hk hnd hin hQ ⊢;have hne:q1≠q2:=λe=>by
    rw[hQe,Qlv] at hnd;exact hnd.1 (by rw[e];simp)
   obtain⟨e,he,hlt⟩:=Ee8 hne;obtain⟨lo,hi,hlo,hhi,hlh⟩:∃lo hi,lo∈Q/\hi∈Q/\dot e lo<dot e hi:=by
    rcases hlt with h|h
    ·exact⟨q1,q2,by rw[hQe];simp,by rw[hQe];simp,h⟩
    ·exact⟨q2,q1,by rw[hQe];simp,by rw[hQe];simp,h⟩
   clear hQe hlt hne
   obtain⟨t,ht⟩:∃t,t=dot e hi:=⟨_,rfl⟩;obtain⟨M,hM,Z,hZ,hcr⟩:=Ee7 X e (s*t);have hMs:0<M*s:=Qlf hM hs;obtain⟨Y,hY⟩:∃Y,Y=X.map (scV M):=⟨_,rfl⟩;obtain⟨T,hT⟩:∃T,T=M*(s*t):=⟨_,rfl⟩;rw[<- hY] at hZ;rw[<- hT] at hZ;have hSolY:Sol Y:=by rw[hY];exact hX.sc hM
   have hcr':∀a∈Y,dot e a<T->∀b∈Y,T<dot e b->∃z∈Z,∀n,(dot e b-dot e a)*dot n z=(dot e b-T)*dot n a+(T-dot e a)*dot n b:=λa ha h1 b hb h2=>by
    rw[hY] at ha hb;obtain⟨a0,ma,rfl⟩:=Qla.1 ha;obtain⟨b0,mb,rfl⟩:=Qla.1 hb;rw[ca4,hT,Ia0 hM] at h1 h2;rw[hT];exact hcr a0 ma h1 b0 mb h2
   obtain⟨A,hA⟩:∃A,A=(Y.filter λy=>decide (dot e y<=T))++Z:=⟨_,rfl⟩
   obtain⟨B,hB⟩:∃B,B=Y.filter λy=>decide (T<dot e y):=⟨_,rfl⟩
   obtain⟨S,hS⟩:∃S,S=A.filter λy=>decide (dot e y=T):=⟨_,rfl⟩
   have memA:∀y,y∈A↔(y∈Y/\dot e y<=T)\/y∈Z:=λy=>by rw[hA,Qlg,Qlc,decide_eq_true_eq]
   have memB:∀y,y∈B↔y∈Y/\T<dot e y:=λy=>by rw[hB,Qlc,decide_eq_true_eq]
   have memS:∀y,y∈S↔y∈A/\dot e y=T:=λy=>by rw[hS,Qlc,decide_eq_true_eq]
   have ZS:∀z∈Z,z∈S:=λz hz=>(memS z).2 ⟨(memA z).2 (.inr hz),(hZ z hz).1⟩
   have hcut:Cut A B S e T:=⟨he.ne,λu hu=>by
    rcases (memA u).1 hu with h|h
    ·exact h.2
    ·rw[(hZ u h).1];exact Qln _,λu hu=>((memB u).1 hu).2,memS,λa ha h1 b hb=>by
    rcases (memA a).1 ha with h|h
    ·obtain⟨z,hz,hx⟩:=hcr' a h.1 h1 b ((memB b).1 hb).1 ((memB b).1 hb).2;exact⟨z,ZS z hz,hx⟩
    ·rw[(hZ a h).1] at h1;omega⟩
   -- both parts have their cubes
   have inY:∀q∈Q,∀c∈cub q,In Y (scV (M*s) c):=λq hq c hc=>by
    rw[hY,<- Le6];exact Le9 hM (hQ q hq c hc)
   have eT:∀c,dot e (scV (M*s) c)<=T↔dot e c<=t:=λc=>by
    rw[ca4,hT,<- Qlab];exact Kb5 hMs
   have inA:∀q∈Q.filter (λq=>decide (dot e q<t)),∀c∈cub q,In A (scV (M*s) c):=λq hq c hc=>by
    obtain⟨hq1,hq2⟩:=Qlc.1 hq;have hq2:=of_decide_eq_true hq2;refine be6 (Y:=Y) (e:=e) (t:=T) (λy hy hle=>(memA y).2 (.inl ⟨hy,hle⟩)) (λa ha h1 b hb h2=>?_) (inY q hq1 c hc) ((eT c).2 (by have:=he.bd q c hc;omega))
    obtain⟨z,hz,hx⟩:=hcr' a ha h1 b hb h2;exact⟨z,(memA z).2 (.inr hz),hx⟩
   have q1:∀z:V3,dot (neg e) z=-dot e z:=λz=>by simp only[dot,neg];grind
   have inB:∀q∈Q.filter (λq=>!decide (dot e q<t)),∀c∈cub q,In (S++B) (scV (M*s) c):=λq hq c hc=>by
    obtain⟨hq1,hq2⟩:=Qlc.1 hq;have hq2:¬ dot e q<t:=by simpa using hq2
    refine be6 (Y:=Y) (e:=neg e) (t:=-T) (λy hy hle=>?_) (λa ha h1 b hb h2=>?_) (inY q hq1 c hc) ?_
    ·rw[q1] at hle;by_cases hyT:dot e y=T
     ·exact Qld _ ((memS y).2 ⟨(memA y).2 (.inl ⟨hy,by omega⟩),hyT⟩)
     ·exact Qls _ ((memB y).2 ⟨hy,by omega⟩)
    ·rw[q1] at h1 h2;obtain⟨z,hz,hx⟩:=hcr' b hb (by omega) a ha (by omega)
     refine⟨z,Qld _ (ZS z hz),λn=>?_⟩
     rw[q1,q1]
     have:=hx n
     have h3:(-dot e b - -dot e a)*dot n z=(dot e a-dot e b)*dot n z:=by congr 1;omega
     have h4:(-dot e b - -T)*dot n a=(T-dot e b)*dot n a:=by congr 1;omega
     have h5:(-T - -dot e a)*dot n b=(dot e a-T)*dot n b:=by congr 1;omega
     rw[h3,h4,h5];omega
    ·rw[q1];have h1:=(he.bd q c hc).1;have h2:M*s*t<=M*s*dot e c:=Qlh (by omega) (by omega)
     rw[ca4,hT,<- Qlab];omega
   have mlo:lo∈Q.filter (λq=>decide (dot e q<t)):=Qlc.2 ⟨hlo,decide_eq_true (by omega)⟩
   have mhi:hi∈Q.filter (λq=>!decide (dot e q<t)):=Qlc.2 ⟨hhi,by simp[ht]⟩
   have solA:Sol A:=ce0 hMs (inA lo mlo);have solB:Sol (S++B):=ce0 hMs (inB hi mhi);have hBne:B≠[]:=λhB0=>by
    obtain⟨c,hc,htop⟩:=he.top hi;have h1:=inY hi hhi c hc e T λy hy=>by
     apply Qlb;intro hno
     have:=(memB y).2 ⟨hy,by omega⟩
     rw[hB0] at this;cases this
    have:=(eT c).1 h1
    omega
   have hboth:=hcut.both solA hBne;have hAB:VG (A++B)=VG Y:=by
    rw[<- te9 hSolY Z λz hz=>(hZ z hz).2]
    refine Bd4 λu=>?_
    rw[Qlg,Qlg,memA,memB];constructor
    ·rintro ((h|h)|h)
     ·exact .inl h.1
     ·exact .inr h
     ·exact .inl h.1
    ·rintro (h|h)
     ·by_cases hu:dot e u<=T
      ·exact .inl (.inl ⟨h,hu⟩)
      ·exact .inr ⟨h,by omega⟩
     ·exact .inl (.inr h)
   rw[hAB,hY,ue0 hM] at hboth;have hlen:=kd3 (λq=>decide (dot e q<t)) Q
   have p1:=Qlas mlo;have p2:=Qlas mhi;have i1:=ih _ (by omega) (Q.filter λq=>decide (dot e q<t)) rfl (hnd.filter _) (λq hq=>hin q (Qlc.1 hq).1) A (M*s) hMs solA inA
   have i2:=ih _ (by omega) (Q.filter λq=>!decide (dot e q<t)) rfl (hnd.filter _) (λq hq=>hin q (Qlc.1 hq).1) (S++B) (M*s) hMs solB inB
   have hM3:0<M*M*M:=Qlf (Qlf hM hM) hM;refine Qlu (a:=M*M*M) ?_ hM3;have e3:M*M*M*(6*(Q.length:Int)*(s*s*s))=6*((Q.filter λq=>decide (dot e q<t)).length:Int)*(M*s*(M*s)*(M*s))+6*((Q.filter λq=>!decide (dot e q<t)).length:Int)*(M*s*(M*s)*(M*s)):=by
    have hl:(Q.length:Int)=((Q.filter λq=>decide (dot e q<t)).length:Int)+((Q.filter λq=>!decide (dot e q<t)).length:Int):=by omega
    rw[hl];generalize ((Q.filter λq=>decide (dot e q<t)).length:Int)=x
    generalize ((Q.filter λq=>!decide (dot e q<t)).length:Int)=y
    grind
   rw[e3];omega
set_option maxRecDepth 100000
noncomputable def ga4:List (Nat×Sum):=[(8,xb5),(9,xb4),(10,Gb3),(17,ab9),(18,fc6),(22,eb3),(11,Ea1),(13,eb6),(15,Ra1),(24,eb1),(23,xb6),(25,Kb3),(26,nb6),(28,Xb7),(27,Ka9)]
theorem xb8:k9 prog G ga4:=⟨nc3,nc1,Bc9,nb5,Sc6,xb0,Ka1,xb3,eb5,wb8,nc4,gc6,Gb4,vc1,Pa1,trivial⟩
structure L4 where
 bs7:Bool
 Aa6:List V3
 za2:List Pln
 (wa6 Vb0 l9 ka3 e7 d9 g7 q8 o7 o4:Int)
structure m0 where
 (fa6 jb3:Int)
noncomputable def Fa3(p:L4)(s:m0):St:=⟨ra 4 (.ptr 0 0 0 0::.unk::.unk::b p.bs7::eL tV p.Aa6::.ptr 1 0 0 0::eL tP p.za2::.unk::i p.wa6::.unk::i p.Vb0::.unk::i s.fa6::i p.l9::i p.ka3::i s.jb3::ra 149 []),[⟨0,3,[[i p.e7,i p.d9,i p.g7]],true,false,0⟩,⟨0,3,[[i p.q8,i p.o7,i p.o4]],true,false,0⟩]⟩
noncomputable def C5{α:Type}(k:m0->α)(e:Nat->α)(z:α)(p:L4)(s:m0):α:=let t1:=(o3 p.l9 p.ka3 s.jb3);let t2:=(o3 (W (p.l9+1)) (W (p.ka3+1)) (W (s.jb3+1)));let t3:=(wa1 t1 t2);let t4:=(Ea7 (rt tP p.za2) (rt tV t3));(sl (decide (s.jb3<p.o4)) (sl (wa2 t1 t2) (sl (okE tP p.za2) (sl (okE tV t3) (sl (Ea8 (rt tP p.za2) (rt tV t3)) (sl t4 (k ⟨W (s.fa6+1),W (s.jb3+1)⟩) (k ⟨s.fa6,W (s.jb3+1)⟩)) z) z) z) z) (e 1))
noncomputable def P9(p:L4)(s:m0):Stp m0:=C5 .next .exit .fail p s
noncomputable def sa2:Lo L4 m0:=⟨En ga4,0,pf5,[1,1,1,1,1,1,1,1,1,1,0,1,4,4,1,0,4,1,4,4,1,0,4,1,4,4],[4,7,8,9,10,12,14,16,17,18,19],.p,[⟨ru2 4 (sPq 0::sUq::sUq::sBq::sLq tV::sPq 1::sLq tP::sUq::sIq::sUq::sIq::sUq::sIq::sIq::sIq::sIq::ru2 149 []),[⟨0,3,true,some [kLq 3]⟩,⟨0,3,true,some [kLq 3]⟩],λa H=>(⟨aBq a 7,aLq tV a 8,aLq tP a 10,aIq a 12,aIq a 14,aIq a 17,aIq a 18,hIq H 0 0 0,hIq H 0 0 1,hIq H 0 0 2,hIq H 1 0 0,hIq H 1 0 1,hIq H 1 0 2⟩,⟨aIq a 16,aIq a 19⟩)⟩],P9,[(some 4,λp s=>upq (Fa3 p s) [(105,i s.jb3),(106,.ptr 1 0 2 0),(107,i p.o4),(108,b (decide (s.jb3<p.o4)))])],Fa3⟩
theorem qb3:sa2.Ok:=Lo.ok [] (by kernel_rfl) .nil rfl (.cons (λa H=>by kernel_rfl) .nil) λp s=>(.of @C5 (λF _ _ _ _ _=>by unfold C5;(repeat' apply u7 (f:=F))<;>rfl) (by kernel_rfl))
structure L5 where
 bs7:Bool
 (wa6 Vb0 l9 e7 d9 g7 q8 o7 o4:Int)
structure p9 where
 Aa6:List V3
 za2:List Pln
 (fa6 ka3:Int)
noncomputable def Fa4(p:L5)(s:p9):St:=⟨ra 4 (.ptr 0 0 0 0::.unk::.unk::b p.bs7::eL tV s.Aa6::.ptr 1 0 0 0::eL tP s.za2::.unk::i p.wa6::.unk::i p.Vb0::.unk::i s.fa6::i p.l9::i s.ka3::ra 150 []),[⟨0,3,[[i p.e7,i p.d9,i p.g7]],true,false,0⟩,⟨0,3,[[i p.q8,i p.o7,i p.o4]],true,false,0⟩]⟩
noncomputable def C6{α:Type}(k:p9->α)(e:Nat->α)(z:α)(p:L5)(s:p9):α:=let t1:=(lp (P9 (⟨p.bs7,rt tV s.Aa6,rt tP s.za2,p.wa6,p.Vb0,p.l9,s.ka3,p.e7,p.d9,p.g7,p.q8,p.o7,p.o4⟩:L4)) (⟨s.fa6,p.g7⟩:m0));(sl (decide (s.ka3<p.o7)) (sl ((cnE tV s.Aa6)&&((cnE tP s.za2)&&true)) (sl (Nat.beq t1.1 1) (k ⟨rt tV s.Aa6,rt tP s.za2,t1.2.fa6,W (s.ka3+1)⟩) z) z) (e 1))
noncomputable def Q0(p:L5)(s:p9):Stp p9:=C6 .next .exit .fail p s
noncomputable def sa3:Lo L5 p9:=⟨En ga4,0,pf5,[1,1,1,1,1,1,1,1,1,1,0,1,4,4,1,0,4,1,4,4],[4,7,8,9,10,12,14,16,17,18],.s .p (.s (.b (.s .p (.b (.u sa2.ls)))) .p),[⟨ru2 4 (sPq 0::sUq::sUq::sBq::sLq tV::sPq 1::sLq tP::sUq::sIq::sUq::sIq::sUq::sIq::sIq::sIq::ru2 150 []),[⟨0,3,true,some [kLq 3]⟩,⟨0,3,true,some [kLq 3]⟩],λa H=>(⟨aBq a 7,aIq a 12,aIq a 14,aIq a 17,hIq H 0 0 0,hIq H 0 0 1,hIq H 0 0 2,hIq H 1 0 0,hIq H 1 0 1,hIq H 1 0 2⟩,⟨aLq tV a 8,aLq tP a 10,aIq a 16,aIq a 18⟩)⟩],Q0,[(some 2,λp s=>upq (Fa4 p s) [(97,i s.ka3),(98,.ptr 1 0 1 0),(99,i p.o7),(100,b (decide (s.ka3<p.o7)))])],Fa4⟩
theorem qb4:sa3.Ok:=Lo.ok [sa2.pr] (by kernel_rfl) (.cons qb3 .nil) rfl (.cons (λa H=>by kernel_rfl) .nil) λp s=>(.of @C6 (λF _ _ _ _ _=>by unfold C6;(repeat' apply u7 (f:=F))<;>rfl) (by kernel_rfl))
structure L6 where
 bs7:Bool
 (wa6 Vb0 e7 d9 g7 q8 o7 o4:Int)
structure q7 where
 Aa6:List V3
 za2:List Pln
 (fa6 l9:Int)
noncomputable def Fa5(p:L6)(s:q7):St:=⟨ra 4 (.ptr 0 0 0 0::.unk::.unk::b p.bs7::eL tV s.Aa6::.ptr 1 0 0 0::eL tP s.za2::.unk::i p.wa6::.unk::i p.Vb0::.unk::i s.fa6::i s.l9::ra 151 []),[⟨0,3,[[i p.e7,i p.d9,i p.g7]],true,false,0⟩,⟨0,3,[[i p.q8,i p.o7,i p.o4]],true,false,0⟩]⟩
noncomputable def C7{α:Type}(k:q7->α)(e:Nat->α)(z:α)(p:L6)(s:q7):α:=let t1:=(lp (Q0 (⟨p.bs7,p.wa6,p.Vb0,s.l9,p.e7,p.d9,p.g7,p.q8,p.o7,p.o4⟩:L5)) (⟨rt tV s.Aa6,rt tP s.za2,s.fa6,p.d9⟩:p9));(sl (decide (s.l9<p.q8)) (sl ((cnE tV s.Aa6)&&((cnE tP s.za2)&&true)) (sl (Nat.beq t1.1 1) (k ⟨t1.2.Aa6,t1.2.za2,t1.2.fa6,W (s.l9+1)⟩) z) z) (e 1))
noncomputable def Q1(p:L6)(s:q7):Stp q7:=C7 .next .exit .fail p s
noncomputable def sa4:Lo L6 q7:=⟨En ga4,0,pf5,[1,1,1,1,1,1,1,1,1,1,0,1,4,4],[4,7,8,9,10,12,14,16,17],.s .p (.s (.b (.s .p (.b (.u sa3.ls)))) .p),[⟨ru2 4 (sPq 0::sUq::sUq::sBq::sLq tV::sPq 1::sLq tP::sUq::sIq::sUq::sIq::sUq::sIq::sIq::ru2 151 []),[⟨0,3,true,some [kLq 3]⟩,⟨0,3,true,some [kLq 3]⟩],λa H=>(⟨aBq a 7,aIq a 12,aIq a 14,hIq H 0 0 0,hIq H 0 0 1,hIq H 0 0 2,hIq H 1 0 0,hIq H 1 0 1,hIq H 1 0 2⟩,⟨aLq tV a 8,aLq tP a 10,aIq a 16,aIq a 17⟩)⟩],Q1,[(some 0,λp s=>upq (Fa5 p s) [(89,i s.l9),(90,.ptr 1 0 0 0),(91,i p.q8),(92,b (decide (s.l9<p.q8)))])],Fa5⟩
theorem qb5:sa4.Ok:=Lo.ok [sa3.pr] (by kernel_rfl) (.cons qb4 .nil) rfl (.cons (λa H=>by kernel_rfl) .nil) λp s=>(.of @C7 (λF _ _ _ _ _=>by unfold C7;(repeat' apply u7 (f:=F))<;>rfl) (by kernel_rfl))
noncomputable def aa9(x:List Int)(y:V3)(z:B3):Option (b7×List c8):=let t1:=Ea5;let t2:=(Ea2 (rt tI x));let t3:=(na1 y);let t4:=(o3 (Int.tmod (W z.b0) 5) (Int.tmod (W z.b1) 5) (Int.tmod (W z.b2) 5));let t5:=(pa1 t3 t4);let t6:=(wa3 (rt tV t2));let t7:=(O1 (rt tV t2));let t8:=(ma9 (rt tV t2) t3 t5);let t9:=(z7 t3 t5);let t10:=(lp (Q1 (⟨t1,t7.1,t8.1,t3.x,t3.y,t3.z,t5.x,t5.y,t5.z⟩:L6)) (⟨rt tV t2,rt tP t6.1,0,t3.x⟩:q7));let t11:=(Ha6 (rt tV t10.2.Aa6));let t12:=(z7 t11.1 t11.2.1);let t13:=(H4 (rt tV t10.2.Aa6) t11.1 t11.2.1 (if (W (6*t12))<t7.1 then (W (6*t12)) else t7.1));let t14:=(Sa1 t3.x 3);let t15:=(o3 t14 1 0);let t16:=(D1 t11.1 t15);let t17:=(o3 0 2 1);let t18:=(pa1 t11.2.1 t17);let t19:=(H4 (rt tV t10.2.Aa6) t16 t18 t7.1);(sl Ea6 (sl (okE tI x) (sl (Ea3 (rt tI x)) (sl (okE tV t2) (sl (wa4 (rt tV t2)) (sl (okE tV t2) (sl (O2 (rt tV t2)) (sl (okE tV t2) (sl (na0 (rt tV t2) t3 t5) (sl (t6.2 != 0) (some (b false,[])) (sl (t7.2 != 0) (some (b false,[])) (sl (t8.2 != 0) (some (b false,[])) (sl (decide (t8.1<0)) (some (b false,[])) (sl (decide (t8.1>t7.1)) (some (b false,[])) (sl (K8 t3 t5) (sl (decide (t8.1>(W (6*t9)))) (some (b false,[])) (sl ((cnE tV t2)&&((cnE tP t6.1)&&true)) (sl (Nat.beq t10.1 1) (sl (okE tV t10.2.Aa6) (sl (Ha7 (rt tV t10.2.Aa6)) (sl t1 (sl (decide ((W (6*t10.2.fa6))<=t8.1)) (sl t11.2.2 (sl (K8 t11.1 t11.2.1) (sl (okE tV t10.2.Aa6) (sl (S8 (rt tV t10.2.Aa6) t11.1 t11.2.1 (if (W (6*t12))<t7.1 then (W (6*t12)) else t7.1)) (sl t13 (sl (Sa2 t3.x 3) (sl (okE tV t10.2.Aa6) (sl (S8 (rt tV t10.2.Aa6) t16 t18 t7.1) (some (b t19,[])) none) none) none) (some (b false,[]))) none) none) none) (some (b false,[]))) (some (b false,[]))) (some (b false,[]))) none) none) none) none)) none)))))) none) none) none) none) none) none) none) none) none)
noncomputable def ja8(x:List Int)(y:V3)(z:B3):Bool:=W0 (one r1B) (aa9 x y z)
noncomputable def ja9(x:List Int)(y:V3)(z:B3):Bool:=okO (one r1B) (aa9 x y z)
noncomputable def Kb6:Sum:=Ob2 (ya3 tI) (W9 tV) (W9 tW) (λx y z=>.guard (ja9 x y z) (.ret ((one r1B).enc (ja8 x y z),[])))
theorem Cb4:i5 prog G 5 Kb6:=ge3 (bd b5 xb8) (one r1B) (o:=aa9) λx y z=>fb5 (.s .p (.s .p (.s .p (.s .p (.s .p (.s .p (.s .p (.s .p (.s .p (.s .p (.s (.s .p (.b (.u sa4.ls))) .p))))))))))) [sa4.pr] (by kernel_rfl) (.cons qb5 .nil) (by kernel_rfl)
theorem Kd6{l:List V3}(hc:Z4 l=0){z:V3}(hz:inV z=true)(hf:∀p∈F0 l,dot p.n z<=p.b):In l z:=λn b hv=>by
 obtain⟨_,hl,h4⟩:=J4 hc;have hfacs:=Uc5 hl λp hp=>(C4 hl p).2 hp
 have hall:∀p∈F0 l++ws,∀v∈l,dot p.n v<=p.b:=λp hp=>by
  rcases Qlg.1 hp with hp|hp
  ·exact ((C4 hl p).1 hp).hd
  ·exact Wc2 hl p hp
 have hrm:∀(a:Pln) (v:V3),rmZ a ⟨v.x,v.y,v.z,1⟩=a.b-dot a.n v:=λa v=>by simp only[rmZ,dot];omega
 have hI:Inr (F0 l++ws) ⟨z.x,z.y,z.z,1⟩:=⟨by show (0:Int)<1;omega,λp hp=>by
  rw[hrm]
  rcases Qlg.1 hp with hp|hp
  ·have:=hf p hp;omega
  ·have:=Wc2 (l:=[z]) (by simp[hz]) p hp z (by simp)
   omega⟩
 have key:=da2 (rd5 (F0 l)) (h:=⟨n,b⟩) (λy hy=>by
  obtain⟨v,hvl,he,hs⟩:=zd1 h4 hfacs hall hy;have h1:=hv v hvl;have h2:=he.rm ⟨n,b⟩;rw[hrm] at h2;have hw:=hy.w;have h3:0<=(b-dot n v)*y.pw:=Qle (by omega) (by omega)
  have h4:rmZ ⟨n,b⟩ y*1=(b-dot n v)*y.pw:=h2
  omega) hI
 rw[hrm] at key;have key:0<=b-dot n z:=key;omega
noncomputable def Cc4(F:List Pln)(x:List V3):Bool:=!(F.any λp=>x.any λv=>decide (O6 p v>0))
theorem pe6 (P : Z5) (p : Pln) (x : List V3) (h1 : P.Cc9 = x) (h2 : P.fa6 = (x.length : Int)) (h3 : P.e7 = p.n.x ∧ P.d9 = p.n.y ∧ P.g7 = p.n.z ∧ P.j9 = p.b) (hl : x.length ≤ 1000000) :
  (lp (V7 P) ⟨0⟩).1=if x.any (λv=>decide (O6 p v>0)) then 1 else 2:=by
 have hp:(⟨⟨P.e7,P.d9,P.g7⟩,P.j9⟩:Pln)=p:=by rw[h3.1,h3.2.1,h3.2.2.1,h3.2.2.2]
 have h:=Tc5 (step:=V7 P) (mk:=λj=>(⟨(j:Int)⟩:H5)) (c:=λv=>decide (O6 p v>0)) (u:=1) (fin:=2) tV x (by omega)
  (λj hj=>by
   simp only[V7,aa7,Int.toNat_natCast,h1,h2,hp,Ab3,mb7,D2 hj (show x.length<=4611686018427387904 by omega),i9 hj]
   rw[btD (r7 hj)];cases decide (O6 p (gL tV x j)>0)<;>rfl)
  (by simp only[V7,aa7,h2];rw[bfD (A7 (Nat.lt_irrefl _))]) 0 (Qlai _)
 rw[List.drop_zero] at h;rw[show (⟨0⟩:H5)=⟨((0:Nat):Int)⟩ from rfl,h]
theorem kd4(F:List Pln)(x:List V3)(hF:F.length<=1000000)(hx:x.length<=1000000):sa1 F x=some (b (Cc4 F x),[]):=by
 have h:=Tc5 (step:=ea6 ⟨(F.length:Int)⟩) (mk:=λj=>(⟨x,F,(j:Int)⟩:H6)) (c:=λp=>x.any λv=>decide (O6 p v>0)) (u:=1) (fin:=2) tP F (by omega)
  (λj hj=>by
   have h1:=pe6 ⟨x,F,(F.length:Int),(j:Int),x,(x.length:Int),(gL tP F j).n.x,(gL tP F j).n.y,(gL tP F j).n.z,(gL tP F j).b⟩ (gL tP F j) x rfl rfl ⟨rfl,rfl,rfl,rfl⟩ hx;simp only[ea6,aa8,q9,m9,Int.toNat_natCast,h1,D2 hj (show F.length<=4611686018427387904 by omega),i9 hj]
   rw[btD (r7 hj)];cases x.any λv=>decide (O6 (gL tP F j) v>0)<;>rfl)
  (by simp only[ea6,aa8];rw[bfD (A7 (Nat.lt_irrefl _))]) 0 (Qlai _)
 rw[List.drop_zero] at h;unfold sa1 Cc4;simp only[q9,m9];rw[show (⟨x,F,0⟩:H6)=⟨x,F,((0:Nat):Int)⟩ from rfl,h]
 cases F.any λp=>x.any λv=>decide (O6 p v>0)<;>rfl
theorem td9(F:List Pln)(x:List V3)(hF:F.length<=1000000)(hx:x.length<=1000000):Ea7 F x=Cc4 F x:=by unfold Ea7;rw[kd4 F x hF hx];rfl
theorem ud0(F:List Pln)(x:List V3)(hF:F.length<=1000000)(hx:x.length<=1000000):Ea8 F x=true:=by unfold Ea8;rw[kd4 F x hF hx];rfl
theorem pe7{l:List V3}(hl:l.all inV=true){x:List V3}(hx:∀v∈x,inV v=true)(h:Cc4 (F0 l) x=true):∀p∈F0 l,∀v∈x,dot p.n v<=p.b:=λp hp v hv=>by
 unfold Cc4 at h;rw[Bool.not_eq_true',List.any_eq_false] at h;have h1:=h p hp;rw[Bool.not_eq_true,List.any_eq_false] at h1;have h2:=h1 v hv;rw[decide_eq_true_eq,zc1 ((C4 hl p).1 hp).ok (hx v hv)] at h2;omega
def Kb7(x y:V3):List V3:=[⟨x.x,x.y,x.z⟩,⟨y.x,x.y,x.z⟩,⟨x.x,y.y,x.z⟩,⟨y.x,y.y,x.z⟩,⟨x.x,x.y,y.z⟩,⟨y.x,x.y,y.z⟩,⟨x.x,y.y,y.z⟩,⟨y.x,y.y,y.z⟩]
theorem Cc5(x y:V3):Rd (one (r1L tV)) (Ka0 x y) (λr=>r=Kb7 x y):=⟨_,Kb7 x y,rfl,Ae0 tV 25 (Kb7 x y),rfl⟩
theorem Kd7(x y:V3):wa1 x y=Kb7 x y:=(Cc5 x y).p
theorem Kd8(x y:V3):wa2 x y=true:=(Cc5 x y).g
theorem kd5 : ∀ (l : List V3) (s : V3 × V3), (∀ k : Int, 0 ≤ k → (Sm k s.1.x ∧ Sm k s.1.y ∧ Sm k s.1.z) ∧ (Sm k s.2.x ∧ Sm k s.2.y ∧ Sm k s.2.z) → (∀ v ∈ l, Sm k v.x ∧ Sm k v.y ∧ Sm k v.z) → (Sm k (l.foldl bxS s).1.x ∧ Sm k (l.foldl bxS s).1.y ∧ Sm k (l.foldl bxS s).1.z) ∧ (Sm k (l.foldl bxS s).2.x ∧ Sm k (l.foldl bxS s).2.y ∧ Sm k (l.foldl bxS s).2.z)) ∧
  ((l.foldl bxS s).1.x<=s.1.x/\(l.foldl bxS s).1.y<=s.1.y/\(l.foldl bxS s).1.z<=s.1.z/\s.2.x<=(l.foldl bxS s).2.x/\s.2.y<=(l.foldl bxS s).2.y/\s.2.z<=(l.foldl bxS s).2.z) /\
  (∀v∈l,(l.foldl bxS s).1.x<=v.x/\(l.foldl bxS s).1.y<=v.y/\(l.foldl bxS s).1.z<=v.z/\v.x<=(l.foldl bxS s).2.x/\v.y<=(l.foldl bxS s).2.y/\v.z<=(l.foldl bxS s).2.z)
 |[],s=>⟨λ_ _ h _=>h,⟨Qln _,Qln _,Qln _,Qln _,Qln _,Qln _⟩,λv hv=>by cases hv⟩
 |a::l,s=>by
  obtain⟨h1,⟨g1,g2,g3,g4,g5,g6⟩,h3⟩:=kd5 l (bxS s a);have m1:∀x y:Int,(if x<y then x else y)<=y/\(if x<y then x else y)<=x:=λx y=>by split<;>omega
  have m2:∀x y:Int,y<=(if x>y then x else y)/\x<=(if x>y then x else y):=λx y=>by split<;>omega
  have s1:∀(k x y:Int),Sm k x->Sm k y->Sm k (if x<y then x else y):=λk x y a c=>by split<;>assumption
  have s2:∀(k x y:Int),Sm k x->Sm k y->Sm k (if x>y then x else y):=λk x y a c=>by split<;>assumption
  rw[List.foldl_cons];refine⟨λk hk hs hv=>h1 k hk ?_ λv hv'=>hv v (Qli _ hv'),⟨?_,?_,?_,?_,?_,?_⟩,λv hv=>?_⟩
  ·obtain⟨a1,a2,a3⟩:=hv a Qlr;obtain⟨⟨c1,c2,c3⟩,d1,d2,d3⟩:=hs;exact⟨⟨s1 _ _ _ a1 c1,s1 _ _ _ a2 c2,s1 _ _ _ a3 c3⟩,s2 _ _ _ a1 d1,s2 _ _ _ a2 d2,s2 _ _ _ a3 d3⟩
  ·exact Qlp g1 (m1 _ _).1
  ·exact Qlp g2 (m1 _ _).1
  ·exact Qlp g3 (m1 _ _).1
  ·exact Qlp (m2 _ _).1 g4
  ·exact Qlp (m2 _ _).1 g5
  ·exact Qlp (m2 _ _).1 g6
  ·rcases Qlk.1 hv with rfl|hv
   ·exact⟨Qlp g1 (m1 _ _).2,Qlp g2 (m1 _ _).2,Qlp g3 (m1 _ _).2,Qlp (m2 _ _).2 g4,Qlp (m2 _ _).2 g5,Qlp (m2 _ _).2 g6⟩
   ·exact h3 v hv
theorem ud1 {l : List V3} (hne : l ≠ []) : (bxL l).2.2 = true ∧ (∀ k : Int, 0 ≤ k → (∀ v ∈ l, Sm k v.x ∧ Sm k v.y ∧ Sm k v.z) → (Sm k (bxL l).1.x ∧ Sm k (bxL l).1.y ∧ Sm k (bxL l).1.z) ∧ (Sm k (bxL l).2.1.x ∧ Sm k (bxL l).2.1.y ∧ Sm k (bxL l).2.1.z)) ∧
  (∀v∈l,(bxL l).1.x<=v.x/\(bxL l).1.y<=v.y/\(bxL l).1.z<=v.z/\v.x<=(bxL l).2.1.x/\v.y<=(bxL l).2.1.y/\v.z<=(bxL l).2.1.z):=by
 cases l with
 |nil=>exact absurd rfl hne
 |cons a l =>
  obtain⟨h1,_,h3⟩:=kd5 (a::l) (a,a);exact⟨rfl,λk hk hv=>h1 k hk ⟨hv a (by simp),hv a (by simp)⟩ hv,h3⟩
def oa3(x y:V3):Int:=if y.x<=x.x then 0 else if y.y<=x.y then 0 else if y.z<=x.z then 0 else (y.x-x.x)*(y.y-x.y)*(y.z-x.z)
theorem Se8{a c d:Int}(ha:0<=a/\a<=100)(hc:0<=c/\c<=100)(hd:0<=d/\d<=100):0<=a*c/\a*c<=10000/\0<=a*c*d/\a*c*d<=1000000:=by
 have h1:=Qle ha.1 hc.1;have h2:a*c<=100*100:=Qlag ha.2 hc.2 hc.1 (by omega)
 have h3:=Qle h1 hd.1;have h4:a*c*d<=10000*100:=Qlag (by omega) hd.2 hd.1 (by omega)
 omega
theorem ud2{x y:V3}(hx:Sm 50 x.x/\Sm 50 x.y/\Sm 50 x.z)(hy:Sm 50 y.x/\Sm 50 y.y/\Sm 50 y.z):z7 x y=oa3 x y/\0<=oa3 x y/\oa3 x y<=1000000:=by
 obtain⟨⟨a1,a2⟩,⟨a3,a4⟩,a5,a6⟩:=hx;obtain⟨⟨c1,c2⟩,⟨c3,c4⟩,c5,c6⟩:=hy;unfold z7 ua2 oa3;by_cases h1:y.x<=x.x
 ·rw[btD h1,if_pos h1];exact⟨rfl,by omega,by omega⟩
 rw[bfD h1,if_neg h1];by_cases h2:y.y<=x.y
 ·rw[btD h2,if_pos h2];exact⟨rfl,by omega,by omega⟩
 rw[bfD h2,if_neg h2];by_cases h3:y.z<=x.z
 ·rw[btD h3,if_pos h3];exact⟨rfl,by omega,by omega⟩
 rw[bfD h3,if_neg h3];obtain⟨k1,k2,k3,k4⟩:=Se8 (a:=y.x-x.x) (c:=y.y-x.y) (d:=y.z-x.z) (by omega) (by omega) (by omega)
 rw[I6 (n:=y.x-x.x) (by omega) (by omega),I6 (n:=y.y-x.y) (by omega) (by omega),I6 (n:=y.z-x.z) (by omega) (by omega),I6 (n:=(y.x-x.x)*(y.y-x.y)) (by omega) (by omega),I6 (by omega) (by omega)]
 exact⟨rfl,k3,k4⟩
theorem Kd9{x y x' y':V3}(h1:x'.x<=x.x/\x'.y<=x.y/\x'.z<=x.z)(h2:y.x<=y'.x/\y.y<=y'.y/\y.z<=y'.z):oa3 x y<=oa3 x' y':=by
 have nn:0<=oa3 x' y':=by
  unfold oa3;split
  ·omega
  split
  ·omega
  split
  ·omega
  ·exact Qle (Qle (by omega) (by omega)) (by omega)
 by_cases k1:y.x<=x.x
 ·rw[show oa3 x y=0 by unfold oa3;rw[if_pos k1]];exact nn
 by_cases k2:y.y<=x.y
 ·rw[show oa3 x y=0 by unfold oa3;rw[if_neg k1,if_pos k2]];exact nn
 by_cases k3:y.z<=x.z
 ·rw[show oa3 x y=0 by unfold oa3;rw[if_neg k1,if_neg k2,if_pos k3]];exact nn
 unfold oa3;rw[if_neg k1,if_neg k2,if_neg k3,if_neg (by omega),if_neg (by omega),if_neg (by omega)]
 exact Qlag (Qlag (by omega) (by omega) (by omega) (by omega)) (by omega) (by omega) (Qle (by omega) (by omega))
def grd(x:V3)(a c d:Nat):List V3:=(List.range a).flatMap λ(i:Nat)=>(List.range c).flatMap λ(j:Nat)=>(List.range d).map λ(k:Nat)=>(⟨x.x+(i:Int),x.y+(j:Int),x.z+(k:Int)⟩:V3)
theorem Bd9{x:V3}{a c d:Nat}{q:V3}:q∈grd x a c d↔(x.x<=q.x/\q.x<x.x+a)/\(x.y<=q.y/\q.y<x.y+c)/\x.z<=q.z/\q.z<x.z+d:=by
 unfold grd;simp only[Qlo,Qla,List.mem_range];constructor
 ·rintro⟨i,hi,j,hj,k,hk,rfl⟩
  simp only
  omega
 ·rintro⟨h1,h2,h3⟩;exact⟨(q.x-x.x).toNat,by omega,(q.y-x.y).toNat,by omega,(q.z-x.z).toNat,by omega,Qlat (by simp only;omega) (by simp only;omega) (by simp only;omega)⟩
theorem Ub8{α β:Type}(f:α->List β)(n:Nat):∀l:List α,(∀x∈l,(f x).length=n)->(l.flatMap f).length=l.length*n
 |[],_=>by simp
 |x::l,h=>by
  rw[List.flatMap_cons,List.length_append,h x (by simp),Ub8 f n l λy hy=>h y (by simp[hy]),List.length_cons,Nat.succ_mul]
  omega
theorem Xc3(x:V3)(a c d:Nat):(grd x a c d).length=a*(c*d):=by
 unfold grd;rw[Ub8 _ (c*d) _ λi _=>by
  rw[Ub8 _ d _ λj _=>by rw[Qlae,Qlw],Qlw],Qlw]
theorem pe8{Q:List V3}(hnd:Q.Nodup){x y:V3}(h:∀q∈Q,(x.x<=q.x/\q.x<y.x)/\(x.y<=q.y/\q.y<y.y)/\x.z<=q.z/\q.z<y.z):(Q.length:Int)<=oa3 x y:=by
 cases Q with
 |nil =>
  unfold oa3;split
  ·simp
  split
  ·simp
  split
  ·simp
  ·exact Qle (Qle (by omega) (by omega)) (by omega)
 |cons q Q =>
  have h0:=h q (by simp)
  have hs:∀r∈q::Q,r∈grd x (y.x-x.x).toNat (y.y-x.y).toNat (y.z-x.z).toNat:=λr hr=>by
   have:=h r hr
   exact Bd9.2 (by omega)
  have h1:=List.Nodup.length_le_of_subset hnd hs;rw[Xc3] at h1;unfold oa3;rw[if_neg (by omega),if_neg (by omega),if_neg (by omega)]
  have e1:(((y.x-x.x).toNat*((y.y-x.y).toNat*(y.z-x.z).toNat):Nat):Int)=(y.x-x.x)*(y.y-x.y)*(y.z-x.z):=by
   rw[Int.natCast_mul,Int.natCast_mul,Qlaf (by omega),Qlaf (by omega),Qlaf (by omega),Qlab]
  omega
theorem pe9(x y:V3)(h:x.x<y.x/\x.y<y.y/\x.z<y.z):Lin (λv=>(⟨(y.x-x.x)*v.x+x.x,(y.y-x.y)*v.y+x.y,(y.z-x.z)*v.z+x.z⟩:V3)) ⟨y.x-x.x,0,0⟩ ⟨0,y.y-x.y,0⟩ ⟨0,0,y.z-x.z⟩/\dot ⟨y.x-x.x,0,0⟩ (c7 ⟨0,y.y-x.y,0⟩ ⟨0,0,y.z-x.z⟩)=(y.x-x.x)*(y.y-x.y)*(y.z-x.z)/\0<(y.x-x.x)*(y.y-x.y)*(y.z-x.z):=by
 have hp:0<(y.x-x.x)*(y.y-x.y)*(y.z-x.z):=Qlf (Qlf (by omega) (by omega)) (by omega)
 have he:dot ⟨y.x-x.x,0,0⟩ (c7 ⟨0,y.y-x.y,0⟩ ⟨0,0,y.z-x.z⟩)=(y.x-x.x)*(y.y-x.y)*(y.z-x.z):=by simp only[dot,c7];grind
 refine⟨⟨by rw[he];omega,λu w=>?_⟩,he,hp⟩
 simp only[c9,dot,V3.mk.injEq];refine⟨?_,?_,?_⟩<;>grind
theorem Ee9{x y:V3}(h:x.x<y.x/\x.y<y.y/\x.z<y.z)(hin:(Kb7 x y).all inV=true):VG (Kb7 x y)=6*oa3 x y/\Sol (Kb7 x y):=by
 obtain⟨hl,hd,hp⟩:=pe9 x y h;have e:(cub ⟨0,0,0⟩).map (λv=>(⟨(y.x-x.x)*v.x+x.x,(y.y-x.y)*v.y+x.y,(y.z-x.z)*v.z+x.z⟩:V3))=Kb7 x y:=by
  have k:∀a c:Int,(a-c)*(0+1)+c=a:=λa c=>by omega
  have k0:∀a c:Int,(a-c)*0+c=c:=λa c=>by omega
  simp only[cub,Kb7,Qlac,List.map_nil,k,k0]
 have hm:((cub ⟨0,0,0⟩).map (λv=>(⟨(y.x-x.x)*v.x+x.x,(y.y-x.y)*v.y+x.y,(y.z-x.z)*v.z+x.z⟩:V3))).all inV=true:=by rw[e];exact hin
 have hc:=hl.chk jb2.1 hm;have h6:=hl.six jb2.1 hm;rw[e] at hc h6;rw[hd] at h6;refine⟨?_,(J4 hc).2.2⟩;rw[Xc2 hc,h6,jb2.2];unfold oa3 sgn;rw[if_pos hp,if_neg (by omega),if_neg (by omega),if_neg (by omega)]
 show 1*((y.x-x.x)*(y.y-x.y)*(y.z-x.z))*6=_;omega
theorem Fe0{x y v:V3}(h:x.x<=v.x/\x.y<=v.y/\x.z<=v.z/\v.x<=y.x/\v.y<=y.y/\v.z<=y.z):In (Kb7 x y) v:=λn b hv=>by
 have mx:∀(m lo hi t:Int),lo<=t->t<=hi->m*t<=m*lo\/m*t<=m*hi:=λm lo hi t h1 h2=>by
  by_cases hm:0<=m
  ·exact .inr (Qlh h2 hm)
  ·exact .inl (Int.mul_le_mul_of_nonpos_left (by omega) h1)
 have c:=λq (hq:q∈Kb7 x y)=>hv q hq
 unfold Kb7 at c
 rcases mx n.x x.x y.x v.x h.1 h.2.2.2.1 with a1|a1<;>rcases mx n.y x.y y.y v.y h.2.1 h.2.2.2.2.1 with a2|a2<;>rcases mx n.z x.z y.z v.z h.2.2.1 h.2.2.2.2.2 with a3|a3
 ·have:=c ⟨x.x,x.y,x.z⟩ (by simp);simp only[dot] at this ⊢;omega
 ·have:=c ⟨x.x,x.y,y.z⟩ (by simp);simp only[dot] at this ⊢;omega
 ·have:=c ⟨x.x,y.y,x.z⟩ (by simp);simp only[dot] at this ⊢;omega
 ·have:=c ⟨x.x,y.y,y.z⟩ (by simp);simp only[dot] at this ⊢;omega
 ·have:=c ⟨y.x,x.y,x.z⟩ (by simp);simp only[dot] at this ⊢;omega
 ·have:=c ⟨y.x,x.y,y.z⟩ (by simp);simp only[dot] at this ⊢;omega
 ·have:=c ⟨y.x,y.y,x.z⟩ (by simp);simp only[dot] at this ⊢;omega
 ·have:=c ⟨y.x,y.y,y.z⟩ (by simp);simp only[dot] at this ⊢;omega
noncomputable def ia1(F:List Pln)(L:List V3):Int:=((L.filter λq=>Cc4 F (cub q)).length:Int)
theorem Ub9(F:List Pln)(A B:List V3):ia1 F (A++B)=ia1 F A+ia1 F B:=by unfold ia1;rw[List.filter_append,List.length_append];omega
theorem qc0(F:List Pln)(L:List V3):0<=ia1 F L/\ia1 F L<=L.length:=by
 unfold ia1
 have:=List.length_filter_le (λq=>Cc4 F (cub q)) L
 omega
def nb7(a c z0:Int)(d:Nat):List V3:=(List.range d).map λ(k:Nat)=>(⟨a,c,z0+(k:Int)⟩:V3)
def Kb8(a y0 z0:Int)(c d:Nat):List V3:=(List.range c).flatMap λ(j:Nat)=>nb7 a (y0+(j:Int)) z0 d
def Xc4(x:V3)(a c d:Nat):List V3:=(List.range a).flatMap λ(i:Nat)=>Kb8 (x.x+(i:Int)) x.y x.z c d
theorem Cc6(x:V3)(a c d:Nat):Xc4 x a c d=grd x a c d:=rfl
theorem kd6(a c z0:Int)(d:Nat):(nb7 a c z0 d).length=d:=by unfold nb7;rw[Qlae,Qlw]
theorem ce2(a y0 z0:Int)(c d:Nat):(Kb8 a y0 z0 c d).length=c*d:=by
 unfold Kb8;rw[Ub8 _ d _ λj _=>kd6 _ _ _ d,Qlw]
section
variable{F:List Pln}(hF:F.length<=1000000)
include hF
theorem Me3 (P : L4) (z0 : Int) (d : Nat) (h1 : P.za2 = F) (h2 : P.o4 = z0 + (d : Int)) (hd : d ≤ 10) (ha : Sm 1000 P.l9) (hc : Sm 1000 P.ka3) (hz : Sm 1000 z0) {s0 : Int} (hs : 0 ≤ s0 ∧ s0 ≤ 100000) :
  ∃s,lp (P9 P) ⟨s0,z0⟩=(1,s)/\s.fa6=s0+ia1 F (nb7 P.l9 P.ka3 z0 d):=by
 suffices key:∃t s,lp (P9 P) ⟨s0,z0⟩=(t,s)/\(t=1/\s.fa6=s0+ia1 F (nb7 P.l9 P.ka3 z0 d)) by
  obtain⟨t,s,h,rfl,h2⟩:=key;exact⟨s,h,h2⟩
 obtain⟨a1,a2⟩:=ha;obtain⟨c1,c2⟩:=hc;obtain⟨z1,z2⟩:=hz;have e0:(⟨s0,z0⟩:m0)=⟨s0,z0+((0:Nat):Int)⟩:=by rw[Int.natCast_zero,Qlan]
 rw[e0];refine P6 (step:=P9 P) (mk:=λj (q:Int)=>(⟨q,z0+(j:Int)⟩:m0)) d (λj q=>j<=d/\q=s0+ia1 F (nb7 P.l9 P.ka3 z0 j)) (λt s=>t=1/\s.fa6=s0+ia1 F (nb7 P.l9 P.ka3 z0 d)) (by omega)
  (λj q hj hq=>?_) (λj q hj hq=>?_) 0 s0 ⟨Qlai _,by simp[nb7,ia1]⟩
 ·obtain⟨hj',rfl⟩:=hq;have hb:=qc0 F (nb7 P.l9 P.ka3 z0 j);rw[kd6] at hb;have hr:nb7 P.l9 P.ka3 z0 (j+1)=nb7 P.l9 P.ka3 z0 j++[⟨P.l9,P.ka3,z0+(j:Int)⟩]:=by
   unfold nb7;rw[Qlar,List.map_append];rfl
  have w1:W (P.l9+1)=P.l9+1:=I6 (by omega) (by omega)
  have w2:W (P.ka3+1)=P.ka3+1:=I6 (by omega) (by omega)
  have w3:W (z0+(j:Int)+1)=z0+((j+1:Nat):Int):=by rw[I6 (by omega) (by omega)];omega
  have w3':z0+(j:Int)+1=z0+((j+1:Nat):Int):=by omega
  have w4:W (s0+ia1 F (nb7 P.l9 P.ka3 z0 j)+1)=s0+ia1 F (nb7 P.l9 P.ka3 z0 j)+1:=I6 (by omega) (by omega)
  have hv:∀x y z,o3 x y z=⟨x,y,z⟩:=λ_ _ _=>rfl
  have hcb:Kb7 ⟨P.l9,P.ka3,z0+(j:Int)⟩ ⟨P.l9+1,P.ka3+1,z0+((j+1:Nat):Int)⟩=cub ⟨P.l9,P.ka3,z0+(j:Int)⟩:=by
   rw[<- w3'];rfl
  have hlt:z0+(j:Int)<z0+(d:Int):=by omega
  have p1:=td9 F (cub ⟨P.l9,P.ka3,z0+(j:Int)⟩) hF (by simp[cub])
  have p2:=ud0 F (cub ⟨P.l9,P.ka3,z0+(j:Int)⟩) hF (by simp[cub])
  have hone:ia1 F [⟨P.l9,P.ka3,z0+(j:Int)⟩]=if Cc4 F (cub ⟨P.l9,P.ka3,z0+(j:Int)⟩)=true then 1 else 0:=by
   unfold ia1;rw[Qlao]
   split<;>simp
  show Nx (C5 Stp.next Stp.exit Stp.fail _ _) _ _;simp only[C5,hv,h1,h2,w1,w2,w3,w4,Kd7,Kd8,hcb,q9,oa7,p1,p2];rw[btD hlt];cases hi:Cc4 F (cub ⟨P.l9,P.ka3,z0+(j:Int)⟩)
  ·exact Nx.nx (s:=(⟨s0+ia1 F (nb7 P.l9 P.ka3 z0 j),z0+((j+1:Nat):Int)⟩:m0)) (N:=λs=>∃q',s=(⟨q',z0+((j+1:Nat):Int)⟩:m0)/\(j+1<=d/\q'=s0+ia1 F (nb7 P.l9 P.ka3 z0 (j+1)))) ⟨_,rfl,by omega,by rw[hr,Ub9,hone,hi];simp⟩
  ·exact Nx.nx (s:=(⟨s0+ia1 F (nb7 P.l9 P.ka3 z0 j)+1,z0+((j+1:Nat):Int)⟩:m0)) (N:=λs=>∃q',s=(⟨q',z0+((j+1:Nat):Int)⟩:m0)/\(j+1<=d/\q'=s0+ia1 F (nb7 P.l9 P.ka3 z0 (j+1)))) ⟨_,rfl,by omega,by rw[hr,Ub9,hone,hi];simp only[if_true];omega⟩
 ·obtain⟨hj',rfl⟩:=hq;have e:j=d:=by omega
  subst e;refine⟨1,?_,rfl,rfl⟩;show C5 Stp.next Stp.exit Stp.fail _ _=_;simp only[C5,h2];rw[bfD (by omega)]
theorem Me4 {l : List V3} (P : L5) (y0 z0 : Int) (c d : Nat) (h2 : P.o7 = y0 + (c : Int)) (h3 : P.o4 = z0 + (d : Int)) (h4 : P.g7 = z0) (hcd : c ≤ 10 ∧ d ≤ 10) (ha : Sm 1000 P.l9) (hy : Sm 900 y0) (hz : Sm 1000 z0) {s0 : Int} (hs : 0 ≤ s0 ∧ s0 ≤ 90000) :
  ∃j,lp (Q0 P) ⟨l,F,s0,y0⟩=(1,⟨l,F,s0+ia1 F (Kb8 P.l9 y0 z0 c d),j⟩):=by
 suffices key:∃t s,lp (Q0 P) ⟨l,F,s0,y0⟩=(t,s)/\(t=1/\∃j,s=⟨l,F,s0+ia1 F (Kb8 P.l9 y0 z0 c d),j⟩) by
  obtain⟨t,s,h,rfl,j,rfl⟩:=key;exact⟨j,h⟩
 obtain⟨a1,a2⟩:=ha;obtain⟨y1,y2⟩:=hy;have e0:(⟨l,F,s0,y0⟩:p9)=⟨l,F,s0,y0+((0:Nat):Int)⟩:=by rw[Int.natCast_zero,Qlan]
 rw[e0];refine P6 (step:=Q0 P) (mk:=λj (q:Int)=>(⟨l,F,q,y0+(j:Int)⟩:p9)) c (λj q=>j<=c/\q=s0+ia1 F (Kb8 P.l9 y0 z0 j d)) (λt s=>t=1/\∃j,s=⟨l,F,s0+ia1 F (Kb8 P.l9 y0 z0 c d),j⟩) (by omega)
  (λj q hj hq=>?_) (λj q hj hq=>?_) 0 s0 ⟨Qlai _,by simp[Kb8,ia1]⟩
 ·obtain⟨hj',rfl⟩:=hq;have hb:=qc0 F (Kb8 P.l9 y0 z0 j d);rw[ce2] at hb;have hjd:j*d<=10*10:=Qlz (by omega) hcd.2
  have hr:Kb8 P.l9 y0 z0 (j+1) d=Kb8 P.l9 y0 z0 j d++nb7 P.l9 (y0+(j:Int)) z0 d:=by
   unfold Kb8;rw[Qlar,List.flatMap_append];simp
  obtain⟨s,k1,k2⟩:=Me3 hF ⟨P.bs7,l,F,P.wa6,P.Vb0,P.l9,y0+(j:Int),P.e7,P.d9,P.g7,P.q8,P.o7,P.o4⟩ z0 d rfl h3 hcd.2 ⟨a1,a2⟩ ⟨by simp only;omega,by simp only;omega⟩ hz (s0:=s0+ia1 F (Kb8 P.l9 y0 z0 j d)) (by omega)
  have w3:W (y0+(j:Int)+1)=y0+((j+1:Nat):Int):=by rw[I6 (by omega) (by omega)];omega
  show Nx (C6 Stp.next Stp.exit Stp.fail _ _) _ _;simp only[h2,h4] at k1;simp only[C6,q9,m9,h2,h4,k1,k2,w3];rw[btD (show y0+(j:Int)<y0+(c:Int) by omega)]
  exact Nx.nx (s:=(⟨l,F,_,y0+((j+1:Nat):Int)⟩:p9)) (N:=λs=>∃q',s=(⟨l,F,q',y0+((j+1:Nat):Int)⟩:p9)/\(j+1<=c/\q'=s0+ia1 F (Kb8 P.l9 y0 z0 (j+1) d))) ⟨_,rfl,by omega,by rw[hr,Ub9];omega⟩
 ·obtain⟨hj',rfl⟩:=hq;have e:j=c:=by omega
  subst e;refine⟨1,?_,rfl,_,rfl⟩;show C6 Stp.next Stp.exit Stp.fail _ _=_;simp only[C6,h2];rw[bfD (by omega)]
theorem Me5 {l : List V3} (P : L6) (x : V3) (a c d : Nat) (h0 : P.e7 = x.x ∧ P.d9 = x.y ∧ P.g7 = x.z) (h1 : P.q8 = x.x + (a : Int)) (h2 : P.o7 = x.y + (c : Int)) (h3 : P.o4 = x.z + (d : Int)) (hcd : a ≤ 10 ∧ c ≤ 10 ∧ d ≤ 10) (hx : Sm 900 x.x ∧ Sm 900 x.y ∧ Sm 900 x.z) :
  ∃j,lp (Q1 P) ⟨l,F,0,x.x⟩=(1,⟨l,F,ia1 F (grd x a c d),j⟩):=by
 suffices key:∃t s,lp (Q1 P) ⟨l,F,0,x.x⟩=(t,s)/\(t=1/\∃j,s=⟨l,F,ia1 F (grd x a c d),j⟩) by
  obtain⟨t,s,h,rfl,j,rfl⟩:=key;exact⟨j,h⟩
 obtain⟨⟨x1,x2⟩,hy,hz⟩:=hx;have e0:(⟨l,F,0,x.x⟩:q7)=⟨l,F,0,x.x+((0:Nat):Int)⟩:=by rw[Int.natCast_zero,Qlan]
 rw[e0];refine P6 (step:=Q1 P) (mk:=λj (q:Int)=>(⟨l,F,q,x.x+(j:Int)⟩:q7)) a (λj q=>j<=a/\q=ia1 F (Xc4 x j c d)) (λt s=>t=1/\∃j,s=⟨l,F,ia1 F (grd x a c d),j⟩) (by omega)
  (λj q hj hq=>?_) (λj q hj hq=>?_) 0 0 ⟨Qlai _,by simp[Xc4,ia1]⟩
 ·obtain⟨hj',rfl⟩:=hq;have hb:=qc0 F (Xc4 x j c d);rw[Cc6,Xc3] at hb;have hjd:j*(c*d)<=10*(10*10):=Qlz (by omega) (Qlz hcd.2.1 hcd.2.2)
  have hr:Xc4 x (j+1) c d=Xc4 x j c d++Kb8 (x.x+(j:Int)) x.y x.z c d:=by
   unfold Xc4;rw[Qlar,List.flatMap_append];simp
  obtain⟨jj,k1⟩:=Me4 hF (l:=l) ⟨P.bs7,P.wa6,P.Vb0,x.x+(j:Int),P.e7,P.d9,P.g7,P.q8,P.o7,P.o4⟩ x.y x.z c d h2 h3 h0.2.2 hcd.2 ⟨by simp only;omega,by simp only;omega⟩ hy (hz.mono (by omega)) (s0:=ia1 F (Xc4 x j c d)) (by rw[Cc6];omega)
  have w3:W (x.x+(j:Int)+1)=x.x+((j+1:Nat):Int):=by rw[I6 (by omega) (by omega)];omega
  show Nx (C7 Stp.next Stp.exit Stp.fail _ _) _ _;simp only[h1,h0.2.1] at k1;simp only[C7,q9,m9,h1,h0.2.1,k1,w3];rw[btD (show x.x+(j:Int)<x.x+(a:Int) by omega)]
  exact Nx.nx (s:=(⟨l,F,_,x.x+((j+1:Nat):Int)⟩:q7)) (N:=λs=>∃q',s=(⟨l,F,q',x.x+((j+1:Nat):Int)⟩:q7)/\(j+1<=a/\q'=ia1 F (Xc4 x (j+1) c d))) ⟨_,rfl,by omega,by rw[hr,Ub9]⟩
 ·obtain⟨hj',rfl⟩:=hq;have e:j=a:=by omega
  subst e;refine⟨1,?_,rfl,_,by rw[Cc6]⟩
  show C7 Stp.next Stp.exit Stp.fail _ _=_;simp only[C7,h1];rw[bfD (by omega)]
end
theorem pcE(x:List Int):(S7 x).1::(S7 x).2=r4 x:=by
 have h:=gd1 x;unfold S7;cases hL:r4 x with
 |nil=>rw[hL] at h;simp at h
 |cons a l=>rfl
theorem Cc7(x:List Int):ra7 x=some (eL tV (r4 (x.take 40)),[]):=by
 have hwl:((if (40:Int)<(↑(List.length x):Int) then (40:Int) else (↑(List.length x):Int)).toNat-0)=(x.take 40).length:=by
  rw[List.length_take];split<;>omega
 have hin:inB (if (40:Int)<(↑(List.length x):Int) then (40:Int) else (↑(List.length x):Int)) (x.length+1)=true:=by
  split
  ·exact i9 (j:=40) (by omega)
  ·exact i9 (by omega)
 have hg:∀k,k<(x.take 40).length->(λk=>(λk=>tI.row (gL tI x k)) (0+k)) k=tI.row (gL tI (x.take 40) k):=λk hk=>by
  show tI.row (gL tI x (0+k))=_;have hk8:k<40:=by rw[List.length_take] at hk;omega
  rw[Nat.zero_add,zc7 tI x hk8]
 have h4:Nat.ble 1 (r4 (x.take 40)).length=true:=by
  have:=(gd1 (x.take 40)).1
  rw[Nat.ble_eq];omega
 unfold ra7;rw[hin,hwl,Wb3 tI rfl hg,cb0 tI (f:=λk=>gL tI (x.take 40) k) hg]
 simp only[Td7,h4,pcE];rfl
theorem ud3(x:List Int):Ea2 x=r4 (x.take 40):=by
 unfold Ea2;rw[Cc7];exact Lc6 _ (by
  show (r1L tV).rd [] (eL tV _)=_;show Bool.rec (motive:=λ_=>Option (List V3)) none (some (rL tV (eL tV (r4 (x.take 40))))) (okE tV (r4 (x.take 40)))=_
  rw[oa7];exact congrArg some (q9 tV _))
theorem ud4(x:List Int):Ea3 x=true:=by
 unfold Ea3;rw[Cc7];exact fd6 (one (r1L tV)) (r:=r4 (x.take 40)) (by
  show Bool.rec (motive:=λ_=>Option (List V3)) none (some (rL tV (eL tV (r4 (x.take 40))))) (okE tV (r4 (x.take 40)))=_
  rw[oa7];exact congrArg some (q9 tV _))
theorem Mp.chk{l:List V3}(h:Mp l):Z4 l=0:=ib5 (by have:=h.l8;omega) h.inV (Be6 h.nf)
theorem ce3(v:V3):Sm 11 (na1 v).x/\Sm 11 (na1 v).y/\Sm 11 (na1 v).z:=by
 have h:∀n:Int,Sm 11 (Int.tmod n 12):=λn=>by
  have h1:=Int.tmod_lt_of_pos n (show (0:Int)<12 by omega)
  have h2:=Int.lt_tmod_of_pos n (show (0:Int)<12 by omega)
  exact⟨by omega,by omega⟩
 exact⟨h _,h _,h _⟩
structure ue1 where
 Xa9:List V3
 (e7 d9 g7 j9:Int)
structure ue2 where
 ph:Nat
 is6:Int
 ns5:Nat
 eh1:List (List b7)
structure Fe6 where
 (alt ns0:Nat)
 eh0:List (List b7)
structure Xc5 where
 bs5:Bool
 ue5:List V3
 w7:Int
 Se9:List Pln
 (Te0 e7 d9 g7:Int)
structure Xc6 where
 (Vb0 Te1:Int)
theorem Fe1{l:List V3}(hc:Z4 l=0):Sm 100000000000000000 (Y2 l).1:=by
 obtain⟨h48,hl,h4⟩:=J4 hc;have hX:=Ab9 hc;have hlen:(M0 l).length<=48:=by have:=Ad6 (l:=l);unfold M0;omega
 have hF:(F0 (M0 l)).length<=1000000:=Tb5 hlen hX.iv;have hbs:=Bc2 (l:=F0 (M0 l)) (B:=3057647616) (f:=λp=>AR (onF p (M0 l)) p.n (ptF p (M0 l))) λp hp=>hX.ar_bd hlen (hX.mem.1 hp)
 have hlt:(F0 (M0 l)).length*3057647616<=1000000*3057647616:=Nat.mul_le_mul_right _ hF;unfold Y2;rw[if_pos hc];exact hbs.mono (by omega)
section
variable{l:List V3}(hc:Z4 l=0)(h40:l.length<=40){v:V3}(hv:inV v=true)(hin:∀p∈F0 l,dot p.n v<=p.b)
include hc h40 hv hin
end
theorem Ld0(x:V3)(a c d:Nat):(grd x a c d).Nodup:=by
 have fm:∀{α β:Type} (f:α->List β) (l:List α),l.Nodup->(∀i∈l,(f i).Nodup)->(∀i∈l,∀j∈l,∀y,y∈f i->y∈f j->i=j)->(l.flatMap f).Nodup:=λ{α β} f l=>by
  induction l with
  |nil=>intro _ _ _;simp
  |cons i l ih =>
   intro hn hf hd;rw[List.flatMap_cons,List.nodup_append];rw[Qlv] at hn;refine⟨hf i (by simp),ih hn.2 (λj hj=>hf j (by simp[hj])) (λj hj k hk=>hd j (by simp[hj]) k (by simp[hk])),λy hy z hz e=>?_⟩
   obtain⟨j,hj,hz⟩:=Qlo.1 hz
   have:=hd i (by simp) j (by simp[hj]) y hy (e ▸ hz)
   exact hn.1 (this ▸ hj)
 unfold grd;refine fm _ _ Qlap (λi _=>fm _ _ Qlap (λj _=>?_) λj _ j' _ y hy hy'=>?_) λi _ i' _ y hy hy'=>?_
 ·unfold List.Nodup;rw[Qlaj];refine List.Pairwise.imp (λ{k k'} hne e=>hne ?_) Qlap
  simp only[V3.mk.injEq] at e;omega
 ·obtain⟨k,_,rfl⟩:=Qla.1 hy;obtain⟨k',_,e⟩:=Qla.1 hy';simp only[V3.mk.injEq] at e;omega
 ·obtain⟨j,_,hy⟩:=Qlo.1 hy;obtain⟨k,_,rfl⟩:=Qla.1 hy;obtain⟨j',_,hy'⟩:=Qlo.1 hy';obtain⟨k',_,e⟩:=Qla.1 hy';simp only[V3.mk.injEq] at e;omega
structure Fe2(l:List V3)(x:V3)(a c d:Nat):Prop where
 six:6*ia1 (F0 l) (grd x a c d)<=(Y2 l).1
 box:ia1 (F0 l) (grd x a c d)<=oa3 (jb0 (bxL l) x) (Aa4 (bxL l) ⟨x.x+a,x.y+c,x.z+d⟩)
theorem qe0{l:List V3}(hc:Z4 l=0){x:V3}{a c d:Nat}(hx:Sm 11 x.x/\Sm 11 x.y/\Sm 11 x.z)(h4:a<=4/\c<=4/\d<=4):Fe2 l x a c d:=by
 obtain⟨h48,hl,hs⟩:=J4 hc;obtain⟨⟨x1,x2⟩,⟨y1,y2⟩,z1,z2⟩:=hx;obtain⟨Q,hQ⟩:∃Q,Q=(grd x a c d).filter λq=>Cc4 (F0 l) (cub q):=⟨_,rfl⟩
 have hcnt:ia1 (F0 l) (grd x a c d)=(Q.length:Int):=by rw[hQ];rfl
 have hnd:Q.Nodup:=by rw[hQ];exact (Ld0 x a c d).filter _
 have mem:∀q∈Q,((x.x<=q.x/\q.x<x.x+a)/\(x.y<=q.y/\q.y<x.y+c)/\x.z<=q.z/\q.z<x.z+d)/\Cc4 (F0 l) (cub q)=true:=λq hq=>by
  rw[hQ] at hq;obtain⟨h1,h2⟩:=Qlc.1 hq;exact⟨Bd9.1 h1,h2⟩
 have hin:∀q∈Q,∀v∈cub q,inV v=true:=λq hq v hv=>by
  obtain⟨⟨k1,k2,k3⟩,_⟩:=mem q hq;unfold cub at hv;simp only[Qlk,Qlq,or_false] at hv
  rcases hv with rfl|rfl|rfl|rfl|rfl|rfl|rfl|rfl<;>exact (ja6 _).2 ⟨⟨by (try simp only);omega,by (try simp only);omega⟩,⟨by (try simp only);omega,by (try simp only);omega⟩,by (try simp only);omega,by (try simp only);omega⟩
 have hI:∀q∈Q,∀v∈cub q,In l v:=λq hq v hv=>Kd6 hc (hin q hq v hv) λp hp=>pe7 hl (hin q hq) (mem q hq).2 p hp v hv
 constructor
 ·have h := ce1 _ Q rfl hnd (fun q hq => Qlad.2 (hin q hq)) l 1 (by omega) hs fun q hq v hv => by
   have e:scV 1 v=v:=by simp[scV]
   rw[e];exact hI q hq v hv
  rw[Xc2 hc] at h;rw[hcnt];omega
 ·rw[hcnt];have hne:l≠[]:=by
   obtain⟨u,hu⟩:=hs.ne;rintro rfl;cases hu
  obtain⟨_,_,hb⟩:=ud1 hne;refine pe8 hnd λq hq=>?_
  obtain⟨⟨k1,k2,k3⟩,_⟩:=mem q hq;have q0:=hI q hq q (by simp[cub])
  have q1:=hI q hq ⟨q.x+1,q.y+1,q.z+1⟩ (by simp[cub])
  have d1:∀v:V3,dot ⟨1,0,0⟩ v=v.x:=λv=>by simp[dot]
  have d2:∀v:V3,dot ⟨0,1,0⟩ v=v.y:=λv=>by simp[dot]
  have d3:∀v:V3,dot ⟨0,0,1⟩ v=v.z:=λv=>by simp[dot]
  have m1:∀v:V3,dot ⟨-1,0,0⟩ v=-v.x:=λv=>by simp[dot]
  have m2:∀v:V3,dot ⟨0,-1,0⟩ v=-v.y:=λv=>by simp[dot]
  have m3:∀v:V3,dot ⟨0,0,-1⟩ v=-v.z:=λv=>by simp[dot]
  have g1:=q1 ⟨1,0,0⟩ (bxL l).2.1.x λu hu=>by rw[d1];exact (hb u hu).2.2.2.1
  have g2:=q1 ⟨0,1,0⟩ (bxL l).2.1.y λu hu=>by rw[d2];exact (hb u hu).2.2.2.2.1
  have g3:=q1 ⟨0,0,1⟩ (bxL l).2.1.z λu hu=>by rw[d3];exact (hb u hu).2.2.2.2.2
  have f1:=q0 ⟨-1,0,0⟩ (-(bxL l).1.x) λu hu=>by rw[m1];have:=(hb u hu).1;omega
  have f2:=q0 ⟨0,-1,0⟩ (-(bxL l).1.y) λu hu=>by rw[m2];have:=(hb u hu).2.1;omega
  have f3:=q0 ⟨0,0,-1⟩ (-(bxL l).1.z) λu hu=>by rw[m3];have:=(hb u hu).2.2.1;omega
  rw[d1] at g1;rw[d2] at g2;rw[d3] at g3;rw[m1] at f1;rw[m2] at f2;rw[m3] at f3
  simp only at g1 g2 g3
  unfold jb0 Aa4
  simp only
  refine⟨⟨?_,?_⟩,⟨?_,?_⟩,?_,?_⟩<;>split<;>omega
theorem Ld1{l:List V3}(hc:Z4 l=0):(Y2 l).1<=6*oa3 (bxL l).1 (bxL l).2.1:=by
 obtain⟨h48,hl,hs⟩:=J4 hc;have hi:=Qlad.1 hl;have hne:l≠[]:=by
  obtain⟨u,hu⟩:=hs.ne;rintro rfl;cases hu
 obtain⟨_,hsm,hb⟩:=ud1 hne;obtain⟨⟨a1,a2,a3⟩,c1,c2,c3⟩:=hsm 24 (by omega) λv hv=>(ja6 v).1 (hi v hv)
 have d1:∀v:V3,dot ⟨1,0,0⟩ v=v.x:=λv=>by simp[dot]
 have d2:∀v:V3,dot ⟨0,1,0⟩ v=v.y:=λv=>by simp[dot]
 have d3:∀v:V3,dot ⟨0,0,1⟩ v=v.z:=λv=>by simp[dot]
 have lt:(bxL l).1.x<(bxL l).2.1.x/\(bxL l).1.y<(bxL l).2.1.y/\(bxL l).1.z<(bxL l).2.1.z:=by
  obtain⟨u,hu,n1⟩:=hs.off (n:=⟨1,0,0⟩) (by simp) (bxL l).1.x
  obtain⟨v,hv,n2⟩:=hs.off (n:=⟨0,1,0⟩) (by simp) (bxL l).1.y
  obtain⟨w,hw,n3⟩:=hs.off (n:=⟨0,0,1⟩) (by simp) (bxL l).1.z
  rw[d1] at n1;rw[d2] at n2;rw[d3] at n3
  have:=hb u hu;have:=hb v hv;have:=hb w hw
  omega
 have hin:(Kb7 (bxL l).1 (bxL l).2.1).all inV=true:=Qlad.2 λv hv=>by
  unfold Kb7 at hv;simp only[Qlk,Qlq,or_false] at hv
  rcases hv with rfl|rfl|rfl|rfl|rfl|rfl|rfl|rfl<;>exact (ja6 _).2 ⟨by assumption,by assumption,by assumption⟩
 obtain⟨hv,hsol⟩:=Ee9 lt hin;rw[<- hv,<- Xc2 hc];exact Bd5 hsol hs λv hv=>Fe0 (hb v hv)
theorem Cc8(x:List Int)(y:V3)(z:B3)(hz:(0<=z.b0/\z.b0<=255)/\(0<=z.b1/\z.b1<=255)/\0<=z.b2/\z.b2<=255):aa9 x y z=some (b true,[]):=by
 have hm:=jd0 (x.take 40);have hp:=ud3 x;have hgp:=ud4 x;generalize r4 (x.take 40)=l at hm hp;have hl4:=hm.l4;have hl8:=hm.l8;have hc:=hm.chk;obtain⟨h48,hl,hs⟩:=J4 hc;have hne:l≠[]:=by intro e;rw[e] at hl4;simp at hl4
 obtain⟨u,hu⟩:∃u,na1 y=u:=⟨_,rfl⟩;have hus:=ce3 y;rw[hu] at hus;have O6:∀n:Int,0<=n/\n<=255->∃m:Nat,Int.tmod (W n) 5=(m:Int)/\m<=4:=λn hn=>by
  rw[I6 (by omega) (by omega)]
  have h1:=Int.tmod_nonneg 5 hn.1;have h2:=Int.tmod_lt_of_pos n (show (0:Int)<5 by omega)
  exact⟨(Int.tmod n 5).toNat,by omega,by omega⟩
 obtain⟨a,ha,a4⟩:=O6 z.b0 hz.1;obtain⟨c,hcc,c4⟩:=O6 z.b1 hz.2.1;obtain⟨d,hd,d4⟩:=O6 z.b2 hz.2.2;obtain⟨⟨u1,u2⟩,⟨u3,u4⟩,u5,u6⟩:=hus;have hadd:pa1 u ⟨(a:Int),(c:Int),(d:Int)⟩=⟨u.x+a,u.y+c,u.z+d⟩:=by
  unfold pa1;rw[I6 (by simp only;omega) (by simp only;omega),I6 (by simp only;omega) (by simp only;omega),I6 (by simp only;omega) (by simp only;omega)]
 have hok:=qe0 hc (x:=u) (a:=a) (c:=c) (d:=d) ⟨⟨u1,u2⟩,⟨u3,u4⟩,u5,u6⟩ ⟨a4,c4,d4⟩;obtain⟨b1,b2,b3⟩:=ud1 hne;obtain⟨⟨⟨l1,l2⟩,⟨l3,l4⟩,l5,l6⟩,⟨g1,g2⟩,⟨g3,g4⟩,g5,g6⟩:=b2 11 (by omega) hm.bd
 have hF:=Tb5 h48 hl;obtain⟨jj,hlp⟩:=Me5 hF (l:=l) ⟨true,(Y2 l).1,(Aa5 l u ⟨u.x+a,u.y+c,u.z+d⟩).1,u.x,u.y,u.z,u.x+a,u.y+c,u.z+d⟩ u a c d ⟨rfl,rfl,rfl⟩ rfl rfl rfl ⟨by omega,by omega,by omega⟩ ⟨⟨by omega,by omega⟩,⟨by omega,by omega⟩,by omega,by omega⟩
 have e0:(Y2 l).2=0:=by unfold Y2;rw[if_pos hc]
 have hpos:=oe9 hc;obtain⟨sb1,sb2⟩:=Fe1 hc;have s6:O1 l=Y2 l:=jd6 _ (by omega)
 have s6g:O2 l=true:=jd7 _ (by omega)
 have f0:wa3 l=(F0 l,0):=by show ca3 l=_;unfold ca3;rw[if_pos hc]
 have f1:wa4 l=true:=decide_eq_true (by omega)
 have pm:ma9 l u ⟨u.x+a,u.y+c,u.z+d⟩=Aa5 l u ⟨u.x+a,u.y+c,u.z+d⟩:=ae3 _ _ _ (by omega)
 have gm:na0 l u ⟨u.x+a,u.y+c,u.z+d⟩=true:=ae4 _ _ _ (by omega)
 have pb:Ha6 l=bxL l:=te5 l (by omega)
 have gb:Ha7 l=true:=te6 l (by omega)
 -- the boxes
 obtain⟨v1,v2,v3⟩:=ud2 (x:=u) (y:=⟨u.x+a,u.y+c,u.z+d⟩) ⟨⟨by omega,by omega⟩,⟨by omega,by omega⟩,by omega,by omega⟩ ⟨⟨by simp only;omega,by simp only;omega⟩,⟨by simp only;omega,by simp only;omega⟩,by simp only;omega,by simp only;omega⟩
 have lowS:Sm 50 (jb0 (bxL l) u).x/\Sm 50 (jb0 (bxL l) u).y/\Sm 50 (jb0 (bxL l) u).z:=by
  unfold jb0 Sm
  simp only
  refine⟨?_,?_,?_⟩<;>split<;>omega
 have highS:Sm 50 (Aa4 (bxL l) ⟨u.x+a,u.y+c,u.z+d⟩).x/\Sm 50 (Aa4 (bxL l) ⟨u.x+a,u.y+c,u.z+d⟩).y/\Sm 50 (Aa4 (bxL l) ⟨u.x+a,u.y+c,u.z+d⟩).z:=by
  unfold Aa4 Sm
  simp only
  refine⟨?_,?_,?_⟩<;>split<;>omega
 obtain⟨w1,w2,w3⟩:=ud2 lowS highS;obtain⟨t1,t2,t3⟩:=ud2 (x:=(bxL l).1) (y:=(bxL l).2.1) ⟨⟨by omega,by omega⟩,⟨by omega,by omega⟩,by omega,by omega⟩ ⟨⟨by omega,by omega⟩,⟨by omega,by omega⟩,by omega,by omega⟩
 have hmono:oa3 (jb0 (bxL l) u) (Aa4 (bxL l) ⟨u.x+a,u.y+c,u.z+d⟩)<=oa3 u ⟨u.x+a,u.y+c,u.z+d⟩:=by
  refine Kd9 ?_ ?_
  ·unfold jb0;simp only;refine⟨?_,?_,?_⟩<;>split<;>omega
  ·unfold Aa4;simp only;refine⟨?_,?_,?_⟩<;>split<;>omega
 have hwb:=Ld1 hc;have hW1:W (6*oa3 u ⟨u.x+a,u.y+c,u.z+d⟩)=6*oa3 u ⟨u.x+a,u.y+c,u.z+d⟩:=I6 (by omega) (by omega)
 have hW2:W (6*oa3 (jb0 (bxL l) u) (Aa4 (bxL l) ⟨u.x+a,u.y+c,u.z+d⟩))=6*oa3 (jb0 (bxL l) u) (Aa4 (bxL l) ⟨u.x+a,u.y+c,u.z+d⟩):=I6 (by omega) (by omega)
 have hW3:W (6*oa3 (bxL l).1 (bxL l).2.1)=6*oa3 (bxL l).1 (bxL l).2.1:=I6 (by omega) (by omega)
 have hmost:Aa5 l u ⟨u.x+a,u.y+c,u.z+d⟩=(if 6*oa3 (jb0 (bxL l) u) (Aa4 (bxL l) ⟨u.x+a,u.y+c,u.z+d⟩)<(Y2 l).1 then 6*oa3 (jb0 (bxL l) u) (Aa4 (bxL l) ⟨u.x+a,u.y+c,u.z+d⟩) else (Y2 l).1,0):=by
  unfold Aa5;rw[if_pos e0,w1,hW2]
 have hcb:=qc0 (F0 l) (grd u a c d);have hgl:(grd u a c d).length<=4*(4*4):=by rw[Xc3];exact Qlz a4 (Qlz c4 d4)
 have hW4:W (6*ia1 (F0 l) (grd u a c d))=6*ia1 (F0 l) (grd u a c d):=I6 (by omega) (by omega)
 obtain⟨k1,k2⟩:=hok;obtain⟨mv,hmv⟩:∃mv,mv=(Aa5 l u ⟨u.x+a,u.y+c,u.z+d⟩).1:=⟨_,rfl⟩;have hmv0:Aa5 l u ⟨u.x+a,u.y+c,u.z+d⟩=(mv,0):=by rw[hmv,hmost]
 have mv1:0<=mv/\mv<=(Y2 l).1/\mv<=6*oa3 u ⟨u.x+a,u.y+c,u.z+d⟩/\6*ia1 (F0 l) (grd u a c d)<=mv:=by
  rw[hmv,hmost]
  simp only
  split<;>omega
 -- the two last calls
 have q1:H4 l (bxL l).1 (bxL l).2.1 (if 6*oa3 (bxL l).1 (bxL l).2.1<(Y2 l).1 then 6*oa3 (bxL l).1 (bxL l).2.1 else (Y2 l).1)=true:=by
  rw[Ub4 _ _ _ _ (by omega)]
  have e1:jb0 (bxL l) (bxL l).1=(bxL l).1:=by unfold jb0;refine Qlat ?_ ?_ ?_<;>simp only<;>split<;>omega
  have e2:Aa4 (bxL l) (bxL l).2.1=(bxL l).2.1:=by unfold Aa4;refine Qlat ?_ ?_ ?_<;>simp only<;>split<;>omega
  refine decide_eq_true ?_;unfold Aa5;rw[if_pos e0,e1,e2,t1,hW3];exact⟨rfl,rfl⟩
 obtain⟨mo,hmo,mo0,mo3⟩:∃mo:Int,Sa1 u.x 3=mo/\0<=mo/\mo<3:=by
  rw[re9 _ (by omega) (by omega)]
  exact⟨_,rfl,Int.emod_nonneg _ (by omega),Int.emod_lt_of_pos _ (by omega)⟩
 have hsub:D1 (bxL l).1 ⟨mo,1,0⟩=⟨(bxL l).1.x-mo,(bxL l).1.y-1,(bxL l).1.z-0⟩:=by
  unfold D1;rw[I6 (by simp only;omega) (by simp only;omega),I6 (by simp only;omega) (by simp only;omega),I6 (by simp only;omega) (by simp only;omega)]
 have hadd2:pa1 (bxL l).2.1 ⟨0,2,1⟩=⟨(bxL l).2.1.x+0,(bxL l).2.1.y+2,(bxL l).2.1.z+1⟩:=by
  unfold pa1;rw[I6 (by simp only;omega) (by simp only;omega),I6 (by simp only;omega) (by simp only;omega),I6 (by simp only;omega) (by simp only;omega)]
 have q2:H4 l ⟨(bxL l).1.x-mo,(bxL l).1.y-1,(bxL l).1.z-0⟩ ⟨(bxL l).2.1.x+0,(bxL l).2.1.y+2,(bxL l).2.1.z+1⟩ (Y2 l).1=true:=by
  rw[Ub4 _ _ _ _ (by omega)]
  have e1:jb0 (bxL l) ⟨(bxL l).1.x-mo,(bxL l).1.y-1,(bxL l).1.z-0⟩=(bxL l).1:=by unfold jb0;refine Qlat ?_ ?_ ?_<;>simp only<;>split<;>omega
  have e2:Aa4 (bxL l) ⟨(bxL l).2.1.x+0,(bxL l).2.1.y+2,(bxL l).2.1.z+1⟩=(bxL l).2.1:=by unfold Aa4;refine Qlat ?_ ?_ ?_<;>simp only<;>split<;>omega
  refine decide_eq_true ?_;unfold Aa5;rw[if_pos e0,e1,e2,t1,hW3,if_neg (by omega)]
  exact⟨rfl,rfl⟩
 have q1g:∀y z n,S8 l y z n=true:=λy z n=>Bd1 _ _ _ _ (by omega)
 have gmod:Sa2 u.x 3=true:=se0 _ (by omega) (by omega)
 have hv:∀x y z,o3 x y z=⟨x,y,z⟩:=λ_ _ _=>rfl
 have z1:((Y2 l).2 != 0)=false:=by rw[e0];rfl
 have z2:decide (mv<0)=false:=decide_eq_false (by omega)
 have z3:decide (mv>(Y2 l).1)=false:=decide_eq_false (by omega)
 have z4:decide (mv>6*oa3 u ⟨u.x+a,u.y+c,u.z+d⟩)=false:=decide_eq_false (by omega)
 have z5:decide (6*ia1 (F0 l) (grd u a c d)<=mv)=true:=decide_eq_true (by omega)
 rw[hmv0] at pm hlp;unfold aa9;simp only[td3,td4,q9,oa7,m9,hp,hgp,hu,hv,ha,hcc,hd,hadd,s6,s6g,f0,f1,pm,gm,pb,gb,v1,td1,hW1,hlp,hW4,b1,t1,hW3,hmo,gmod,hsub,hadd2,q1,q2,q1g,z1,z2,z3,z4,z5];rfl
theorem ce4(x:List Int)(y:V3)(z:B3)(hz:(0<=z.b0/\z.b0<=255)/\(0<=z.b1/\z.b1<=255)/\0<=z.b2/\z.b2<=255):ja8 x y z=true:=by unfold ja8;rw[Cc8 x y z hz];rfl
theorem ce5(x:List Int)(y:V3)(z:B3)(hz:(0<=z.b0/\z.b0<=255)/\(0<=z.b1/\z.b1<=255)/\0<=z.b2/\z.b2<=255):ja9 x y z=true:=by unfold ja9;rw[Cc8 x y z hz];rfl
end Go.Ev.Ce
namespace Go.Ev.Ce
open Go Go.Ev Go.Ev.L Go.ChangeShapes Go.RowKit
theorem Ld2(g:Nat->Int)(h:∀c,c<3->0<=g c/\g c<=255):∃a,Rdg (W9 tW) (.agg (fa5 .u8 3 g)) a/\(0<=a.b0/\a.b0<=255)/\(0<=a.b1/\a.b1<=255)/\0<=a.b2/\a.b2<=255 :=
 ⟨⟨g 0,g 1,g 2⟩,⟨rfl,rfl⟩,h 0 (by omega),h 1 (by omega),h 2 (by omega)⟩
theorem qe1 {D : Type} {enc : TypeId × Value → D} {P : Program} {w : World} {base : Nat} {spare : Nat → Bool} {held : Bool} {ρ : Rho} {H : List c8} {F : Fz} {t e : TypeId} {d : Nat} {v : Value} {dd : DataW D} {pp : List MemPlace} {bs : Nat} {r : Reach}
  (ht:P.underlying t=some (.array 3 e)) (he:P.underlying e=some (.int .u8)) (hts:P.cellTypes P.depth t=some [e,e,e]) (hf:S9 P d t=some (ya4 .u8 3)) (hes:P.cellsOf t=3)
  (hok:Value.okWide P w r bs t v) (h:DataW.Trod enc P w base spare held t v dd pp):∃g:Nat->Int,(∀c,c<3->0<=g c/\g c<=255)/\W8 ρ H F w (.agg (fa5 .u8 3 g)) v:=by
 obtain⟨g,hv⟩:=Ad9 (ρ:=ρ) (H:=H) (F:=F) (by simp[agT,ht]) hf hes hok h
 refine⟨g,λc hc=>?_,hv⟩
 obtain⟨vs,e0,hl,hr⟩:=oa0 (.val hv);subst e0;have hlen:vs.size=3:=by rw[<- hl];simp[fa5]
 have hc':c<vs.size:=by omega
 have hg:(fa5 .u8 3 g)[c]?=some (.v (.int .u8 (g c))):=by
  unfold fa5;rw[List.getElem?_map,List.getElem?_range hc];rfl
 have hx:=Y3 (.val (.cell (hr c _ _ hg (Qlam hc'))));unfold Value.okWide at hok;rw[ht] at hok;obtain⟨cs,e1,hsz,ts,h1,h2,h3⟩:=hok;injection e1 with e1;subst e1;rw[hts] at h1;injection h1 with h1;subst h1;obtain⟨u,hu,hcell⟩:=h3 c _ (Qlam hc');rw[hx] at hcell;have hue:u=e:=by
  have:c=0\/c=1\/c=2:=by omega
  rcases this with rfl|rfl|rfl<;>simpa using hu.symm
 subst hue;simp only[Cell.okWide,Cell.ok,he] at hcell
 have:=hcell.2
 simp only[IntKind.has,IntKind.min,IntKind.max,IntKind.bits,IntKind.signed] at this
 simp at this
 omega
end Go.Ev.Ce
