/- Own work. -/
import Derived.Test.YtkfaiccnekeklaaGreatEvOcV4
import Derived.ChangeStays
import Derived.ChangeSame
import Derived.OpenShut
import Derived.RowKit
set_option linter.all false
def Qla:=@Classical.byContradiction
def Qlb:=@Nat.lt_irrefl
def Qlc:=@List.mem_cons
def Qld:=@Nat.zero_le
def Qle:=@List.length_filter_le
def Qlf:=@Nat.mul_le_mul_right
def Qlg:=@List.getElem?_eq_getElem
def Qlh:=@List.length_take_le
def Qli:=@Int.mul_nonneg
def Qlj:=@List.take_length
def Qlk:=@Int.mul_zero
def Qll:=@Int.mul_eq_zero
def Qlm:=@Option.bind_eq_some_iff
def Qln:=@Int.le_refl
def Qlo:=@Int.add_zero
def Qlp:=@List.all_eq_true
def Qlq:=@List.mem_of_mem_take
def Qlr:=@Int.mul_pos
def Qls:=@List.mem_filter
def Qlt:=@List.length_append
def Qlu:=@Bool.not_eq_true'
def Qlv:=@List.not_mem_nil
def Qlw:=@List.filter_cons
def Qlx:=@Int.mul_le_mul_of_nonneg_right
def Qly:=@List.append_nil
def Qlz:=@Nat.zero_add
def Qlaa:=@List.getElem?_range
def Qlab:=@Int.mul_neg_of_pos_of_neg
def Qlac:=@Nat.le_trans
def Qlad:=@List.length_take
def Qlae:=@Bool.and_eq_true
def Qlaf:=@Int.mul_neg
def Qlag:=@Option.map_eq_some_iff
namespace Go.Ev.Ce
open Go Go.Ev Go.Ev.L Go.Proofs
structure Pol(X:List V3):Prop where
 iv:X.all inV=true
 sol:Sol X
 nd:X.Nodup
 ex:∀v∈X,∃m,Hi X v m
def onF(p:Pln)(X:List V3):List V3:=X.filter λv=>decide (dot p.n v=p.b)
theorem P6{p:Pln}{X:List V3}{v:V3}:v∈onF p X↔v∈X/\dot p.n v=p.b:=by unfold onF;rw[Qls,decide_eq_true_eq]
theorem af9(x:Int):0<=x*x:=by rw[<- Int.natAbs_mul_self];exact Int.natCast_nonneg _
theorem Yc1{α:Type}(s h:α->Int):∀l:List α,l≠[]->(∀x∈l,0<h x)->∃x∈l,∀y∈l,s x*h y<=s y*h x
 |[],hn,_=>absurd rfl hn
 |[x],_,_=>⟨x,by simp,λy hy=>by rw[List.mem_singleton.1 hy];exact Qln _⟩
 |x::y::l,_,hp=>by
  obtain⟨z,hz,hm⟩:=Yc1 s h (y::l) (by simp) λa ha=>hp a (by simp only[Qlc] at ha ⊢;exact .inr ha)
  have px:=hp x (by simp)
  have pz:=hp z (by simp only[Qlc] at hz ⊢;exact .inr hz)
  by_cases hc:s z*h x<=s x*h z
  ·refine⟨z,by simp only[Qlc] at hz ⊢;exact .inr hz,λa ha=>?_⟩
   rcases Qlc.1 ha with rfl|ha
   ·exact hc
   ·exact hm a ha
  ·refine⟨x,by simp,λa ha=>?_⟩
   rcases Qlc.1 ha with rfl|ha
   ·exact Qln _
   ·have h1:=hm a ha;have pa:=hp a (by simp only[Qlc] at ha ⊢;exact .inr ha)
    have k1:s x*h z*h a<=s z*h x*h a:=Qlx (by omega) (by omega)
    have k2:s z*h a*h x<=s a*h z*h x:=Qlx h1 (by omega)
    have k3:h z*(s x*h a)<=h z*(s a*h x):=by grind
    exact Int.le_of_mul_le_mul_left k3 pz
section
variable{X:List V3}(hX:Pol X)
include hX
theorem Pol.lens{p:Pln}(hp:Qa7 X p):3<=(onF p X).length:=by
 obtain⟨u,w,x,hu,hw,hx,h3,e1,e2,e3⟩:=hp.on;have n1:u≠w:=λe=>h3 (by subst e;refine V3.ext' ?_ ?_ ?_<;>simp only[N3,c7,e8]<;>grind)
 have n2:u≠x:=λe=>h3 (by subst e;refine V3.ext' ?_ ?_ ?_<;>simp only[N3,c7,e8]<;>grind)
 have n3:w≠x:=λe=>h3 (by subst e;refine V3.ext' ?_ ?_ ?_<;>simp only[N3,c7,e8]<;>grind)
 have hnd:[u,w,x].Nodup:=by simp[n1,n2,n3]
 exact List.Nodup.length_le_of_subset hnd λv hv=>by
  simp only[Qlc,Qlv,or_false] at hv
  rcases hv with rfl|rfl|rfl
  ·exact P6.2 ⟨hu,e1⟩
  ·exact P6.2 ⟨hw,e2⟩
  ·exact P6.2 ⟨hx,e3⟩
theorem Pol.rim{p:Pln}(hp:Qa7 X p):Rim X (onF p X) p.n p.b :=
 ⟨ob5 hp.ok,hX.ex,λc hc=>P6.1 hc,hX.nd.filter _,by have:=hX.lens hp;omega⟩
theorem Pol.third{p:Pln}(hp:Qa7 X p)(a c:V3):∃v∈onF p X,v≠a/\v≠c:=by
 apply Qla;intro hno
 have:(onF p X).length<=[a,c].length:=List.Nodup.length_le_of_subset (hX.nd.filter _) λv hv=>by
  simp only[Qlc,Qlv,or_false];apply Qla;intro hne;exact hno ⟨v,hv,λe=>hne (.inl e),λe=>hne (.inr e)⟩
 have:=hX.lens hp
 simp only[List.length_cons,List.length_nil] at *
 omega
theorem Pol.uni{p q:Pln}(hp:Qa7 X p)(hq:Qa7 X q){a c:V3}(e1:Edg (onF p X) p.n a c)(e2:Edg (onF q X) q.n a c):p=q:=by
 obtain⟨b1,hb1,ba1,bc1⟩:=hX.third hp a c;obtain⟨b2,hb2,ba2,bc2⟩:=hX.third hq a c;have s1:=e1.2.2.2 b1 hb1 ba1 bc1;have s2:=e2.2.2.2 b2 hb2 ba2 bc2;have pa:=(P6.1 e1.1).2;have pc:=(P6.1 e1.2.1).2;have qa:=(P6.1 e2.1).2;have qc:=(P6.1 e2.2.1).2;obtain⟨x1,p1⟩:=P6.1 hb1;obtain⟨x2,q2⟩:=P6.1 hb2;have c1:=λe=>xa1 (d:=e) (Aa6 (n:=p.n) (a:=e8 c a) (c:=e8 b1 a) (by rw[Da5];omega) (by rw[Da5];omega))
 have c2:=λe=>xa1 (d:=e) (Aa6 (n:=q.n) (a:=e8 c a) (c:=e8 b2 a) (by rw[Da5];omega) (by rw[Da5];omega))
 have t1:0<dot p.n (c7 (e8 c a) (e8 b1 a)):=s1;have t2:0<dot q.n (c7 (e8 c a) (e8 b2 a)):=s2;have hd1:=hp.hd b2 x2;by_cases hon:dot p.n b2=p.b
 ·-- both planes go through the same Kb4 corners
  have s3:0<dot p.n (c7 (e8 c a) (e8 b2 a)):=e1.2.2.2 b2 (P6.2 ⟨x2,hon⟩) ba2 bc2;have hN:(c7 (e8 c a) (e8 b2 a):V3)≠⟨0,0,0⟩:=λe=>by rw[e] at t2;simp[dot] at t2
  have c3:=λe=>xa1 (d:=e) (Aa6 (n:=p.n) (a:=e8 c a) (c:=e8 b2 a) (by rw[Da5];omega) (by rw[Da5];omega))
  generalize c7 (e8 c a) (e8 b2 a)=N at *
  have hNN:=ma7 hN;have par:c7 p.n q.n=⟨0,0,0⟩:=by
   have d1:∀v:V3,dot v ⟨1,0,0⟩=v.x:=λv=>by simp[dot]
   have d2:∀v:V3,dot v ⟨0,1,0⟩=v.y:=λv=>by simp[dot]
   have d3:∀v:V3,dot v ⟨0,0,1⟩=v.z:=λv=>by simp[dot]
   have a1:=c3 ⟨1,0,0⟩;have a2:=c3 ⟨0,1,0⟩;have a3:=c3 ⟨0,0,1⟩;have f1:=c2 ⟨1,0,0⟩;have f2:=c2 ⟨0,1,0⟩;have f3:=c2 ⟨0,0,1⟩;rw[d1,d1] at a1 f1;rw[d2,d2] at a2 f2;rw[d3,d3] at a3 f3;have z:∀{t:Int},dot N N*t=0->t=0:=λe=>(Qll.1 e).resolve_left (by omega)
   generalize dot N N=m at *
   generalize dot p.n N=x at *
   generalize dot q.n N=y at *
   refine V3.ext' (z (z ?_)) (z (z ?_)) (z (z ?_))
   ·have:m*(m*(c7 p.n q.n).x)=(m*p.n.y)*(m*q.n.z)-(m*p.n.z)*(m*q.n.y):=by simp only[c7];grind
    rw[this,a2,a3,f2,f3];grind
   ·have:m*(m*(c7 p.n q.n).y)=(m*p.n.z)*(m*q.n.x)-(m*p.n.x)*(m*q.n.z):=by simp only[c7];grind
    rw[this,a1,a3,f1,f3];grind
   ·have:m*(m*(c7 p.n q.n).z)=(m*p.n.x)*(m*q.n.y)-(m*p.n.y)*(m*q.n.x):=by simp only[c7];grind
    rw[this,a1,a2,f1,f2];grind
  have hn:q.n=p.n:=by
   rcases Gd8 (Uc4 hp.ok) (Uc4 hq.ok) par with e|e
   ·exact e
   ·rw[e] at t2
    have:dot (neg p.n) N=-dot p.n N:=by simp only[dot,neg];grind
    omega
  have hb:q.b=p.b:=by rw[<- qa,hn,pa]
  cases p;cases q
  simp only at hn hb
  rw[hn,hb]
 ·exfalso;have k1:=c1 (e8 b2 a);have h1:dot p.n (e8 b2 a)<0:=by rw[Da5];omega
  have hN1:0<dot (c7 (e8 c a) (e8 b1 a)) (c7 (e8 c a) (e8 b1 a)):=ma7 λe=>by rw[e] at t1;simp[dot] at t1
  have m1:=Qlab hN1 h1;have r1:dot (c7 (e8 c a) (e8 b1 a)) (e8 b2 a)<0:=by
   apply Qla;intro hno
   have:=Qli (show 0<=dot p.n (c7 (e8 c a) (e8 b1 a)) by omega) (show 0<=dot (c7 (e8 c a) (e8 b1 a)) (e8 b2 a) by omega)
   omega
  have k2:=c2 (e8 b1 a);have h2:dot q.n (e8 b1 a)<=0:=by rw[Da5];have:=hq.hd b1 x1;omega
  have hN2:0<dot (c7 (e8 c a) (e8 b2 a)) (c7 (e8 c a) (e8 b2 a)):=ma7 λe=>by rw[e] at t2;simp[dot] at t2
  have m2:=Qli (show 0<=dot (c7 (e8 c a) (e8 b2 a)) (c7 (e8 c a) (e8 b2 a)) by omega) (show 0<=-dot q.n (e8 b1 a) by omega)
  rw[Qlaf] at m2;have e3:dot (c7 (e8 c a) (e8 b2 a)) (e8 b1 a)=-dot (c7 (e8 c a) (e8 b1 a)) (e8 b2 a):=by simp only[dot,c7,e8];grind
  have m3:=Qlr t2 (show 0<dot (c7 (e8 c a) (e8 b2 a)) (e8 b1 a) by omega)
  omega
end
section
variable{X:List V3}(hX:Pol X)
include hX
theorem Pol.rev{p:Pln}(hp:Qa7 X p){a c:V3}(he:Edg (onF p X) p.n a c):∃q,Qa7 X q/\Edg (onF q X) q.n c a:=by
 obtain⟨xa,pa⟩:=P6.1 he.1;obtain⟨xc,pc⟩:=P6.1 he.2.1;obtain⟨b1,hb1,ba1,bc1⟩:=hX.third hp a c;obtain⟨xb,pb⟩:=P6.1 hb1;have sb:=he.2.2.2 b1 hb1 ba1 bc1
 -- the points off the plane
 obtain⟨v0,hv0,hne⟩:=hX.sol.off (ob5 hp.ok) p.b;have hle:=hp.hd;have hY:X.filter (λv=>decide (dot p.n v<p.b))≠[]:=λe=>by
  have:v0∈X.filter (λv=>decide (dot p.n v<p.b)):=Qls.2 ⟨hv0,decide_eq_true (by have:=hle v0 hv0;omega)⟩
  rw[e] at this;cases this
 obtain⟨z,hz,hmin⟩:=Yc1 (λv=>orp p.n a c v) (λv=>p.b-dot p.n v) _ hY λv hv=>by
  have:=of_decide_eq_true (Qls.1 hv).2
  omega
 obtain⟨xz,hz'⟩:=Qls.1 hz;have hzb:=of_decide_eq_true hz';have hmin':∀v∈X,dot p.n v<p.b->orp p.n a c z*(p.b-dot p.n v)<=orp p.n a c v*(p.b-dot p.n z):=λv hv hlt=>hmin v (Qls.2 ⟨hv,decide_eq_true hlt⟩)
 clear hmin
 obtain⟨S,hS⟩:∃S,S=orp p.n a c z:=⟨_,rfl⟩;obtain⟨H,hH⟩:∃H,H=p.b-dot p.n z:=⟨_,rfl⟩;rw[<- hS,<- hH] at hmin';have hH0:0<H:=by omega
 -- how far a point Ye0 within,and below
 have hs0:∀v∈X,dot p.n v=p.b->0<=orp p.n a c v:=λv hv on=>by
  by_cases e1:v=a
  ·rw[e1,Vd8];exact Qln _
  ·by_cases e2:v=c
   ·rw[e2,wd2];exact Qln _
   ·have:=he.2.2.2 v (P6.2 ⟨hv,on⟩) e1 e2;omega
 obtain⟨u,hu⟩:∃u:V3,u=c7 p.n (e8 c a):=⟨_,rfl⟩;obtain⟨m,hm⟩:∃m:V3,m=⟨-(H*u.x)-S*p.n.x,-(H*u.y)-S*p.n.y,-(H*u.z)-S*p.n.z⟩:=⟨_,rfl⟩;have hsv:∀v,orp p.n a c v=dot u (e8 v a):=λv=>by rw[hu];simp only[orp,crs,dot,c7,e8];grind
 have hmv:∀v,dot m v-dot m a=-(H*orp p.n a c v)+S*(p.b-dot p.n v):=λv=>by
  rw[hsv,hm,<- pa];simp only[dot,e8];grind
 have hma:∀v∈X,dot m v<=dot m a:=λv hv=>by
  have e:=hmv v;by_cases hlt:dot p.n v<p.b
  ·have:=hmin' v hv hlt
   have:orp p.n a c v*H=H*orp p.n a c v:=Int.mul_comm _ _
   omega
  ·have on:dot p.n v=p.b:=by have:=hle v hv;omega
   have:=Qli (show 0<=H by omega) (hs0 v hv on)
   rw[show p.b-dot p.n v=0 by omega,Qlk] at e
   omega
 have hmc:dot m c=dot m a:=by
  have e:=hmv c;rw[wd2,Qlk,show p.b-dot p.n c=0 by omega,Qlk] at e
  omega
 have hmz:dot m z=dot m a:=by
  have e:=hmv z;rw[<- hS,<- hH,Int.mul_comm H S] at e;omega
 have hmb:dot m b1<dot m a:=by
  have e:=hmv b1
  have:=Qlr hH0 sb
  rw[show p.b-dot p.n b1=0 by omega,Qlk] at e
  omega
 have hdne:e8 c a≠⟨0,0,0⟩:=λe=>he.2.2.1 (by
  simp only[e8,V3.mk.injEq] at e;obtain⟨k1,k2,k3⟩:=e;exact V3.ext' (by omega) (by omega) (by omega))
 have hdd:=ma7 hdne;have hN3:N3 a c z≠⟨0,0,0⟩:=λe=>by
  have:=xc6 (m:=e8 c a) (show c7 (e8 c a) (e8 z a)=⟨0,0,0⟩ from e) p.n
  rw[Da5 p.n c a,show dot p.n c-dot p.n a=0 by omega,Qlk,Da5 p.n z a] at this
  have:=(Qll.1 this.symm).resolve_left (by omega)
  omega
 obtain⟨q,hq,qa,qc,qz⟩:=vd8 hX.iv (n:=m) xa xc xz hN3 hma hmc hmz ⟨b1,xb,by omega⟩
 -- the plane's normal Ye0 along m
 have hmne:m≠⟨0,0,0⟩:=λe=>by rw[e] at hmb;simp[dot] at hmb
 have hmm:=ma7 hmne;have hpar:c7 q.n m=⟨0,0,0⟩:=by
  have k1:c7 q.n (N3 a c z)=⟨0,0,0⟩:=Aa6 (by rw[Da5];omega) (by rw[Da5];omega)
  have k2:c7 m (N3 a c z)=⟨0,0,0⟩:=Aa6 (by rw[Da5];omega) (by rw[Da5];omega)
  have c1:=λe=>xa1 (d:=e) k1
  have c2:=λe=>xa1 (d:=e) k2
  have hNN:=ma7 hN3;generalize N3 a c z=N at *
  have d1:∀v:V3,dot v ⟨1,0,0⟩=v.x:=λv=>by simp[dot]
  have d2:∀v:V3,dot v ⟨0,1,0⟩=v.y:=λv=>by simp[dot]
  have d3:∀v:V3,dot v ⟨0,0,1⟩=v.z:=λv=>by simp[dot]
  have a1:=c1 ⟨1,0,0⟩;have a2:=c1 ⟨0,1,0⟩;have a3:=c1 ⟨0,0,1⟩;have f1:=c2 ⟨1,0,0⟩;have f2:=c2 ⟨0,1,0⟩;have f3:=c2 ⟨0,0,1⟩;rw[d1,d1] at a1 f1;rw[d2,d2] at a2 f2;rw[d3,d3] at a3 f3;have w:∀{t:Int},dot N N*t=0->t=0:=λe=>(Qll.1 e).resolve_left (by omega)
  clear hmv hm hu hsv
  generalize dot N N=g at *
  generalize dot q.n N=x at *
  generalize dot m N=y at *
  refine V3.ext' (w (w ?_)) (w (w ?_)) (w (w ?_))
  ·have:g*(g*(c7 q.n m).x)=(g*q.n.y)*(g*m.z)-(g*q.n.z)*(g*m.y):=by simp only[c7];grind
   rw[this,a2,a3,f2,f3];grind
  ·have:g*(g*(c7 q.n m).y)=(g*q.n.z)*(g*m.x)-(g*q.n.x)*(g*m.z):=by simp only[c7];grind
   rw[this,a1,a3,f1,f3];grind
  ·have:g*(g*(c7 q.n m).z)=(g*q.n.x)*(g*m.y)-(g*q.n.y)*(g*m.x):=by simp only[c7];grind
   rw[this,a1,a2,f1,f2];grind
 have hq2:=λe=>xa1 (d:=e) hpar
 have hk:0<dot q.n m:=by
  have e:=hq2 (e8 b1 a);rw[Da5,Da5] at e;have h1:dot q.n b1-dot q.n a<=0:=by have:=hq.hd b1 xb;omega
  apply Qla;intro hno;have t1:=Qli (show 0<=dot m m by omega) (show 0<=-(dot q.n b1-dot q.n a) by omega)
  rw[Qlaf] at t1;have t2:=Qli (show 0<=-dot q.n m by omega) (show 0<=-(dot m b1-dot m a) by omega)
  rw[Int.neg_mul_neg] at t2;have t3:dot q.n m*(dot m b1-dot m a)=0:=by omega
  rcases Qll.1 t3 with t3|t3
  ·have e':=hq2 q.n;rw[t3,Int.zero_mul] at e'
   have:=ma7 (ob5 hq.ok)
   rcases Qll.1 e' with r|r<;>omega
  ·omega
 refine⟨q,hq,P6.2 ⟨xc,qc⟩,P6.2 ⟨xa,qa⟩,Ne.symm he.2.2.1,λv hv n1 n2=>?_⟩
 obtain⟨xv,qv⟩:=P6.1 hv;have e:=hq2 (c7 (e8 a c) (e8 v c))
 -- how the Kb4 points turn,seen along m
 have em:H*dot m (c7 (e8 a c) (e8 v c))=(p.b-dot p.n v)*(H*H*dot (e8 c a) (e8 c a)+S*S):=by
  have mv:dot m v=dot m a:=by
   have e':=hq2 (e8 v a);rw[Da5,Da5,show dot q.n v-dot q.n a=0 by omega,Qlk] at e'
   have:=(Qll.1 e'.symm).resolve_left (by omega)
   omega
  have r1:H*orp p.n a c v=S*(p.b-dot p.n v):=by have:=hmv v;omega
  have r2:dot m (c7 (e8 a c) (e8 v c))=H*((p.b-dot p.n v)*dot (e8 c a) (e8 c a))+S*orp p.n a c v:=by
   have nd:dot p.n (e8 c a)=0:=by rw[Da5];omega
   have r3:dot m (c7 (e8 a c) (e8 v c))=H*(dot p.n (e8 c a)*dot (e8 c a) (e8 v a))-H*(dot p.n (e8 v a)*dot (e8 c a) (e8 c a))+S*orp p.n a c v:=by
    have q1:dot u (c7 (e8 c a) (e8 v a))=dot p.n (e8 c a)*dot (e8 c a) (e8 v a)-dot p.n (e8 v a)*dot (e8 c a) (e8 c a):=by rw[hu];simp only[dot,c7];grind
    have q2:c7 (e8 a c) (e8 v c)=⟨-(c7 (e8 c a) (e8 v a)).x,-(c7 (e8 c a) (e8 v a)).y,-(c7 (e8 c a) (e8 v a)).z⟩:=by refine V3.ext' ?_ ?_ ?_<;>simp only[c7,e8]<;>grind
    have q3:orp p.n a c v=dot p.n (c7 (e8 c a) (e8 v a)):=rfl;rw[q2,q3];have q4:dot m ⟨-(c7 (e8 c a) (e8 v a)).x,-(c7 (e8 c a) (e8 v a)).y,-(c7 (e8 c a) (e8 v a)).z⟩=H*dot u (c7 (e8 c a) (e8 v a))+S*dot p.n (c7 (e8 c a) (e8 v a)):=by
     rw[hm];generalize c7 (e8 c a) (e8 v a)=w;simp only[dot];grind
    rw[q4,q1]
    grind
   rw[r3,nd,Int.zero_mul,Qlk,Da5 p.n v a,show dot p.n v-dot p.n a=-(p.b-dot p.n v) by omega]
   grind
  rw[r2];generalize dot (e8 c a) (e8 c a)=D at *
  generalize orp p.n a c v=s at *
  generalize p.b-dot p.n v=t at *
  grind
 have hpos:0<H*H*dot (e8 c a) (e8 c a)+S*S:=by
  have:=Qlr (Qlr hH0 hH0) hdd
  have:=af9 S
  omega
 have hv0':0<p.b-dot p.n v:=by
  apply Qla;intro hno;have on:dot p.n v=p.b:=by have:=hle v xv;omega
  have s1:=he.2.2.2 v (P6.2 ⟨xv,on⟩) n2 n1;have e':=hq2 (e8 v a);rw[Da5,Da5,show dot q.n v-dot q.n a=0 by omega,Qlk] at e'
  have mv:=(Qll.1 e'.symm).resolve_left (by omega)
  have e2:=hmv v;rw[show p.b-dot p.n v=0 by omega,Qlk] at e2
  have:=Qlr hH0 s1
  omega
 have t1:=Qlr hv0' hpos;rw[<- em] at t1;have t2:0<dot m (c7 (e8 a c) (e8 v c)):=by
  apply Qla;intro hno
  have:=Qli (show 0<=H by omega) (show 0<=-dot m (c7 (e8 a c) (e8 v c)) by omega)
  rw[Qlaf] at this;omega
 have t3:=Qlr hk t2;rw[<- e] at t3;show 0<dot q.n (c7 (e8 a c) (e8 v c));apply Qla;intro hno
 have:=Qli (show 0<=dot m m by omega) (show 0<=-dot q.n (c7 (e8 a c) (e8 v c)) by omega)
 rw[Qlaf] at this;omega
end
open Classical in
noncomputable def atE(X:List V3)(p:Pln)(a c:V3)(t:Int):Int:=if Edg (onF p X) p.n a c then t else 0
def ptF(p:Pln)(X:List V3):V3:=(onF p X).headD ⟨0,0,0⟩
noncomputable def V6(X:List V3)(o:V3):Int:=sig (F0 X) λp=>AR (onF p X) p.n (e8 (ptF p X) o)
section
variable{X:List V3}(hX:Pol X)
include hX
theorem Pol.mem{p:Pln}:p∈F0 X↔Qa7 X p:=N6 hX.iv p
omit hX in
theorem kf4(X:List V3):(F0 X).Nodup:=wc4 (wc3 X)
theorem Pol.pt{p:Pln}(hp:Qa7 X p):ptF p X∈onF p X:=by
 have:=hX.lens hp
 unfold ptF;cases h:onF p X with
 |nil=>rw[h] at this;simp at this
 |cons a l=>simp
theorem Pol.edges{p:Pln}(hp:Qa7 X p)(f:V3->V3->Int):sig X (λa=>sig X (λc=>atE X p a c (f a c)))=sig (onF p X) (λa=>f a (nxt (onF p X) p.n a)):=by
 rw[<- (hX.rim hp).sum_edges f];unfold onF;rw[Db7];refine T9 λa ha=>?_
 split
 ·rw[Db7];refine T9 λc hc=>?_
  split
  ·rfl
  ·rename_i hn;unfold atE;rw[if_neg λhe=>hn (decide_eq_true (P6.1 he.2.1).2)]
 ·rename_i hn;refine Xa2 λc _=>?_
  unfold atE;rw[if_neg λhe=>hn (decide_eq_true (P6.1 he.1).2)]
theorem Pol.anti(f:V3->V3->Int)(hf:∀a c,f a c=-f c a):sig (F0 X) (λp=>sig X (λa=>sig X (λc=>atE X p a c (f a c))))=0:=by
 rw[pc3];have e:sig X (λa=>sig (F0 X) (λp=>sig X (λc=>atE X p a c (f a c))))=sig X (λa=>sig X (λc=>sig (F0 X) (λp=>atE X p a c (f a c)))):=T9 λa _=>pc3 _ _ _
 rw[e];have one:∀a c t,(∃p,p∈F0 X/\Edg (onF p X) p.n a c)->sig (F0 X) (λp=>atE X p a c t)=t:=λa c t ⟨p,hp,he⟩=>by
  rw[ec5 (kf4 X) hp λq hq hne=>?_]
  ·unfold atE;rw[if_pos he]
  ·unfold atE;rw[if_neg λhe'=>hne (hX.uni (hX.mem.1 hq) (hX.mem.1 hp) he' he)]
 have none:∀a c t,¬ (∃p,p∈F0 X/\Edg (onF p X) p.n a c)->sig (F0 X) (λp=>atE X p a c t)=0:=λa c t hn=>Xa2 λp hp=>by
  unfold atE;rw[if_neg λhe=>hn ⟨p,hp,he⟩]
 have turn:∀a c,(∃p,p∈F0 X/\Edg (onF p X) p.n a c)->∃p,p∈F0 X/\Edg (onF p X) p.n c a:=λa c ⟨p,hp,he⟩=>by
  obtain⟨q,hq,h⟩:=hX.rev (hX.mem.1 hp) he;exact⟨q,hX.mem.2 hq,h⟩
 refine Ae1 λa _ c _=>?_
 by_cases h:∃p,p∈F0 X/\Edg (onF p X) p.n a c
 ·rw[one a c _ h,one c a _ (turn a c h)];exact hf a c
 ·rw[none a c _ h,none c a _ λk=>h (turn c a k)]
  rfl
theorem Pol.closed(w:V3):sig (F0 X) (λp=>AR (onF p X) p.n w)=0:=by
 rw[<- hX.anti (λa c=>dot (c7 a c) w) λa c=>by simp only[dot,c7];grind]
 refine T9 λp hp=>?_
 rw[hX.edges (hX.mem.1 hp)];rfl
theorem Pol.from'(o:V3):V6 X o=sig (F0 X) λp=>AR (onF p X) p.n (ptF p X):=by
 unfold V6;have e:sig (F0 X) (λp=>AR (onF p X) p.n (e8 (ptF p X) o))=sig (F0 X) (λp=>AR (onF p X) p.n (ptF p X)-AR (onF p X) p.n o):=T9 λp _=>Be1 _ _ _ _
 rw[e,pc2,hX.closed o,Int.sub_zero]
theorem Pol.any(o o':V3):V6 X o=V6 X o':=by rw[hX.from',hX.from']
theorem Pol.cone{p:Pln}(hp:Qa7 X p)(o:V3):(dot p.n o<p.b->0<AR (onF p X) p.n (e8 (ptF p X) o))/\(dot p.n o=p.b->AR (onF p X) p.n (e8 (ptF p X) o)=0)/\(p.b<dot p.n o->AR (onF p X) p.n (e8 (ptF p X) o)<0) :=
 (hX.rim hp).cone (hX.lens hp) (P6.1 (hX.pt hp)).2 o
theorem Pol.pos:0<V6 X ⟨0,0,0⟩:=by
 obtain⟨o,ho⟩:=hX.sol.ne;rw[hX.any _ o]
 -- some facet does not have this corner
 have nn:∀p∈F0 X,0<=AR (onF p X) p.n (e8 (ptF p X) o):=λp hp=>by
  have h:=hX.mem.1 hp;obtain⟨k1,k2,_⟩:=hX.cone h o
  have:=h.hd o ho
  by_cases e:dot p.n o=p.b
  ·rw[k2 e];exact Qln _
  ·have:=k1 (by omega);omega
 have hx:∃p∈F0 X,dot p.n o<p.b:=by
  apply Qla;intro hno;have hall:∀p∈F0 X,dot p.n o=p.b:=λp hp=>by
   have:=(hX.mem.1 hp).hd o ho
   apply Qla;intro hne;exact hno ⟨p,hp,by omega⟩
  have hz:V6 X o=0:=Xa2 λp hp=>(hX.cone (hX.mem.1 hp) o).2.1 (hall p hp)
  -- take another corner: all cones from there count nothing either
  have hne:=Re2 hX.iv hX.sol;cases hF:F0 X with
  |nil=>exact hne hF
  |cons p l =>
   have hp:p∈F0 X:=by rw[hF];simp
   have hf:=hX.mem.1 hp;obtain⟨v,hv,hoff⟩:=hX.sol.off (ob5 hf.ok) p.b;have hpos:0<V6 X v:=by
    unfold V6;have nn':∀q∈F0 X,0<=AR (onF q X) q.n (e8 (ptF q X) v):=λq hq=>by
     have h:=hX.mem.1 hq;obtain⟨k1,k2,_⟩:=hX.cone h v
     have:=h.hd v hv
     by_cases e:dot q.n v=q.b
     ·rw[k2 e];exact Qln _
     ·have:=k1 (by omega);omega
    rw[hF,v7];have h1:=(hX.cone hf v).1 (by have:=hf.hd v hv;omega)
    have h2:0<=sig l λq=>AR (onF q X) q.n (e8 (ptF q X) v):=Xc3 λq hq=>nn' q (by rw[hF];simp[hq])
    omega
   rw[hX.any v o,hz] at hpos;omega
 obtain⟨p,hp,hlt⟩:=hx;unfold V6;have hs:∀l:List Pln,(∀q∈l,q∈F0 X)->p∈l->0<sig l λq=>AR (onF q X) q.n (e8 (ptF q X) o):=λl=>by
  induction l with
  |nil=>intro _ h;cases h
  |cons q l ih =>
   intro hl hm;rw[v7];have h1:=nn q (hl q (by simp))
   have h2:0<=sig l λq=>AR (onF q X) q.n (e8 (ptF q X) o):=Xc3 λr hr=>nn r (hl r (by simp[hr]))
   rcases Qlc.1 hm with e|hm
   ·subst e
    have:=(hX.cone (hX.mem.1 hp) o).1 hlt
    omega
   ·have:=ih (λr hr=>hl r (by simp[hr])) hm;omega
 exact hs _ (λq h=>h) hp
end
set_option maxRecDepth 100000
theorem kf5{a c:Nat}{x y:Int}(h1:Sm a x)(h2:Sm c y):Sm ((a*c:Nat):Int) (x*y):=by
 have k1:x.natAbs<=a:=by obtain⟨p,q⟩:=h1;omega
 have k2:y.natAbs<=c:=by obtain⟨p,q⟩:=h2;omega
 have k:(x*y).natAbs<=a*c:=by rw[Int.natAbs_mul];exact Nat.mul_le_mul k1 k2
 constructor<;>omega
def Sm3(n:Int)(v:V3):Prop:=Sm n v.x/\Sm n v.y/\Sm n v.z
theorem Vd9{v:V3}:inV v=true↔Sm3 24 v:=Oa4 v
theorem pc4{u w:V3}(hu:inV u=true)(hw:inV w=true):H7 u w=e8 u w/\Sm3 48 (e8 u w):=by
 obtain⟨⟨a1,a2⟩,⟨a3,a4⟩,a5,a6⟩:=(Oa4 _).1 hu;obtain⟨⟨c1,c2⟩,⟨c3,c4⟩,c5,c6⟩:=(Oa4 _).1 hw;refine⟨?_,⟨by simp only[e8];omega,by simp only[e8];omega⟩,⟨by simp only[e8];omega,by simp only[e8];omega⟩,by simp only[e8];omega,by simp only[e8];omega⟩
 unfold H7 e8;rw[qa7 (by omega) (by omega),qa7 (by omega) (by omega),qa7 (by omega) (by omega)]
theorem Yc2{a c:V3}(ha:Sm3 48 a)(hc:Sm3 48 c):C4 a c=c7 a c/\Sm3 4608 (c7 a c):=by
 have m:∀{x y:Int},Sm 48 x->Sm 48 y->-2304<=x*y/\x*y<=2304:=λh1 h2=>kf5 (a:=48) (c:=48) h1 h2
 obtain⟨a1,a2,a3⟩:=ha;obtain⟨c1,c2,c3⟩:=hc;have p1:=m a2 c3;have p2:=m a3 c2;have p3:=m a3 c1;have p4:=m a1 c3;have p5:=m a1 c2;have p6:=m a2 c1;have hs:Sm3 4608 (c7 a c):=⟨⟨by simp only[c7];omega,by simp only[c7];omega⟩,⟨by simp only[c7];omega,by simp only[c7];omega⟩,by simp only[c7];omega,by simp only[c7];omega⟩
 refine⟨?_,hs⟩;unfold C4;simp only[sd6,Sd6];obtain⟨s1,s2,s3⟩:=hs;show (⟨W (c7 a c).x,W (c7 a c).y,W (c7 a c).z⟩:V3)=c7 a c;rw[sb0 (s1.mono (by omega)),sb0 (s2.mono (by omega)),sb0 (s3.mono (by omega))]
theorem Yc3{a c:V3}(ha:Sm3 4608 a)(hc:Sm3 4608 c):C0 a c=dot a c/\Sm 63700992 (dot a c):=by
 have m:∀{x y:Int},Sm 4608 x->Sm 4608 y->-21233664<=x*y/\x*y<=21233664:=λh1 h2=>kf5 (a:=4608) (c:=4608) h1 h2
 have p1:=m ha.1 hc.1;have p2:=m ha.2.1 hc.2.1;have p3:=m ha.2.2 hc.2.2;have hs:Sm 63700992 (dot a c):=by unfold dot;constructor<;>omega
 refine⟨?_,hs⟩;unfold C0;simp only[Nb0,dc8];exact sb0 (hs.mono (by omega))
theorem Sm3.mono{n m:Int}{v:V3}(h:Sm3 n v)(hn:n<=m):Sm3 m v:=⟨Sm.mono h.1 hn,Sm.mono h.2.1 hn,Sm.mono h.2.2 hn⟩
theorem Be3{a c v:V3}(ha:inV a=true)(hc:inV c=true)(hv:inV v=true):C0 (C4 a c) v=D3 a c v/\Sm 63700992 (D3 a c v):=by
 obtain⟨e1,e2⟩:=Yc2 ((Vd9.1 ha).mono (by omega)) ((Vd9.1 hc).mono (by omega))
 rw[e1];exact Yc3 e2 ((Vd9.1 hv).mono (by omega))
theorem Be4{n a c v:V3}(hn:Sm3 4608 n)(ha:inV a=true)(hc:inV c=true)(hv:inV v=true):C0 n (C4 (H7 c a) (H7 v a))=orp n a c v:=by
 obtain⟨e1,e2⟩:=pc4 hc ha;obtain⟨e3,e4⟩:=pc4 hv ha;obtain⟨e5,e6⟩:=Yc2 e2 e4;rw[e1,e3,e5];exact (Yc3 hn e6).1
def Be5(C:List V3)(g:Nat->List b7):Prop:=∀k,k<C.length->g k=tV.row (gL tV C k)
section
variable{n:V3}{C:List V3}{g:Nat->List b7}(hn:Sm3 4608 n)(hg:Be5 C g)(hC:∀c∈C,inV c=true)(hl:C.length<=1000)
include hn hg hC hl
theorem me5{v:V3}(hv:inV v=true):∃j,lp (T4 ⟨C.length,g,(C.length:Int),n.x,n.y,n.z,C.length,g,v.x,v.y,v.z⟩) ⟨0,v.x,v.y,v.z⟩=(1,⟨j,(nxt C n v).x,(nxt C n v).y,(nxt C n v).z⟩):=by
 suffices key:∃t s,lp (T4 ⟨C.length,g,(C.length:Int),n.x,n.y,n.z,C.length,g,v.x,v.y,v.z⟩) ⟨0,v.x,v.y,v.z⟩=(t,s)/\(t=1/\∃j,s=⟨j,(nxt C n v).x,(nxt C n v).y,(nxt C n v).z⟩) by
  obtain⟨t,s,h,rfl,j,rfl⟩:=key;exact⟨j,h⟩
 refine F9 (step:=T4 ⟨C.length,g,(C.length:Int),n.x,n.y,n.z,C.length,g,v.x,v.y,v.z⟩) (mk:=λj (b:V3)=>(⟨(j:Int),b.x,b.y,b.z⟩:y6)) C.length (λj b=>inV b=true/\nxF n v (C.drop j) b=nxt C n v) (λt s=>t=1/\∃j,s=⟨j,(nxt C n v).x,(nxt C n v).y,(nxt C n v).z⟩) (by omega)
  (λj b hj hi=>?_) (λj b hj hi=>?_) 0 v ⟨hv,rfl⟩
 ·obtain⟨hb,hi⟩:=hi;have hw:=hC _ (ja1 tV hj);have hN:=v8 hj (show C.length<=4611686018427387904 by omega)
  have ho:=Be4 (a:=v) (c:=b) (v:=gL tV C j) hn hv hb hw;have hd:C.drop j=gL tV C j::C.drop (j+1):=by
   rw[ib9 tV hj];exact List.drop_eq_getElem_cons hj
  rw[hd] at hi;unfold nxF at hi;have e1:((gL tV C j).x==v.x&&((gL tV C j).y==v.y&&((gL tV C j).z==v.z&&true)))=eqV (gL tV C j) v:=rfl;have e2:(b.x==v.x&&(b.y==v.y&&(b.z==v.z&&true)))=eqV b v:=rfl;have e3:∀u:V3,toI (hdA (tV.row u))=u.x/\toI (hdA (tlA (tV.row u)))=u.y/\toI (hdA (tlA (tlA (tV.row u))))=u.z/\(Nat.ble 3 (len (tV.row u))&&ea5 [CK.int .i64,CK.int .i64,CK.int .i64] (tV.row u))=true:=λ_=>⟨rfl,rfl,rfl,rfl⟩
  obtain⟨f1,f2,f3,f4⟩:=e3 (gL tV C j);show Nx (E4 Stp.next Stp.exit Stp.fail _ _) _ _;simp only[E4,Int.toNat_natCast,hg j hj,f1,f2,f3,f4,e1,e2,hN,i5 hj];rw[btD (j7 hj)];simp only[y7];rw[show (⟨(gL tV C j).x,(gL tV C j).y,(gL tV C j).z⟩:V3)=gL tV C j from rfl,show (⟨b.x,b.y,b.z⟩:V3)=b from rfl,show (⟨v.x,v.y,v.z⟩:V3)=v from rfl,show (⟨n.x,n.y,n.z⟩:V3)=n from rfl,ho]
  have take : ∀ c : V3, inV c = true → nxF n v (C.drop (j + 1)) c = nxt C n v → Nx (.next (⟨((j + 1 : Nat) : Int), c.x, c.y, c.z⟩ : y6)) (fun t => t = 1 ∧ ∃ j', (⟨(j : Int), b.x, b.y, b.z⟩ : y6) = ⟨j', (nxt C n v).x, (nxt C n v).y, (nxt C n v).z⟩)
    (λs=>∃c':V3,s=(⟨((j+1:Nat):Int),c'.x,c'.y,c'.z⟩:y6)/\(inV c'=true/\nxF n v (C.drop (j+1)) c'=nxt C n v)):=λc hc he=>.nx ⟨c,rfl,hc,he⟩
  cases h1:eqV (gL tV C j) v with
  |true =>
   rw[h1] at hi;exact take b hb (by simpa using hi)
  |false =>
   rw[h1] at hi;cases h2:eqV b v with
   |true =>
    rw[h2] at hi;exact take _ hw (by simpa using hi)
   |false =>
    rw[h2] at hi;by_cases h3:orp n v b (gL tV C j)<0
    ·rw[decide_eq_true h3] at hi ⊢;exact take _ hw (by simpa using hi)
    ·rw[decide_eq_false h3] at hi ⊢;exact take b hb (by simpa using hi)
 ·obtain⟨hb,hi⟩:=hi;rw[List.drop_eq_nil_of_le hj] at hi;have hi:b=nxt C n v:=hi;refine⟨1,?_,rfl,(j:Int),by rw[hi]⟩
  show E4 Stp.next Stp.exit Stp.fail _ _=_;simp only[E4];rw[bfD (j6 (by omega))]
theorem Be6{v:V3}(hv:inV v=true):ea9 ⟨n.x,n.y,n.z,C.length,g,v.x,v.y,v.z⟩=⟨1,(nxt C n v).x,(nxt C n v).y,(nxt C n v).z⟩:=by
 obtain⟨j,h⟩:=me5 hn hg hC hl hv;unfold ea9 T8;simp only[h];rfl
end
theorem Yc4(f:Nat->Int)(n:Nat):sig (List.range (n+1)) f=sig (List.range n) f+f n:=by
 rw[List.range_succ,ob9,v7,Pa6,Qlo]
theorem Pb7{α:Type}{f:α->Int}{B:Nat}:∀{l:List α},(∀x∈l,Sm B (f x))->Sm ((l.length*B:Nat):Int) (sig l f)
 |[],_=>by rw[Pa6];exact⟨by simp,by simp⟩
 |x::l,h=>by
  obtain⟨h1,h2⟩:=h x (by simp)
  obtain⟨k1,k2⟩:=Pb7 (l:=l) λy hy=>h y (by simp[hy])
  rw[v7,List.length_cons,Nat.succ_mul]
  constructor<;>omega
section
variable{X C:List V3}{n:V3}{k:Int}(h:Rim X C n k){g:Nat->List b7}(hn:Sm3 4608 n)(hg:Be5 C g)(hC:∀c∈C,inV c=true)(hl:C.length<=48)
include h hn hg hC hl
theorem Be7 {a : V3} (ha : a ∈ C) {s0 : Int} (hs : Sm 100000000000000000 s0) :
  ∃s,lp (ua5 ⟨n.x,n.y,n.z,C.length,g,((C.length-2:Nat):Int),a.x,a.y,a.z⟩) ⟨0,s0,(nxt C n a).x,(nxt C n a).y,(nxt C n a).z⟩=(1,s)/\s.d9=s0+AR C n a:=by
 rw[<- h.fan ha];have hterm:∀i,Sm 63700992 (D3 a (itr C n a (i+1)) (itr C n a (i+2))):=λi=>(Be3 (hC a ha) (hC _ (h.it_mem ha _)) (hC _ (h.it_mem ha _))).2
 suffices key:∃t s,lp (ua5 ⟨n.x,n.y,n.z,C.length,g,((C.length-2:Nat):Int),a.x,a.y,a.z⟩) ⟨0,s0,(nxt C n a).x,(nxt C n a).y,(nxt C n a).z⟩=(t,s)/\(t=1/\s.d9=s0+sig (List.range (C.length-2)) (λi=>D3 a (itr C n a (i+1)) (itr C n a (i+2)))) by
  obtain⟨t,s,h,rfl,h2⟩:=key;exact⟨s,h,h2⟩
 refine F9 (step:=ua5 ⟨n.x,n.y,n.z,C.length,g,((C.length-2:Nat):Int),a.x,a.y,a.z⟩) (mk:=λj (q:Int×V3)=>(⟨(j:Int),q.1,q.2.x,q.2.y,q.2.z⟩:aa7)) (C.length-2) (λj q=>j<=C.length-2/\q.1=s0+sig (List.range j) (λi=>D3 a (itr C n a (i+1)) (itr C n a (i+2)))/\q.2=itr C n a (j+1)) (λt s=>t=1/\s.d9=s0+sig (List.range (C.length-2)) (λi=>D3 a (itr C n a (i+1)) (itr C n a (i+2)))) (by omega)
  (λj q hj hi=>?_) (λj q hj hi=>?_) 0 (s0,nxt C n a) ⟨Qld _,by rw[List.range_zero,Pa6,Qlo],rfl⟩
 ·obtain⟨s,v⟩:=q;obtain⟨hj',e1,e2⟩:=hi
  simp only at e1 e2
  subst e1 e2;have hN:=v8 hj (show C.length-2<=4611686018427387904 by omega)
  have hp:=Be6 hn hg hC (by omega) (hC _ (h.it_mem ha (j+1)))
  obtain⟨hd,hdb⟩:=Be3 (hC a ha) (hC _ (h.it_mem ha (j+1))) (hC _ (h.it_mem ha (j+2)));obtain⟨b1,b2⟩:=Pb7 (l:=List.range j) (B:=63700992) λi _=>hterm i
  rw[List.length_range] at b1 b2;have hsum:W (s0+sig (List.range j) (λi=>D3 a (itr C n a (i+1)) (itr C n a (i+2)))+D3 a (itr C n a (j+1)) (itr C n a (j+2)))=s0+sig (List.range (j+1)) (λi=>D3 a (itr C n a (i+1)) (itr C n a (i+2))):=by
   rw[Yc4];obtain⟨d1,d2⟩:=hdb;obtain⟨c1,c2⟩:=hs;rw[qa7 (by omega) (by omega)]
   omega
  show Nx (Y2 Stp.next Stp.exit Stp.fail _ _) _ _;simp only[Y2,hp,hN];rw[btD (j7 hj)];rw[show (⟨a.x,a.y,a.z⟩:V3)=a from rfl,show (⟨(itr C n a (j+1)).x,(itr C n a (j+1)).y,(itr C n a (j+1)).z⟩:V3)=itr C n a (j+1) from rfl,
   show (⟨(nxt C n (itr C n a (j+1))).x,(nxt C n (itr C n a (j+1))).y,(nxt C n (itr C n a (j+1))).z⟩:V3)=itr C n a (j+2) from rfl,hd,hsum]
  exact .nx ⟨(s0+sig (List.range (j+1)) (λi=>D3 a (itr C n a (i+1)) (itr C n a (i+2))),itr C n a (j+2)),rfl,by omega,rfl,rfl⟩
 ·obtain⟨s,v⟩:=q;obtain⟨hj',e1,e2⟩:=hi
  simp only at e1 e2
  have e:j=C.length-2:=by omega
  subst e;refine⟨1,?_,rfl,e1⟩;show Y2 Stp.next Stp.exit Stp.fail _ _=_;simp only[Y2];rw[bfD (j6 (Qlb _))]
theorem kf6{a:V3}(ha:a∈C){s0:Int}(hs:Sm 100000000000000000 s0):db3 ⟨a.x,a.y,a.z,(C.length:Int),n.x,n.y,n.z,C.length,g,s0⟩=⟨1,s0+AR C n a⟩:=by
 obtain⟨s,h1,h2⟩:=Be7 h hn hg hC hl ha hs;have hp:=Be6 hn hg hC (by omega) (hC _ ha)
 have hW:W ((C.length:Int)-2)=((C.length-2:Nat):Int):=by
  have:=h.two
  rw[qa7 (by omega) (by omega)];omega
 unfold db3 Da4;simp only[hp,hW,h1,<- h2];rfl
end
theorem Re3{p:Pln}{v:V3}(hp:okp p=true)(hv:inV v=true):(U5 p v==0)=decide (dot p.n v=p.b):=by
 unfold U5;rw[hp,hv];simp only[Bool.and_self,if_true];by_cases h1:dot p.n v-p.b<0
 ·rw[if_pos h1,decide_eq_false (by omega)];rfl
 ·rw[if_neg h1];by_cases h2:dot p.n v-p.b>0
  ·rw[if_pos h2,decide_eq_false (by omega)];rfl
  ·rw[if_neg h2,decide_eq_true (by omega)];rfl
theorem me6 (P : T5) (p : Pln) (X : List V3) (h1 : P.Ja5 = X) (h2 : P.Wd7 = (X.length : Int)) (h3 : P.s9 = p.n.x ∧ P.u7 = p.n.y ∧ P.u8 = p.n.z ∧ P.xa2 = p.b) (hp : okp p = true) (hX : ∀ v ∈ X, inV v = true) (hl : X.length ≤ 1000000) :
  ∃j,lp (ua6 P) ⟨0,0,0,[]⟩=(phV (onF p X)+1,⟨phV (onF p X),j,(onF p X).length,bL tV (onF p X)⟩):=by
 suffices key:∃t s,lp (ua6 P) ⟨0,0,0,[]⟩=(t,s)/\(t=phV (onF p X)+1/\∃j,s=⟨phV (onF p X),j,(onF p X).length,bL tV (onF p X)⟩) by
  obtain⟨t,s,h,rfl,j,rfl⟩:=key;exact⟨j,h⟩
 refine F9 (step:=ua6 P) (mk:=λj (o:List V3)=>(⟨phV o,(j:Int),o.length,bL tV o⟩:z7)) X.length (λj o=>j<=X.length/\o=onF p (X.take j)) (λt s=>t=phV (onF p X)+1/\∃j,s=⟨phV (onF p X),j,(onF p X).length,bL tV (onF p X)⟩) (by omega)
  (λj o hj hi=>?_) (λj o hj hi=>?_) 0 [] ⟨Qld _,by simp[onF]⟩
 ·obtain⟨_,hi⟩:=hi;have hN:=v8 hj (show X.length<=4611686018427387904 by omega)
  have hv:=hX _ (ja1 tV hj);have hlen:o.length<=1000000:=by
   rw[hi];have a1:=Qle (λv=>decide (dot p.n v=p.b)) (X.take j)
   have a2:=Qlh j X;unfold onF;omega
  have hT:onF p (X.take (j+1))=if dot p.n (gL tV X j)=p.b then o++[gL tV X j] else o:=by
   rw[Ca9 tV hj,hi];unfold onF;rw[List.filter_append];by_cases hc:dot p.n (gL tV X j)=p.b
   ·rw[if_pos hc,Qlw,if_pos (decide_eq_true hc)];rfl
   ·rw[if_neg hc,Qlw,if_neg (by rw[decide_eq_true_eq];exact hc),List.filter_nil,Qly]
  have hside:(R4 ⟨⟨P.s9,P.u7,P.u8⟩,P.xa2⟩ (gL tV X j)==0)=decide (dot p.n (gL tV X j)=p.b):=by
   rw[h3.1,h3.2.1,h3.2.2.1,h3.2.2.2];show (R4 p (gL tV X j)==0)=_;rw[oc1,Re3 hp hv]
  clear hi
  cases o with
  |nil =>
   show Nx (Y3 Stp.next Stp.exit Stp.fail _ _) _ _;simp only[Y3,Int.toNat_natCast,h1,h2,hside,Tb1,hN,i5 hj];rw[btD (j7 hj)];by_cases hc:dot p.n (gL tV X j)=p.b
   ·rw[if_pos hc] at hT;rw[decide_eq_true hc];exact Nx.nx (s:=(⟨1,((j+1:Nat):Int),1,bL tV ([]++[gL tV X j])⟩:z7)) (N:=λs=>∃o',s=(⟨phV o',((j+1:Nat):Int),o'.length,bL tV o'⟩:z7)/\(j+1<=X.length/\o'=onF p (X.take (j+1)))) ⟨[]++[gL tV X j],rfl,by omega,hT.symm⟩
   ·rw[if_neg hc] at hT;rw[decide_eq_false hc];exact Nx.nx (s:=(⟨0,((j+1:Nat):Int),0,[]⟩:z7)) ⟨[],rfl,by omega,hT.symm⟩
  |cons q o =>
   have rr:(Nat.beq (q::o).length (len (bL tV (q::o)))&&Nat.ble (((q::o).length+1)*24) room)=true:=ae9 rfl (by omega)
   show Nx (Y4 Stp.next Stp.exit Stp.fail _ _) _ _;simp only[Y4,Int.toNat_natCast,h1,h2,hside,Tb1,hN,i5 hj,rr,kf0];rw[btD (j7 hj)];by_cases hc:dot p.n (gL tV X j)=p.b
   ·rw[if_pos hc] at hT;rw[decide_eq_true hc];exact Nx.nx (s:=(⟨1,((j+1:Nat):Int),(q::o).length+1,bL tV ((q::o)++[gL tV X j])⟩:z7)) ⟨(q::o)++[gL tV X j],by rw[td0,Qlt];rfl,by omega,hT.symm⟩
   ·rw[if_neg hc] at hT;rw[decide_eq_false hc];exact Nx.nx (s:=(⟨1,((j+1:Nat):Int),(q::o).length,bL tV (q::o)⟩:z7)) ⟨q::o,rfl,by omega,hT.symm⟩
 ·obtain⟨h4,hi⟩:=hi;have e:j=X.length:=by omega
  subst e;rw[Qlj] at hi;rw[<- hi];cases o with
  |nil =>
   refine⟨1,?_,rfl,_,rfl⟩;show Y3 Stp.next Stp.exit Stp.fail _ _=_;simp only[Y3,h2];rw[bfD (j6 (Qlb _))]
  |cons q o =>
   refine⟨2,?_,rfl,_,rfl⟩;show Y4 Stp.next Stp.exit Stp.fail _ _=_;simp only[Y4,h2];rw[bfD (j6 (Qlb _))]
theorem de3{l:List V3}(hl:l.all inV=true)(h4:Sol l):Pol (ea8 (F0 l) l):=by
 refine⟨de1 hl h4,Oe0 hl h4,(kd6 l).filter _,λv hv=>?_⟩
 obtain⟨m,hm⟩:=(wd1 hl h4 (Va1 hl h4 hv)).1 hv;exact⟨m,λw hw hne=>hm w (Va1 hl h4 hw) hne⟩
theorem wd4{l:List V3}:(ea8 (F0 l) l).length<=l.length:=Qlac (Qle _ _) (td8 l)
noncomputable def V6l(X:List V3):Int:=sig (F0 X) λp=>AR (onF p X) p.n (ptF p X)
theorem Pol.v6l{X:List V3}(hX:Pol X)(o:V3):V6 X o=V6l X:=hX.from' o
section
variable{X:List V3}(hX:Pol X)(h48:X.length<=48)
include hX h48
theorem Pol.ar_bd{p:Pln}(hp:Qa7 X p):Sm 3057647616 (AR (onF p X) p.n (ptF p X)):=by
 have hR:=hX.rim hp;have hi:=Qlp.1 hX.iv;have hC:∀c∈onF p X,inV c=true:=λc hc=>hi c (P6.1 hc).1
 have hpt:=hX.pt hp;have hb:=Pb7 (l:=onF p X) (B:=63700992) (f:=λa=>dot (c7 a (nxt (onF p X) p.n a)) (ptF p X)) λa ha=>(Be3 (hC a ha) (hC _ (hR.nx_mem ha)) (hC _ hpt)).2
 have hlen:(onF p X).length<=48:=Qlac (Qle _ _) h48
 have:(onF p X).length*63700992<=48*63700992:=Qlf _ hlen
 exact hb.mono (by omega)
theorem Be8:∃s,lp (ua7 ⟨((F0 X).length:Int)⟩) ⟨X,F0 X,0,0⟩=(1,s)/\s.d9=V6l X:=by
 have hF:(F0 X).length<=1000000:=Ob8 h48 hX.iv;have hi:=Qlp.1 hX.iv
 suffices key:∃t s,lp (ua7 ⟨((F0 X).length:Int)⟩) ⟨X,F0 X,0,0⟩=(t,s)/\(t=1/\s.d9=V6l X) by
  obtain⟨t,s,h,rfl,h2⟩:=key;exact⟨s,h,h2⟩
 refine F9 (step:=ua7 ⟨((F0 X).length:Int)⟩) (mk:=λj (q:Int)=>(⟨X,F0 X,(j:Int),q⟩:O8)) (F0 X).length (λj q=>j<=(F0 X).length/\q=sig ((F0 X).take j) λp=>AR (onF p X) p.n (ptF p X)) (λt s=>t=1/\s.d9=V6l X) (by omega)
  (λj q hj hq=>?_) (λj q hj hq=>?_) 0 0 ⟨Qld _,by simp[sig]⟩
 ·obtain⟨hj',rfl⟩:=hq;have hN:=v8 hj (show (F0 X).length<=4611686018427387904 by omega)
  have hpm:gL tP (F0 X) j∈F0 X:=ja1 tP hj;have hp:=hX.mem.1 hpm;have hR:=hX.rim hp;have hC:∀c∈onF (gL tP (F0 X) j) X,inV c=true:=λc hc=>hi c (P6.1 hc).1
  have hlen:=hX.lens hp;have hl48:(onF (gL tP (F0 X) j) X).length<=48:=Qlac (Qle _ _) h48;have bp:=Bb8 hp.ok;have np:Sm3 4608 (gL tP (F0 X) j).n:=⟨⟨bp.x1,bp.x2⟩,⟨bp.y1,bp.y2⟩,bp.z1,bp.z2⟩;have hT:(F0 X).take (j+1)=(F0 X).take j++[gL tP (F0 X) j]:=Ca9 tP hj;have hbs:=Pb7 (l:=(F0 X).take j) (B:=3057647616) (f:=λp=>AR (onF p X) p.n (ptF p X)) λp hp=>hX.ar_bd h48 (hX.mem.1 (Qlq hp))
  have hlt:((F0 X).take j).length*3057647616<=1000000*3057647616:=Qlf _ (by have:=Qlh j (F0 X);omega)
  have hsm:Sm 100000000000000000 (sig ((F0 X).take j) λp=>AR (onF p X) p.n (ptF p X)):=hbs.mono (by omega)
  have hpt:ptF (gL tP (F0 X) j) X=gL tV (onF (gL tP (F0 X) j) X) 0:=by
   unfold ptF;cases onF (gL tP (F0 X) j) X<;>rfl
  have hg:Be5 (onF (gL tP (F0 X) j) X) (λk=>f7 (bL tV (onF (gL tP (F0 X) j) X)) (0+k)):=λk hk=>by
   show f7 _ (0+k)=_;rw[Qlz,V9 tV hk]
  have h0:0<(onF (gL tP (F0 X) j) X).length:=by omega
  have hfan:=kf6 hR np hg hC hl48 (hX.pt hp) hsm;rw[hpt] at hfan;have r0:rdR tV (bL tV (onF (gL tP (F0 X) j) X)) 0=gL tV (onF (gL tP (F0 X) j) X) 0:=Bb9 h0;have l0:ldR tV (bL tV (onF (gL tP (F0 X) j) X)) 0=true:=Ob6 h0;have hi0:inB 0 (onF (gL tP (F0 X) j) X).length=true:=i5 h0;have hph:phV (onF (gL tP (F0 X) j) X)=1:=by
   cases hO:onF (gL tP (F0 X) j) X with
   |nil=>rw[hO] at h0;simp at h0
   |cons a l=>rfl
  have hgt:decide (((onF (gL tP (F0 X) j) X).length:Int)>2)=true:=decide_eq_true (by omega)
  have hnext:sig ((F0 X).take j) (λp=>AR (onF p X) p.n (ptF p X))+AR (onF (gL tP (F0 X) j) X) (gL tP (F0 X) j).n (gL tV (onF (gL tP (F0 X) j) X) 0)=sig ((F0 X).take (j+1)) λp=>AR (onF p X) p.n (ptF p X):=by
   rw[hT,ob9,v7,Pa6,Qlo,hpt]
  show Nx (Y5 Stp.next Stp.exit Stp.fail _ _) _ _;obtain⟨jj,hlp⟩:=me6 ⟨X,F0 X,((F0 X).length:Int),(j:Int),X,(X.length:Int),sig ((F0 X).take j) (λp=>AR (onF p X) p.n (ptF p X)),(gL tP (F0 X) j).n.x,(gL tP (F0 X) j).n.y,(gL tP (F0 X) j).n.z,(gL tP (F0 X) j).b,(gL tP (F0 X) j).n.x,(gL tP (F0 X) j).n.y,(gL tP (F0 X) j).n.z⟩ (gL tP (F0 X) j) X rfl rfl ⟨rfl,rfl,rfl,rfl⟩ hp.ok hi (by omega)
  rw[hph] at hlp;simp only[Y5,Int.toNat_natCast,l5,j9,hlp,r0,l0,hi0,hgt,hfan,hnext,hN,i5 hj];rw[btD (j7 hj)];exact Nx.nx (s:=(⟨X,F0 X,((j+1:Nat):Int),sig ((F0 X).take (j+1)) λp=>AR (onF p X) p.n (ptF p X)⟩:O8)) (N:=λs=>∃q',s=(⟨X,F0 X,((j+1:Nat):Int),q'⟩:O8)/\(j+1<=(F0 X).length/\q'=sig ((F0 X).take (j+1)) λp=>AR (onF p X) p.n (ptF p X))) ⟨_,rfl,by omega,rfl⟩
 ·obtain⟨hj',rfl⟩:=hq;have e:j=(F0 X).length:=by omega
  subst e;refine⟨1,?_,rfl,by rw[Qlj];rfl⟩
  show Y5 Stp.next Stp.exit Stp.fail _ _=_;simp only[Y5];rw[bfD (j6 (Qlb _))]
end
noncomputable def qa5(l:List V3):Int×Int:=if V1 l=0 then (V6l (ea8 (F0 l) l),0) else (0,V1 l)
theorem Re4(l:List V3)(hl:l.length<=900000):Pa4 l=some (.tup [i (qa5 l).1,i (qa5 l).2],[]):=by
 have c1:∀z:List V3,sb7 z=U6 z:=λ_=>rfl
 have c2:∀z:List V3,Za8 z=Vb5 z:=λ_=>rfl
 have g1:Za9 l=true:=decide_eq_true hl;unfold Pa4 qa5;simp only[l5,L5,j9,c1,c2,g1];by_cases h:V1 l=0
 ·obtain⟨h48,hin,hs⟩:=la0 h;have hX:=de3 hin hs;have hXl:=wd4 (l:=l);have e1:Vb5 l=(ea8 (F0 l) l,0):=by unfold Vb5;rw[if_pos h]
  have hc:V1 (ea8 (F0 l) l)=0:=xb0 (by omega) hX.iv hX.sol
  have e2:U6 (ea8 (F0 l) l)=(F0 (ea8 (F0 l) l),0):=by unfold U6;rw[if_pos hc]
  have g2:sb8 (ea8 (F0 l) l)=true:=decide_eq_true (by omega)
  obtain⟨s,h1,h2⟩:=Be8 hX (by omega)
  rw[if_pos h];simp only[e1,e2,g2,h1,h2];rfl
 ·have e1:Vb5 l=([],V1 l):=by unfold Vb5;rw[if_neg h]
  have hne:(V1 l != 0)=true:=bne_iff_ne.2 h;rw[if_neg h];simp only[e1,hne];rfl
theorem Ld0(l:List V3)(hl:l.length<=900000):Z2 l=qa5 l:=by unfold Z2;rw[Re4 l hl];rfl
theorem Ld1(l:List V3)(hl:l.length<=900000):Z3 l=true:=by unfold Z3;rw[Re4 l hl];rfl
noncomputable def Z4(x:List Int):V3×List V3:=match A4 x with
 |[]=>(⟨0,0,0⟩,[])
 |a::l=>(a,l)
noncomputable def Zb8:Sum:=N1 (na0 tI) λx=>.guard (bb2 x) (.guard (Nat.ble 1 (List.length (A4 x))) (.ret (eL tV ((Z4 x).1::(Z4 x).2),[])))
theorem Be9{α:Type}{c:Cod α}{k k':α->DT (b7×List c8)}(h:∀a r,(k a).run=some r->(k' a).run=some r){args:List b7}{blks:List c8}{r:b7×List c8}(hr:(N1 c k args blks).run=some r):(N1 c k' args blks).run=some r:=by
 unfold N1 at hr ⊢
 split at hr
 ·rename_i x;cases hd:c.dec x with
  |none=>rw[hd] at hr;cases hr
  |some a =>
   rw[hd] at hr;obtain⟨h1,h2⟩:=DT.run_guard_some (show (DT.guard (c.grd x) (k a)).run=some r from hr)
   show (DT.guard (c.grd x) (k' a)).run=some r;rw[h1];exact h a r h2
 ·cases hr
theorem Yc5:i7 prog G 33 Zb8:=λargs blks r out he=>bd9 args blks r out (Be9 (λx r hr=>by
 obtain⟨h1,hr⟩:=DT.run_guard_some hr;obtain⟨h2,hr⟩:=DT.run_guard_some hr;rw[h1];have e:(Z4 x).1::(Z4 x).2=A4 x:=by
  unfold Z4;cases h:A4 x with
  |nil=>rw[h] at h2;cases h2
  |cons a l=>rfl
 rw[e] at hr;exact hr) he)
end Go.Ev.Ce
namespace Go.Ev
open Go Go.ChangeShapes Go.RowKit
structure Yc6(w w':World):Prop where
 os:w'.os=w.os
 output:w'.output=w.output
 size:w.heap.size<=w'.heap.size
 block:∀k,k<w.heap.size->w'.heap[k]?=w.heap[k]?
theorem Yc6.kept{w w':World}(h:Yc6 w w')(may:MemPlace->Prop):w.keptBut w' may:=by
 refine⟨h.os,h.output,λi hi=>?_⟩
 rw[h.block i hi];cases w.heap[i]? with
 |none=>rfl
 |some o=>cases o<;>first | exact⟨rfl,rfl,rfl,λ_ _=>rfl⟩ | exact .inr ⟨rfl,rfl⟩ | rfl
theorem Yc6.frozen{w w':World}(h:Yc6 w w')(b off:Nat)(hb:b<w.heap.size):w'.frozen? ⟨b,off,none⟩=w.frozen? ⟨b,off,none⟩:=by
 simp only[World.frozen?,h.block b hb]
theorem Yc6.cell{w w':World}(h:Yc6 w w')(b off:Nat)(hb:b<w.heap.size):w'.cell? ⟨b,off,none⟩=w.cell? ⟨b,off,none⟩:=by
 simp only[World.cell?,h.block b hb]
theorem Yc6.same{w w':World}(h:Yc6 w w')(p:MemPlace)(hp:p.block<w.heap.size):w.sameAt w' p:=by
 cases p with
 |cell b off=>exact h.cell b off hp
 |map b=>exact h.block b hp
theorem Pb8{α β:Type}{f:α->Option β}:∀{l:List α} {r:List β},l.mapM f=some r->r.length=l.length/\∀(j:Nat) y,r[j]?=some y->∃x,l[j]?=some x/\f x=some y
 |[],r,h=>by
  have:r=[]:=by simpa using h.symm
  subst this;simp
 |x::l,r,h=>by
  rw[List.mapM_cons] at h;obtain⟨y,h1,h2⟩:=Qlm.1 h;obtain⟨r',h3,h4⟩:=Qlm.1 h2
  have:r=y::r':=by simpa using h4.symm
  subst this;obtain⟨g1,g2⟩:=Pb8 h3;refine⟨by simp[g1],λj z hz=>?_⟩
  cases j with
  |zero=>simp at hz;subst hz;exact⟨x,rfl,h1⟩
  |succ j=>simpa using g2 j z (by simpa using hz)
section
variable{D:Type}{enc:TypeId×Value->D}{P:Program}
theorem Zb9 {T : TypeId → Prop} (K : Kids P T) (hsz : ∀ {t e : TypeId}, T t → P.underlying t = some (.slice e) → 0 < P.cellsOf e) {w w' : World} {sp : Nat → Bool} (hs : Yc6 w w') :
  ∀{ts:List TypeId} {vs:List Value} {ds:List (DataW D)} {ps:List MemPlace},(∀t∈ts,T t)->DataW.TrodAll enc P w 0 (λ_=>true) true ts vs ds ps->(∀p∈ps,p.block<w.heap.size)->(∀p∈ps,sp p.block=true)->DataW.TrodAll enc P w' 0 sp true ts vs ds ps
 |[],[],[],_,_,h,_,_=>h
 |t::ts,v::vs,d::ds,ps,ht,h,hlt,hsp=>by
  obtain⟨p,q,⟨fuel,h1⟩,h2,rfl⟩:=h;refine⟨p,q,⟨fuel,?_⟩,Zb9 K hsz hs (λt h=>ht t (by simp[h])) h2 (λx hx=>hlt x (by simp[hx])) (λx hx=>hsp x (by simp[hx])),rfl⟩
  exact DataW.trod_stays K hsz (λh=>by cases h) (ht t (by simp)) h1 (λx hx=>hs.same x (hlt x (by simp at hx ⊢;exact .inl hx))) (λx hx=>hsp x (by simp at hx ⊢;exact .inl hx))
 |[],_::_,_,_,_,h,_,_=>h.elim
 |[],[],_::_,_,_,h,_,_=>h.elim
 |_::_,[],_,_,_,h,_,_=>h.elim
 |_::_,_::_,[],_,_,h,_,_=>h.elim
theorem Ce0 {T : TypeId → Prop} (K : Kids P T) (hsz : ∀ {t e : TypeId}, T t → P.underlying t = some (.slice e) → 0 < P.cellsOf e) {f : Func} {s : ChangeSpec} {apart fresh handsOn again : Bool} {W W' : World} {args : Array Value} {ds gs : List (DataW D)} {before : List MemPlace} {tb : TypeId}
  (hT:∀t∈f.params.toList,T t) (hW:DataW.Whole enc P f.params.toList s.vars apart W args.toList ds gs before) (hv:s.vars=[]) (hr:f.resultTypes=#[tb]) (hb:P.underlying tb=some .bool)
  (h1:(s.fn D ds).results=[.lit (.bool true)]) (h2:(s.fn D ds).args=ds) (h3:(s.fn D ds).vars=[]) (hs:Yc6 W W') :
  s.post enc P f apart fresh handsOn again W args (.bool true) W':=by
 have hlt:=hW.lt;obtain⟨pa,pv,hA,hV,hps,hz,hn⟩:=id hW;rw[hv] at hV;have hpv:gs=[]/\pv=[]:=by
  cases gs with
  |nil=>exact⟨rfl,hV⟩
  |cons=>exact hV.elim
 obtain⟨rfl,rfl⟩:=hpv;rw[<- Qly ds] at h1 h3;have h2:(s.fn D (ds++[])).args=ds:=by rw[Qly];exact h2
 have hpa:before=pa:=by rw[hps];simp
 subst hpa;have hagain:∀sp:Nat->Bool,(∀p∈before,sp p.block=true)->DataW.TrodAll enc P W' 0 sp true f.params.toList args.toList ds before:=λsp h=>Zb9 K hsz hs hT hA hlt h
 have hres:∀(b:Nat) (sp:Nat->Bool) (hd:Bool),DataW.TrodAll enc P W' b sp hd f.resultTypes.toList ((Value.bool true).resultList f.resultTypes.size) [.lit (.bool true)] []:=λb sp hd=>by
  rw[hr];exact⟨[],[],⟨1,by simp[DataW.trod,hb,Value.cells,Value.resultList]⟩,rfl,rfl⟩
 have hvars:∀sp:Nat->Bool,DataW.TrodVars enc P W' sp s.vars ([]:List (DataW D)) []:=λsp=>by rw[hv];exact rfl
 have hok:∀(j:Nat) (t:TypeId) (r:Value),f.resultTypes[j]?=some t->((Value.bool true).resultList f.resultTypes.size)[j]?=some r->Value.okWide P W' .any 0 t r:=by
  rw[hr];intro j t r h4 h5;cases j with
  |zero =>
   simp at h4
   subst h4
   have:r=.bool true:=by simpa [Value.resultList] using h5.symm
   subst this;exact okWide_bool_mk hb _
  |succ j=>simp at h4
 have hag:DataW.TrodAll enc P W' 0 (λ_=>true) true (f.resultTypes.toList++f.params.toList) ((Value.bool true).resultList f.resultTypes.size++args.toList) (.lit (.bool true)::ds) before:=by
  have:=hagain (λ_=>true) (λ_ _=>rfl)
  rw[hr];exact⟨[],before,⟨1,by simp[DataW.trod,hb,Value.cells,Value.resultList]⟩,this,rfl⟩
 refine⟨ds,[],before,[],before,[],hW,?_,?_,?_,hs.kept _,λ_=>?_⟩
 ·rw[h1];exact hres _ _ _
 ·rw[h2];exact hagain _ λp hp=>by simpa using hlt p hp
 ·rw[h3];exact hvars _
 ·refine⟨hok,.lit (.bool true)::ds,[],before,⟨before,[],hag,hvars _,by simp,?_,?_⟩,?_⟩
  ·intro b off hp;rw[hs.frozen b off (hlt _ hp)];exact hz b off (by simpa using hp)
  ·intro ha;simpa using hn ha
  ·intro p hp _;exact hp
variable{w:World}{base:Nat}{spare:Nat->Bool}{held:Bool}
def wd5(w:World):Fz:=λb o=>(w.cell? ⟨b,o,none⟩).isSome
theorem bf0 {fuel : Nat} {t : TypeId} {k : IntKind} {cs : List Value} {x : DataW D × List MemPlace} (ht : P.underlying t = some (.int k)) (h : DataW.trod enc P w base spare held fuel t cs = some x) :
  ∃n,cs=[.int k n]/\(Lit.int k n).wf=true/\x.1=.lit (.int k n):=by
 cases fuel with
 |zero=>cases h
 |succ fuel =>
  match cs,h with
  |[],h=>simp[DataW.trod,ht] at h
  |[v],h =>
   cases v with
   |int k' n =>
    simp only[DataW.trod,ht] at h
    split at h
    ·rename_i hk;obtain⟨rfl,hw⟩:=hk;injection h with h;subst h
     exact⟨n,rfl,hw,rfl⟩
    ·cases h
   |_=>simp[DataW.trod,ht] at h
  |a::b::r,h=>simp[DataW.trod,ht] at h
theorem Oe5 {fuel : Nat} {t : TypeId} {cs : List Value} {x : DataW D × List MemPlace} (ht : P.underlying t = some .bool) (h : DataW.trod enc P w base spare held fuel t cs = some x) :
  ∃n,cs=[.bool n]/\x.1=.lit (.bool n):=by
 cases fuel with
 |zero=>cases h
 |succ fuel =>
  match cs,h with
  |[],h=>simp[DataW.trod,ht] at h
  |[v],h =>
   cases v with
   |bool n =>
    simp only[DataW.trod,ht] at h;injection h with h;subst h
    exact⟨n,rfl,rfl⟩
   |_=>simp[DataW.trod,ht] at h
  |a::b::r,h=>simp[DataW.trod,ht] at h
theorem Ce1 {fuel : Nat} {t e : TypeId} {n : Nat} {cs : List Value} {x : DataW D × List MemPlace} (ht : P.underlying t = some (.array n e)) (h : DataW.trod enc P w base spare held fuel t cs = some x) :
  cs.length=P.cellsOf t/\∃(fuel':Nat) (xs:List (DataW D×List MemPlace)),xs.length=n/\x.1=.agg (xs.map (·.1))/\∀(j:Nat) y,xs[j]?=some y->DataW.trod enc P w base spare held fuel' e ((cs.drop (j*P.cellsOf e)).take (P.cellsOf e))=some y:=by
 cases fuel with
 |zero=>cases h
 |succ fuel =>
  unfold DataW.trod at h;rw[ht] at h
  simp only at h
  split at h
  ·rename_i hl;obtain⟨xs,h1,h2⟩:=Qlag.1 h;have hx:=Pb8 h1;exact⟨hl,fuel,xs,by simpa using hx.1,by rw[<- h2],λj y hy=>by
    obtain⟨a,ha,hb⟩:=hx.2 j y hy
    have:j<n:=by
     have:=(List.getElem?_eq_some_iff.1 hy).1
     rw[hx.1] at this;simpa using this
    rw[Qlaa this] at ha;injection ha with ha;subst ha;exact hb⟩
  ·cases h
theorem me7 {fuel : Nat} {t : TypeId} {fs : Array Field} {cs : List Value} {x : DataW D × List MemPlace} (ht : P.underlying t = some (.struct fs)) (h : DataW.trod enc P w base spare held fuel t cs = some x) :
  cs.length=P.cellsOf t/\∃(fuel':Nat) (xs:List (DataW D×List MemPlace)),xs.length=fs.size/\x.1=.agg (xs.map (·.1))/\∀(j:Nat) f,fs[j]?=some f->∃y,xs[j]?=some y/\DataW.trod enc P w base spare held fuel' f.type ((cs.drop f.offset).take (P.cellsOf f.type))=some y:=by
 cases fuel with
 |zero=>cases h
 |succ fuel =>
  unfold DataW.trod at h;rw[ht] at h
  simp only at h
  split at h
  ·rename_i hl;obtain⟨xs,h1,h2⟩:=Qlag.1 h;have hx:=Pb8 h1;refine⟨hl,fuel,xs,by simpa using hx.1,by rw[<- h2],λj f hf=>?_⟩
   have hj:j<xs.length:=by
    rw[hx.1];simpa using (Array.getElem?_eq_some_iff.1 hf).1
   obtain⟨a,ha,hb⟩:=hx.2 j _ (Qlg hj)
   have:a=f:=by
    have:fs.toList[j]?=some f:=by simpa using hf
    exact Option.some.inj (ha.symm.trans this)
   subst this;exact⟨_,Qlg hj,hb⟩
  ·cases h
theorem Ce2 {fuel : Nat} {t e : TypeId} {cs : List Value} {x : DataW D × List MemPlace} (ht : P.underlying t = some (.slice e)) (h : DataW.trod enc P w base spare held fuel t cs = some x) :
  cs=[.slice none 0 0]\/∃(a:Addr) (n cap fuel':Nat),cs=[.slice (some a) n cap]/\n<=cap/\cap<=maxLen/\∀j,j<n->∃row y,w.cells? base (a.add (j*P.cellsOf e)) (P.cellsOf e)=some row/\DataW.trod enc P w base spare held fuel' e row=some y:=by
 cases fuel with
 |zero=>cases h
 |succ fuel =>
  match cs,h with
  |[],h=>simp[DataW.trod,ht] at h
  |[v],h =>
   cases v with
   |slice a len cap =>
    cases a with
    |none =>
     simp only[DataW.trod,ht] at h
     split at h<;>first | (rename_i e1;cases e1;done) | skip
     all_goals first | exact .inl rfl | (simp_all;done) | skip
    |some a =>
     refine .inr ?_;simp only[DataW.trod,ht] at h
     split at h
     ·rename_i hc;obtain⟨elems,h1,h2⟩:=Qlm.1 h;have hx:=Pb8 h1;refine⟨a,len,cap,fuel,rfl,hc.2.1,hc.2.2,λj hj=>?_⟩
      have hj':j<elems.length:=by rw[hx.1];simpa using hj
      obtain⟨i,hi,hb⟩:=hx.2 j _ (Qlg hj');rw[Qlaa hj] at hi;injection hi with hi;subst hi;obtain⟨row,r1,r2⟩:=Qlm.1 hb;exact⟨row,_,r1,r2⟩
     ·cases h
   |_=>simp[DataW.trod,ht] at h
  |a::b::r,h=>simp[DataW.trod,ht] at h
theorem de4:∀(d:Nat) (t:TypeId) (l:List (Nat×CK)),aa8 P d t=some l->∀(fuel:Nat) (cs:List Value) (x:DataW D×List MemPlace),DataW.trod enc P w base spare held fuel t cs=some x->∀p∈l,Ba5 cs.toArray p
 |0,_,_,h,_,_,_,_=>by cases h
 |d+1,t,l,h,fuel,cs,x,hx=>by
  have hpart:∀{off n:Nat} {e:TypeId} {l':List (Nat×CK)} {fuel':Nat} {y:DataW D×List MemPlace},Ib4 off n (aa8 P d e)=some l'->DataW.trod enc P w base spare held fuel' e ((cs.drop off).take n)=some y->∀p∈l',Ba5 cs.toArray p:=λ{off n e l' fuel' y} h1 h2 p hp=>by
   obtain⟨l2,g1,g2,rfl⟩:=Ja6 h1;obtain⟨q,hq,rfl⟩:=List.mem_map.1 hp
   have:=de4 d e l2 g1 fuel' _ y h2 q hq
   have hlt:=g2 q hq;unfold Ba5 at this ⊢;simp only[List.getElem?_toArray,List.getElem?_take,hlt,if_true,List.getElem?_drop] at this ⊢;exact this
  have hcat:∀{α:Type} (f:α->Option (List (Nat×CK))) (xs:List α) (l:List (Nat×CK)),ma9 (xs.map f)=some l->∀p∈l,∃a∈xs,∃l',f a=some l'/\p∈l':=λ{α} f xs=>by
   induction xs with
   |nil=>intro l h;simp only[List.map_nil,ma9] at h;injection h with h;subst h;simp
   |cons a xs ih =>
    intro l h p hp;simp only[List.map_cons,ma9] at h;cases h1:f a with
    |none=>simp[h1] at h
    |some l1 =>
    cases h2:ma9 (xs.map f) with
    |none=>simp[h1,h2] at h
    |some l2 =>
    simp only[h1,h2] at h;injection h with h;subst h
    rcases List.mem_append.1 hp with hp|hp
    ·exact⟨a,by simp,l1,h1,hp⟩
    ·obtain⟨b,hb,r⟩:=ih l2 h2 p hp;exact⟨b,by simp[hb],r⟩
  unfold aa8 at h;cases hu:P.underlying t with
  |none=>simp[hu] at h
  |some u =>
  cases u with
  |int k =>
   simp only[hu] at h;injection h with h;subst h
   obtain⟨n,rfl,_,_⟩:=bf0 hu hx;intro p hp;simp at hp;subst hp;exact⟨n,rfl⟩
  |bool =>
   simp only[hu] at h;injection h with h;subst h
   obtain⟨n,rfl,_⟩:=Oe5 hu hx;intro p hp;simp at hp;subst hp;exact⟨n,rfl⟩
  |struct fs =>
   simp only[hu] at h
   split at h
   ·cases h
   obtain⟨_,fuel',xs,_,_,hxs⟩:=me7 hu hx;intro p hp;obtain⟨f,hf,l',h1,h2⟩:=hcat _ _ _ h p hp
   split at h1
   ·cases h1
   obtain⟨j,hj⟩:=List.getElem?_of_mem hf;obtain⟨y,_,hy⟩:=hxs j f (by simpa using hj)
   have hc:P.cellsOf f.type=szT P f.type:=by
    unfold Program.cellsOf szT;cases P.info? f.type<;>rfl
   rw[hc] at hy;exact hpart h1 hy p h2
  |array n e =>
   simp only[hu] at h
   split at h
   case isFalse=>cases h
   obtain⟨_,fuel',xs,hn,_,hxs⟩:=Ce1 hu hx;intro p hp;obtain⟨j,hj,l',h1,h2⟩:=hcat _ _ _ h p hp;have hj':j<xs.length:=by rw[hn];simpa using hj
   have hy:=hxs j _ (Qlg hj');have hc:P.cellsOf e=szT P e:=by
    unfold Program.cellsOf szT;cases P.info? e<;>rfl
   rw[hc] at hy;exact hpart h1 hy p h2
  |_=>simp[hu] at h
def Aa7(k:IntKind)(es:Nat)(g:Nat->Int):List b7:=(List.range es).map λc=>.v (.int k (g c))
def Ma1(k:IntKind)(es:Nat):List (Nat×CK):=(List.range es).map λc=>(c,.int k)
theorem de5 {d : Nat} {t : TypeId} {k : IntKind} {es : Nat} (hf : aa8 P d t = some (Ma1 k es)) {fuel : Nat} {cs : List Value} {x : DataW D × List MemPlace} (hx : DataW.trod enc P w base spare held fuel t cs = some x) (hl : cs.length = es) :
  ∃g:Nat->Int,∀c,c<es->cs[c]?=some (.int k (g c)):=by
 have h:=de4 d t _ hf fuel cs x hx;have h':∀c,∃n:Int,c<es->cs[c]?=some (.int k n):=λc=>by
  by_cases hc:c<es
  ·have:=h (c,.int k) (List.mem_map.2 ⟨c,by simpa using hc,rfl⟩)
   obtain⟨n,hn⟩:=this;exact⟨n,λ_=>by simpa using hn⟩
  ·exact⟨0,λh=>absurd h hc⟩
 exact⟨λc=>Classical.choose (h' c),λc hc=>Classical.choose_spec (h' c) hc⟩
theorem Ce3{F:Fz}{w:World}(k:IntKind)(n:Int):da0 F w (.v (.int k n)) (.int k n):=.v _ rfl
theorem Yc7{k:IntKind}{es:Nat}{g:Nat->Int}{c:Nat}{x:b7}(h:(Aa7 k es g)[c]?=some x):c<es/\x=.v (.int k (g c)):=by
 unfold Aa7 at h;obtain⟨h1,h2⟩:=La7 h;exact⟨h1,h2.symm⟩
theorem ed5 {t e : TypeId} {k : IntKind} {es d : Nat} (ht : P.underlying t = some (.slice e)) (hf : aa8 P d e = some (Ma1 k es)) (hes : P.cellsOf e = es) (h0 : 0 < es) {fuel : Nat} {cs : List Value} {x : DataW D × List MemPlace} (hx : DataW.trod enc P w 0 spare held fuel t cs = some x) :
  ∃(v:Value) (n:Nat) (g:Nat->Nat->Int),cs=[v]/\n<=maxLen/\da0 (wd5 w) w (.tree es n λj=>Aa7 k es (g j)) v:=by
 rcases Ce2 ht hx with rfl|⟨a,n,cap,fuel',rfl,hn,hc,hel⟩
 ·exact⟨_,0,λ_ _=>0,rfl,Qld _,.nil _ _⟩
 ·rw[hes] at hel;have hcell:∀j,j<n->∃g:Nat->Int,∀c,c<es->w.cell? ((a.add (j*es)).add c)=some (.int k (g c)):=λj hj=>by
   obtain⟨row,y,h1,h2⟩:=hel j hj;unfold World.cells? at h1
   split at h1
   ·obtain⟨l1,l2⟩:=Pb8 h1;have hl:row.length=es:=by simpa using l1
    obtain⟨g,hg⟩:=de5 hf h2 hl;refine⟨g,λc hc=>?_⟩
    obtain⟨i,hi,hi2⟩:=l2 c _ (hg c hc);rw[Qlaa hc] at hi;injection hi with hi;subst hi;exact hi2
   ·cases h1
  have hg:∀j,∃g:Nat->Int,j<n->∀c,c<es->w.cell? ((a.add (j*es)).add c)=some (.int k (g c)):=λj=>by
   by_cases hj:j<n
   ·obtain⟨g,hg⟩:=hcell j hj;exact⟨g,λ_=>hg⟩
   ·exact⟨λ_=>0,λh=>absurd h hj⟩
  obtain⟨g,hg⟩:=Classical.axiomOfChoice hg;have hspot:0<n->a.spot=none:=λhn=>by
   have:=hg 0 hn 0 h0
   simpa [Addr.add] using World.cell?_spot this
  have hw:∀j c,j<n->c<es->w.cell? ⟨a.block,a.off+(j*es+c),none⟩=some (.int k (g j c)):=λj c hj hc=>by
   have:=hg j hj c hc
   rw[Z5 (hspot (by omega)),Z5 rfl] at this
   simpa [Nat.add_assoc] using this
  refine⟨_,n,g,rfl,Qlac hn hc,.tree es n _ a cap (λj c=>.int k (g j c)) hspot hn (λi hi=>by simp[Aa7]) (λi c hi hc=>?_) hw λi c hi hc=>?_⟩
  ·unfold wd5;rw[hw i c hi hc];rfl
  ·have:=(Yc7 (Qlg hc)).2
   rw[this];exact Ce3 _ _
theorem me8(w:World):B5 (λk=>w.heap.size<=k) (λ_=>⟨0,0,0⟩) [] (wd5 w) w :=
 ⟨λid b h=>by simp at h,λid id' b b' h=>by simp at h,λ_ _ h=>h,λ_ h=>h⟩
theorem me9 {G : Nat → List Value} {f : FuncId} {S : Sum} (hS : i7 P G f S) {aargs : List b7} {args : List Value} (hrun : ∃ out, (S aargs []).run = some (b true, out)) (hl : aargs.length = args.length)
  (ha:∀(i:Nat) x x',aargs[i]?=some x->args[i]?=some x'->fa1 (λ_=>⟨0,0,0⟩) [] (wd5 w) w x x') (hG:∀g (c:Nat) x,(G g)[c]?=some x->x.oneCell'=true/\w.cell? ⟨g,c,none⟩=some x) :
  Calls P f args.toArray w λe w'=>e=.returned (.bool true)/\Yc6 w w':=by
 obtain⟨out,hrun⟩:=hrun;obtain⟨_,hc⟩:=hS aargs [] (b true) out hrun (λk=>w.heap.size<=k) (λ_=>⟨0,0,0⟩) (wd5 w) w args (me8 w) hl (λi x x' h1 h2=>.val (ha i x x' h1 h2)) (λg c x hx=>by
  obtain⟨h1,h2⟩:=hG g c x hx;exact⟨h1,by unfold wd5;rw[h2];rfl,h2⟩)
 refine hc.mono λe w' ⟨r',he,ρ',F',hA,hH,hW⟩=>?_
 have:=ia2 hW
 subst this;exact⟨he,hA.ext.os,hA.ext.output,hA.ext.size,λk hk=>hA.ext.block k hk (by omega)⟩
theorem de6 {ρ : Rho} {H : List c8} {F : Fz} {t : TypeId} {k : IntKind} {es d : Nat} {v : Value} {dd : DataW D} {pp : List MemPlace} {bs : Nat} {r : Reach} (hag : agT P t = true) (hf : aa8 P d t = some (Ma1 k es)) (hes : P.cellsOf t = es)
  (hok:Value.okWide P w r bs t v) (h:DataW.Trod enc P w base spare held t v dd pp):∃g:Nat->Int,fa1 ρ H F w (.agg (Aa7 k es g)) v:=by
 have hv:∃cs:Array Value,v=.agg cs/\cs.size=P.cellsOf t:=by
  unfold agT at hag;unfold Value.okWide at hok
  split at hag
  ·rename_i fs hu;rw[hu] at hok;obtain⟨cs,h1,h2,_⟩:=hok;exact⟨cs,h1,h2⟩
  ·rename_i n e hu;rw[hu] at hok;obtain⟨cs,h1,h2,_⟩:=hok;exact⟨cs,h1,h2⟩
  ·cases hag
 obtain⟨cs,rfl,hsz⟩:=hv;obtain⟨fuel,hx⟩:=h;have hx:DataW.trod enc P w base spare held fuel t cs.toList=some (dd,pp):=hx;obtain⟨g,hg⟩:=de5 hf hx (by simpa [hes] using hsz)
 refine⟨g,.agg _ _ (by simp[Aa7,hsz,hes]) λc x x' h1 h2=>?_⟩
 obtain⟨hc,rfl⟩:=Yc7 h1
 have:=hg c hc
 have h3:some x'=some (.int k (g c)):=by rw[<- h2];simpa using this
 injection h3 with h3;subst h3;exact .v _
theorem md3 {ρ : Rho} {H : List c8} {t e : TypeId} {k : IntKind} {es d : Nat} {v : Value} {dd : DataW D} {pp : List MemPlace} {bs : Nat} {r : Reach} (ht : P.underlying t = some (.slice e)) (hf : aa8 P d e = some (Ma1 k es)) (hes : P.cellsOf e = es) (h0 : 0 < es)
  (hok:Value.okWide P w r bs t v) (h:DataW.Trod enc P w 0 spare held t v dd pp):∃(n:Nat) (g:Nat->Nat->Int),n<=maxLen/\fa1 ρ H (wd5 w) w (.tree es n λj=>Aa7 k es (g j)) v:=by
 obtain⟨fuel,hx⟩:=h;obtain⟨v',n,g,h1,h2,h3⟩:=ed5 ht hf hes h0 hx;have hv:v.cells=#[v]:=by
  unfold Value.okWide at hok;rw[ht] at hok;cases v with
  |agg cs=>exfalso;simp[Cell.okWide,Cell.ok,ht] at hok
  |_=>rfl
 rw[hv] at h1
 have:v=v':=by simpa using h1
 subst this;exact⟨n,g,h2,.cell (.mem h3)⟩
end
end Go.Ev
namespace Go.Ev.L
open Go Go.Ev
theorem Ce4 {α : Type} (t : Ty α) (n : Nat) (g : Nat → Nat → Int) (f : (Nat → Int) → α) (h : ∀ j, Aa7 .i64 t.es (g j) = t.row (f (g j))) :
  ∃l,(na0 t).dec (.tree t.es n λj=>Aa7 .i64 t.es (g j))=some l/\(na0 t).grd (.tree t.es n λj=>Aa7 .i64 t.es (g j))=true:=by
 refine⟨lsL t n λj=>Aa7 .i64 t.es (g j),?_,Ma0 t (f:=λk=>f (g k)) λk _=>h k⟩
 show Bool.rec (motive:=λ_=>Option (List α)) none (some (lsL t n λj=>Aa7 .i64 t.es (g j))) (Nat.beq t.es t.es)=_
 rw[Nat.beq_refl]
def Rdg{α:Type}(c:Cod α)(x:b7)(a:α):Prop:=c.dec x=some a/\c.grd x=true
theorem Ld2{α:Type}(t:Ty α)(n:Nat)(g:Nat->Nat->Int)(f:(Nat->Int)->α)(h:∀j,Aa7 .i64 t.es (g j)=t.row (f (g j))):∃l,Rdg (na0 t) (.tree t.es n λj=>Aa7 .i64 t.es (g j)) l:=Ce4 t n g f h
theorem Ce5(n:Nat)(g:Nat->Nat->Int):∃l,Rdg (na0 tI) (.tree 1 n λj=>Aa7 .i64 1 (g j)) l:=Ld2 tI n g (λg=>g 0) λ_=>rfl
theorem de7{α:Type}(t:Ty α){cs:List b7}(h:t.ok cs=true):∃a,Rdg (L2 t) (.agg cs) a:=⟨t.rd cs,by
 show Bool.rec (motive:=λ_=>Option α) none (some (t.rd cs)) (t.ok cs)=_
 rw[h],rfl⟩
section
variable{α β γ δ ε:Type}{c:Cod α}{d:Cod β}{e:Cod γ}{f:Cod δ}{c5:Cod ε}{x y z w v:b7}{a:α}{b':β}{g:γ}{j:δ}{m:ε}{r:b7×List c8}
theorem sf4{k:α->β->γ->δ->DT (b7×List c8)}(h1:Rdg c x a)(h2:Rdg d y b')(h3:Rdg e z g)(h4:Rdg f w j)(h:(k a b' g j).run=some r):(Nc3 c d e f k [x,y,z,w] []).run=some r:=by
 unfold Nc3;simp only[h1.1,h1.2,h2.1,h2.2,h3.1,h3.2,h4.1,h4.2];exact h
end
theorem bf1{g p:Bool}(hg:g=true)(hp:p=true):(DT.guard g (.ret ((one r1B).enc p,([]:List c8)))).run=some (b true,([]:List c8)):=by subst hg;subst hp;rfl
end Go.Ev.L
namespace Go.Ev.Ce
open Go Go.Ev Go.Ev.L Go.Proofs
structure B3 where
 b0:Int
 b1:Int
 b2:Int
structure B2 where
 d0:Int
 d1:Int
structure LL where
 u:List Int
 v:List Int
set_option maxRecDepth 100000
noncomputable def ed6:List (Nat×Sum):=[]
theorem Yc8:k8 prog G ed6:=trivial
noncomputable def Pa7(x:V3)(y:V3):Option (b7×List c8):=(sl (decide (y.x<=x.x)) (some (i 0,[])) (sl (decide (y.y<=x.y)) (some (i 0,[])) (sl (decide (y.z<=x.z)) (some (i 0,[])) (some (i (W ((W ((W (y.x-x.x))*(W (y.y-x.y))))*(W (y.z-x.z)))),[])))))
noncomputable def I7(x:V3)(y:V3):Int:=N7 (one r1I) (Pa7 x y)
noncomputable def T6(x:V3)(y:V3):Bool:=okO (one r1I) (Pa7 x y)
noncomputable def db4:Sum:=Da9 (L2 tV) (L2 tV) (λx y=>.guard (T6 x y) (.ret ((one r1I).enc (I7 x y),[])))
theorem tb0:i7 prog G 15 db4:=tb8 (bd b15 Yc8) (one r1I) (o:=Pa7) λx y=>D1 (by kernel_rfl)
noncomputable def Yc9:List (Nat×Sum):=[(11,Pa5),(25,Vc3),(15,db4)]
theorem Hc4:k8 prog G Yc9:=⟨Va0,Id4,tb0,trivial⟩
noncomputable def Ga6(x:List V3)(y:V3)(z:V3):Option (b7×List c8):=let t1:=(Z2 (rt tV x));let t2:=(Cb4 (rt tV x));let t3:=(I7 (⟨(if t2.1.x>y.x then t2.1.x else y.x),(if t2.1.y>y.y then t2.1.y else y.y),(if t2.1.z>y.z then t2.1.z else y.z)⟩:V3) (⟨(if t2.2.1.x<z.x then t2.2.1.x else z.x),(if t2.2.1.y<z.y then t2.2.1.y else z.y),(if t2.2.1.z<z.z then t2.2.1.z else z.z)⟩:V3));(sl (okE tV x) (sl (Z3 (rt tV x)) (sl (t1.2 != 0) (some (.tup [i 0,i t1.2],[])) (sl (okE tV x) (sl (Cb5 (rt tV x)) (sl (T6 (⟨(if t2.1.x>y.x then t2.1.x else y.x),(if t2.1.y>y.y then t2.1.y else y.y),(if t2.1.z>y.z then t2.1.z else y.z)⟩:V3) (⟨(if t2.2.1.x<z.x then t2.2.1.x else z.x),(if t2.2.1.y<z.y then t2.2.1.y else z.y),(if t2.2.1.z<z.z then t2.2.1.z else z.z)⟩:V3)) (some ((.tup [(i (if (W (6*t3))<t1.1 then (W (6*t3)) else t1.1)),i 0]),[])) none) none) none)) none) none)
noncomputable def Ga7(x:List V3)(y:V3)(z:V3):Int×Int:=N7 (two r1I r1I) (Ga6 x y z)
noncomputable def Ga8(x:List V3)(y:V3)(z:V3):Bool:=okO (two r1I r1I) (Ga6 x y z)
noncomputable def tb1:Sum:=qc9 (na0 tV) (L2 tV) (L2 tV) (λx y z=>.guard (Ga8 x y z) (.ret ((two r1I r1I).enc (Ga7 x y z),[])))
theorem Pb9:i7 prog G 13 tb1:=qe5 (bd b13 Hc4) (two r1I r1I) (o:=Ga6) λx y z=>D1 (by kernel_rfl)
noncomputable def wd6:List (Nat×Sum):=[]
theorem ed7:k8 prog G wd6:=trivial
noncomputable def F4(x:Int)(y:Int)(z:Int):V3:=(⟨x,y,z⟩:V3)
noncomputable def Qb0:Sum:=qc9 cI cI cI (λx y z=>.ret ((one r1V).enc (F4 x y z),[]))
theorem pc5:i7 prog G 17 Qb0:=Xd8 (bd b17 ed7) λx y z=>D1 (by kernel_rfl)
noncomputable def Zc0:List (Nat×Sum):=[(17,Qb0)]
theorem Hc5:k8 prog G Zc0:=⟨pc5,trivial⟩
noncomputable def Ga9(x:V3):V3:=let t1:=(F4 (Int.tmod x.x 12) (Int.tmod x.y 12) (Int.tmod x.z 12));t1
noncomputable def ac0:Sum:=N1 (L2 tV) (λx=>.ret ((one r1V).enc (Ga9 x),[]))
theorem Zc1:i7 prog G 10 ac0:=mb8 (bd b10 Hc5) λx=>D1 (by kernel_rfl)
noncomputable def Hc6:List (Nat×Sum):=[(33,Zb8)]
theorem xc7:k8 prog G Hc6:=⟨Yc5,trivial⟩
noncomputable def Aa8(x:List Int):Option (b7×List c8):=let t1:=(Z4 (lsL tI ((if 40<(↑(List.length x):Int) then 40 else (↑(List.length x):Int)).toNat-0) (λk=>(λk=>(tI).row (gL tI x k)) (0+k))));(sl (inB (if 40<(↑(List.length x):Int) then 40 else (↑(List.length x):Int)) ((List.length x)+1)) (sl (okL tI ((if 40<(↑(List.length x):Int) then 40 else (↑(List.length x):Int)).toNat-0) (λk=>(λk=>(tI).row (gL tI x k)) (0+k))) (sl (bb2 (lsL tI ((if 40<(↑(List.length x):Int) then 40 else (↑(List.length x):Int)).toNat-0) (λk=>(λk=>(tI).row (gL tI x k)) (0+k)))) (sl (Nat.ble 1 (List.length (A4 (lsL tI ((if 40<(↑(List.length x):Int) then 40 else (↑(List.length x):Int)).toNat-0) (λk=>(λk=>(tI).row (gL tI x k)) (0+k)))))) (some (eL tV (t1.1::t1.2),[])) none) none) none) none)
noncomputable def Pa8(x:List Int):List V3:=N7 (one (r1L tV)) (Aa8 x)
noncomputable def Pa9(x:List Int):Bool:=okO (one (r1L tV)) (Aa8 x)
noncomputable def Qb1:Sum:=N1 (na0 tI) (λx=>.guard (Pa9 x) (.ret ((one (r1L tV)).enc (Pa8 x),[])))
theorem Hc7:i7 prog G 9 Qb1:=Ea3 (bd b9 xc7) (one (r1L tV)) (o:=Aa8) λx=>D1 (by kernel_rfl)
noncomputable def wd7:List (Nat×Sum):=[(11,Pa5)]
theorem ed8:k8 prog G wd7:=⟨Va0,trivial⟩
noncomputable def Xa3(x:List V3)(y:Int):Option (b7×List c8):=let t1:=(Z2 (rt tV x));(sl (okE tV x) (sl (Z3 (rt tV x)) (sl (t1.2==0) (some (b (t1.1==y),[])) (some (b false,[]))) none) none)
noncomputable def Aa9(x:List V3)(y:Int):Bool:=N7 (one r1B) (Xa3 x y)
noncomputable def Ba0(x:List V3)(y:Int):Bool:=okO (one r1B) (Xa3 x y)
noncomputable def Ac8:Sum:=Da9 (na0 tV) cI (λx y=>.guard (Ba0 x y) (.ret ((one r1B).enc (Aa9 x y),[])))
theorem wd8:i7 prog G 21 Ac8:=tb8 (bd b21 ed8) (one r1B) (o:=Xa3) λx y=>D1 (by kernel_rfl)
noncomputable def ed9:List (Nat×Sum):=[(13,tb1)]
theorem Zc2:k8 prog G ed9:=⟨Pb9,trivial⟩
noncomputable def Qa0(x:List V3)(y:V3)(z:V3)(w:Int):Option (b7×List c8):=let t1:=(Ga7 (rt tV x) y z);(sl (okE tV x) (sl (Ga8 (rt tV x) y z) (sl (t1.2==0) (some (b (t1.1==w),[])) (some (b false,[]))) none) none)
noncomputable def ga3(x:List V3)(y:V3)(z:V3)(w:Int):Bool:=N7 (one r1B) (Qa0 x y z w)
noncomputable def sa5(x:List V3)(y:V3)(z:V3)(w:Int):Bool:=okO (one r1B) (Qa0 x y z w)
noncomputable def pc6:Sum:=Nc3 (na0 tV) (L2 tV) (L2 tV) cI (λx y z w=>.guard (sa5 x y z w) (.ret ((one r1B).enc (ga3 x y z w),[])))
theorem fd0:i7 prog G 26 pc6:=Te9 (bd b26 Zc2) (one r1B) (o:=Qa0) λx y z w=>D1 (by kernel_rfl)
noncomputable def Hc8:List (Nat×Sum):=[(17,Qb0),(11,Pa5),(21,Ac8),(24,Zb3),(15,db4),(26,pc6)]
theorem xc8:k8 prog G Hc8:=⟨pc5,Va0,wd8,Wc8,tb0,fd0,trivial⟩
noncomputable def Ba1  : Option (b7×List c8):=let t1:=(F4 0 0 0);let t2:=(F4 5 5 5);let t3:=(F4 2 0 0);let t4:=(F4 0 2 0);let t5:=(F4 0 0 2);let t6:=(F4 1 0 0);let t7:=(F4 0 1 0);let t8:=(F4 1 1 0);let t9:=(Z2 [t1,t6,t7,t8]);let t10:=(Z2 [(⟨0,0,0⟩:V3),(⟨0,0,0⟩:V3),(⟨0,0,0⟩:V3),(⟨0,0,0⟩:V3),(⟨0,0,0⟩:V3),(⟨0,0,0⟩:V3),(⟨0,0,0⟩:V3),(⟨0,0,0⟩:V3),(⟨0,0,0⟩:V3),(⟨0,0,0⟩:V3),(⟨0,0,0⟩:V3),(⟨0,0,0⟩:V3),(⟨0,0,0⟩:V3),(⟨0,0,0⟩:V3),(⟨0,0,0⟩:V3),(⟨0,0,0⟩:V3),(⟨0,0,0⟩:V3),(⟨0,0,0⟩:V3),(⟨0,0,0⟩:V3),(⟨0,0,0⟩:V3),(⟨0,0,0⟩:V3),(⟨0,0,0⟩:V3),(⟨0,0,0⟩:V3),(⟨0,0,0⟩:V3),(⟨0,0,0⟩:V3),(⟨0,0,0⟩:V3),(⟨0,0,0⟩:V3),(⟨0,0,0⟩:V3),(⟨0,0,0⟩:V3),(⟨0,0,0⟩:V3),(⟨0,0,0⟩:V3),(⟨0,0,0⟩:V3),(⟨0,0,0⟩:V3),(⟨0,0,0⟩:V3),(⟨0,0,0⟩:V3),(⟨0,0,0⟩:V3),(⟨0,0,0⟩:V3),(⟨0,0,0⟩:V3),(⟨0,0,0⟩:V3),(⟨0,0,0⟩:V3),(⟨0,0,0⟩:V3),(⟨0,0,0⟩:V3),(⟨0,0,0⟩:V3),(⟨0,0,0⟩:V3),(⟨0,0,0⟩:V3),(⟨0,0,0⟩:V3),(⟨0,0,0⟩:V3),(⟨0,0,0⟩:V3),(⟨0,0,0⟩:V3)]);let t11:=(Aa9 [t1,t3,t4,t5] 8);let t12:=(F4 1 2 3);let t13:=(sb4 t1 t12);let t14:=(Aa9 (rt tV t13) 36);let t15:=(I7 t1 t12);let t16:=(F4 1 0 3);let t17:=(I7 t1 t16);let t18:=(F4 (-1) (-1) 3);let t19:=(I7 t1 t18);let t20:=(F4 1 1 1);let t21:=(ga3 [t1,t3,t4,t5] t1 t20 6);let t22:=(ga3 [t1,t3,t4,t5] t1 t2 8);let t23:=(F4 3 0 0);let t24:=(F4 4 4 4);let t25:=(ga3 [t1,t3,t4,t5] t23 t24 0);let w0:Option (b7×List c8):=(sl (T6 t1 t12) (sl (t15==6) (sl (T6 t1 t16) (sl (t17==0) (sl (T6 t1 t18) (some (b false,[])) none) (some (b false,[]))) none) (some (b false,[]))) none);(sl (Z3 [t1,t6,t7,t8]) (sl (Z3 [(⟨0,0,0⟩:V3),(⟨0,0,0⟩:V3),(⟨0,0,0⟩:V3),(⟨0,0,0⟩:V3),(⟨0,0,0⟩:V3),(⟨0,0,0⟩:V3),(⟨0,0,0⟩:V3),(⟨0,0,0⟩:V3),(⟨0,0,0⟩:V3),(⟨0,0,0⟩:V3),(⟨0,0,0⟩:V3),(⟨0,0,0⟩:V3),(⟨0,0,0⟩:V3),(⟨0,0,0⟩:V3),(⟨0,0,0⟩:V3),(⟨0,0,0⟩:V3),(⟨0,0,0⟩:V3),(⟨0,0,0⟩:V3),(⟨0,0,0⟩:V3),(⟨0,0,0⟩:V3),(⟨0,0,0⟩:V3),(⟨0,0,0⟩:V3),(⟨0,0,0⟩:V3),(⟨0,0,0⟩:V3),(⟨0,0,0⟩:V3),(⟨0,0,0⟩:V3),(⟨0,0,0⟩:V3),(⟨0,0,0⟩:V3),(⟨0,0,0⟩:V3),(⟨0,0,0⟩:V3),(⟨0,0,0⟩:V3),(⟨0,0,0⟩:V3),(⟨0,0,0⟩:V3),(⟨0,0,0⟩:V3),(⟨0,0,0⟩:V3),(⟨0,0,0⟩:V3),(⟨0,0,0⟩:V3),(⟨0,0,0⟩:V3),(⟨0,0,0⟩:V3),(⟨0,0,0⟩:V3),(⟨0,0,0⟩:V3),(⟨0,0,0⟩:V3),(⟨0,0,0⟩:V3),(⟨0,0,0⟩:V3),(⟨0,0,0⟩:V3),(⟨0,0,0⟩:V3),(⟨0,0,0⟩:V3),(⟨0,0,0⟩:V3),(⟨0,0,0⟩:V3)]) (sl (Ba0 [t1,t3,t4,t5] 8) (sl t11 (sl (sb5 t1 t12) (sl (okE tV t13) (sl (Ba0 (rt tV t13) 36) (sl t14 (sl (t9.2==11) (sl (T6 t1 t12) (sl (t15==6) (sl (T6 t1 t16) (sl (t17==0) (sl (T6 t1 t18) (sl (t10.2==2) (sl (t19==0) (sl (sa5 [t1,t3,t4,t5] t1 t20 6) (sl t21 (sl (sa5 [t1,t3,t4,t5] t1 t2 8) (sl t22 (sl (sa5 [t1,t3,t4,t5] t23 t24 0) (some (b t25,[])) none) (some (b false,[]))) none) (some (b false,[]))) none) (some (b false,[]))) (some (b false,[]))) none) (sl (t10.2==2) (some (b false,[])) (some (b false,[])))) none) (sl (t10.2==2) (some (b false,[])) (some (b false,[])))) none) w0) w0) none) none) none) w0) none) none) none)
noncomputable def Qa1  : Bool:=N7 (one r1B) Ba1
noncomputable def Qa2  : Bool:=okO (one r1B) Ba1
noncomputable def Qb2:Sum:=Pd7  (.guard Qa2 (.ret ((one r1B).enc Qa1,[])))
theorem Hc9:i7 prog G 8 Qb2:=lf5 (bd b8 xc8) (one r1B) (o:=Ba1) (D1 (by kernel_rfl))
structure ne2 where
 s7:List V3
 lf4:List Pln
 (C9 Ee4:Int)
 sf5:List V3
 (lb8 d9 d7 f0 j5:Int)
structure ne3 where
 M9:Int
structure ne4 where
 C9:Int
structure ne5 where
 s7:List V3
 lf4:List Pln
 Ee4:Int
noncomputable def bxS(s:V3×V3)(v:V3):V3×V3:=(⟨if v.x<s.1.x then v.x else s.1.x,if v.y<s.1.y then v.y else s.1.y,if v.z<s.1.z then v.z else s.1.z⟩,⟨if v.x>s.2.x then v.x else s.2.x,if v.y>s.2.y then v.y else s.2.y,if v.z>s.2.z then v.z else s.2.z⟩)
noncomputable def bxL:List V3->V3×V3×Bool
 |[]=>(⟨0,0,0⟩,⟨0,0,0⟩,false)
 |v::l=>(((v::l).foldl bxS (v,v)).1,((v::l).foldl bxS (v,v)).2,true)
noncomputable def bxT(l:List V3)(j:Nat):V3×V3:=(l.take j).foldl bxS (gL tV l 0,gL tV l 0)
theorem Ld3{l:List V3}{j:Nat}(hj:j<l.length):bxT l (j+1)=bxS (bxT l j) (gL tV l j):=by
 unfold bxT;rw[Ca9 tV hj,List.foldl_append];rfl
theorem Re5{l:List V3}(h:l≠[]):bxL l=((bxT l l.length).1,(bxT l l.length).2,true):=by
 cases l with
 |nil=>exact absurd rfl h
 |cons v l =>
  unfold bxT;rw[Qlj];rfl
theorem Re6(l:List V3)(hl:l.length<=1000000):kb0 l=some (.tup [.agg [i (bxL l).1.x,i (bxL l).1.y,i (bxL l).1.z],.agg [i (bxL l).2.1.x,i (bxL l).2.1.y,i (bxL l).2.1.z],b (bxL l).2.2],[]):=by
 by_cases hne:l=[]
 ·subst hne;rfl
 have hp:0<l.length:=List.length_pos_iff.2 hne;obtain⟨t,s,h,rfl,k,rfl⟩:=F9 (step:=va9 ⟨l,(l.length:Int)⟩) (mk:=λj (q:V3×V3)=>(⟨(j:Int),q.1.x,q.1.y,q.1.z,q.2.x,q.2.y,q.2.z⟩:ma5)) l.length (λj q=>j<=l.length/\q=bxT l j) (λt s=>t=1/\∃k:Int,s=⟨k,(bxT l l.length).1.x,(bxT l l.length).1.y,(bxT l l.length).1.z,(bxT l l.length).2.x,(bxT l l.length).2.y,(bxT l l.length).2.z⟩) (by omega)
  (λj q hj hi=>by
   obtain⟨_,rfl⟩:=hi;have hn:=v8 hj (show l.length<=4611686018427387904 by omega)
   simp only[va9,Aa1,Int.toNat_natCast,hn];rw[btD (j7 hj),bt (i5 hj)];exact .nx ⟨bxT l (j+1),by rw[Ld3 hj];rfl,by omega,rfl⟩)
  (λj q hj hi=>by
   obtain⟨hje,rfl⟩:=hi;have hje:j=l.length:=by omega
   subst hje;refine⟨1,?_,rfl,_,rfl⟩;simp only[va9,Aa1];rw[bfD (j6 (Qlb _))]) 0 (bxT l 0) ⟨Qld _,rfl⟩
 have h:lp (va9 ⟨l,(l.length:Int)⟩) ⟨0,(gL tV l 0).x,(gL tV l 0).y,(gL tV l 0).z,(gL tV l 0).x,(gL tV l 0).y,(gL tV l 0).z⟩=_:=h;unfold kb0;simp only[l5,j9,h];rw[bf (show ((l.length:Int)==0)=false from by rw[beq_eq_false_iff_ne];omega),bt (show inB 0 l.length=true from i5 (j:=0) hp),Re5 hne,bt (show inB 0 l.length=true from i5 (j:=0) hp)]
 rfl
theorem kf7(l:List V3)(hl:l.length<=1000000):Cb4 l=bxL l:=by unfold Cb4;rw[Re6 l hl];rfl
theorem kf8(l:List V3)(hl:l.length<=1000000):Cb5 l=true:=by unfold Cb5;rw[Re6 l hl];rfl
theorem bf2(x y:V3):∃n,Pa7 x y=some (i n,[]):=by
 unfold Pa7 sl;cases decide (y.x<=x.x)<;>cases decide (y.y<=x.y)<;>cases decide (y.z<=x.z)<;>exact⟨_,rfl⟩
theorem wd9(x y:V3):T6 x y=true:=by
 obtain⟨n,h⟩:=bf2 x y;unfold T6;rw[h];rfl
noncomputable def Oe6(s:V3×V3×Bool)(y:V3):V3:=⟨if s.1.x>y.x then s.1.x else y.x,if s.1.y>y.y then s.1.y else y.y,if s.1.z>y.z then s.1.z else y.z⟩
noncomputable def de8(s:V3×V3×Bool)(z:V3):V3:=⟨if s.2.1.x<z.x then s.2.1.x else z.x,if s.2.1.y<z.y then s.2.1.y else z.y,if s.2.1.z<z.z then s.2.1.z else z.z⟩
noncomputable def ab4(l:List V3)(y z:V3):Int×Int:=if (qa5 l).2=0 then ((if W (6*I7 (Oe6 (bxL l) y) (de8 (bxL l) z))<(qa5 l).1 then W (6*I7 (Oe6 (bxL l) y) (de8 (bxL l) z)) else (qa5 l).1),0) else (0,(qa5 l).2)
theorem Ce6(l:List V3)(y z:V3)(hl:l.length<=900000):Ga6 l y z=some (.tup [i (ab4 l y z).1,i (ab4 l y z).2],[]):=by
 unfold Ga6 ab4;simp only[l5,L5,j9,Ld0 l hl,Ld1 l hl,kf7 l (by omega),kf8 l (by omega),wd9]
 by_cases h:(qa5 l).2=0
 ·rw[if_pos h,bf (show ((qa5 l).2 != 0)=false from by rw[bne_eq_false_iff_eq];exact h)]
  rfl
 ·rw[if_neg h,bt (show ((qa5 l).2 != 0)=true from bne_iff_ne.2 h)]
  rfl
theorem Ce7(l:List V3)(y z:V3)(hl:l.length<=900000):Ga7 l y z=ab4 l y z:=by unfold Ga7;rw[Ce6 l y z hl];rfl
theorem Ce8(l:List V3)(y z:V3)(hl:l.length<=900000):Ga8 l y z=true:=by unfold Ga8;rw[Ce6 l y z hl];rfl
theorem Ce9(l:List V3)(n:Int)(hl:l.length<=900000):Xa3 l n=some (b (decide ((qa5 l).2=0/\(qa5 l).1=n)),[]):=by
 unfold Xa3;simp only[l5,L5,Ld0 l hl,Ld1 l hl];by_cases h:(qa5 l).2=0
 ·rw[bt rfl,bt rfl,bt (beq_iff_eq.2 h)];by_cases h2:(qa5 l).1=n
  ·rw[decide_eq_true ⟨h,h2⟩,beq_iff_eq.2 h2]
  ·rw[decide_eq_false (λk=>h2 k.2),beq_eq_false_iff_ne.2 h2]
 ·rw[bt rfl,bt rfl,bf (beq_eq_false_iff_ne.2 h),decide_eq_false (λk=>h k.1)]
theorem De0(l:List V3)(n:Int)(hl:l.length<=900000):Aa9 l n=decide ((qa5 l).2=0/\(qa5 l).1=n):=by unfold Aa9;rw[Ce9 l n hl];rfl
theorem De1(l:List V3)(n:Int)(hl:l.length<=900000):Ba0 l n=true:=by unfold Ba0;rw[Ce9 l n hl];rfl
theorem de9(l:List V3)(y z:V3)(n:Int)(hl:l.length<=900000):Qa0 l y z n=some (b (decide ((ab4 l y z).2=0/\(ab4 l y z).1=n)),[]):=by
 unfold Qa0;simp only[l5,L5,Ce7 l y z hl,Ce8 l y z hl];by_cases h:(ab4 l y z).2=0
 ·rw[bt rfl,bt rfl,bt (beq_iff_eq.2 h)];by_cases h2:(ab4 l y z).1=n
  ·rw[decide_eq_true ⟨h,h2⟩,beq_iff_eq.2 h2]
  ·rw[decide_eq_false (λk=>h2 k.2),beq_eq_false_iff_ne.2 h2]
 ·rw[bt rfl,bt rfl,bf (beq_eq_false_iff_ne.2 h),decide_eq_false (λk=>h k.1)]
theorem xd0(l:List V3)(y z:V3)(n:Int)(hl:l.length<=900000):ga3 l y z n=decide ((ab4 l y z).2=0/\(ab4 l y z).1=n):=by unfold ga3;rw[de9 l y z n hl];rfl
theorem Oe7(l:List V3)(y z:V3)(n:Int)(hl:l.length<=900000):sa5 l y z n=true:=by unfold sa5;rw[de9 l y z n hl];rfl
theorem De2{l d:List V3}{n:Int}(hc:V1 l=0)(hd:d.Pairwise LtV)(hm:∀v,v∈l↔v∈d)(hn:V6l (d.filter (kv (F0 l)))=n):qa5 l=(n,0):=by
 have e:dis l=d:=Pb6 _ _ (Ud0 _) hd λv=>by rw[Cb0];exact hm v
 unfold qa5 ea8;rw[if_pos hc,e,hn]
noncomputable def tt:List V3:=[⟨0,0,0⟩,⟨2,0,0⟩,⟨0,2,0⟩,⟨0,0,2⟩]
theorem De3:qa5 tt=(8,0):=by
 refine De2 (d:=[⟨0,0,0⟩,⟨0,0,2⟩,⟨0,2,0⟩,⟨2,0,0⟩]) (by kernel_rfl) (by simp[LtV]) (λv=>?_) (by kernel_rfl)
 unfold tt;simp only[Qlc,Qlv,or_false]
 constructor<;>rintro (h | h | h | h)<;>simp[h]
noncomputable def qd:List V3:=[⟨0,0,0⟩,⟨1,0,0⟩,⟨0,2,0⟩,⟨1,2,0⟩,⟨0,0,3⟩,⟨1,0,3⟩,⟨0,2,3⟩,⟨1,2,3⟩]
theorem bf3:qa5 qd=(36,0):=by
 refine De2 (d:=[⟨0,0,0⟩,⟨0,0,3⟩,⟨0,2,0⟩,⟨0,2,3⟩,⟨1,0,0⟩,⟨1,0,3⟩,⟨1,2,0⟩,⟨1,2,3⟩]) (by kernel_rfl) (by simp[LtV]) (λv=>?_) (by kernel_rfl)
 unfold qd;simp only[Qlc,Qlv,or_false]
 constructor<;>rintro (h | h | h | h | h | h | h | h)<;>simp[h]
theorem bf4:qa5 [⟨0,0,0⟩,⟨1,0,0⟩,⟨0,1,0⟩,⟨1,1,0⟩]=(0,11):=by
 have h:V1 [⟨0,0,0⟩,⟨1,0,0⟩,⟨0,1,0⟩,⟨1,1,0⟩]=11:=by kernel_rfl
 unfold qa5;rw[h,if_neg (by omega)]
theorem De4:qa5 (List.replicate 49 ⟨0,0,0⟩)=(0,2):=by
 have h:V1 (List.replicate 49 ⟨0,0,0⟩)=2:=by kernel_rfl
 unfold qa5;rw[h,if_neg (by omega)]
theorem bf5:bxL tt=(⟨0,0,0⟩,⟨2,2,2⟩,true):=by kernel_rfl
theorem xd1(y z:V3)(n:Int)(h:(if W (6*I7 (Oe6 (⟨0,0,0⟩,⟨2,2,2⟩,true) y) (de8 (⟨0,0,0⟩,⟨2,2,2⟩,true) z))<8 then W (6*I7 (Oe6 (⟨0,0,0⟩,⟨2,2,2⟩,true) y) (de8 (⟨0,0,0⟩,⟨2,2,2⟩,true) z)) else 8)=n):ab4 tt y z=(n,0):=by
 unfold ab4;rw[De3,bf5,if_pos rfl];show (_,_)=_;rw[h]
theorem Ld4:Ba1=some (b true,[]):=by
 have e49:∀n m:V3,Z2 (List.replicate 49 ⟨0,0,0⟩)=(0,2)/\Z3 (List.replicate 49 ⟨0,0,0⟩)=true:=λ_ _=>⟨by rw[Ld0 _ (by simp),De4],Ld1 _ (by simp)⟩
 have v:∀x y z,F4 x y z=⟨x,y,z⟩:=λ_ _ _=>rfl
 have hc:sb4 ⟨0,0,0⟩ ⟨1,2,3⟩=qd:=by kernel_rfl
 have hcg:sb5 ⟨0,0,0⟩ ⟨1,2,3⟩=true:=by kernel_rfl
 have s1:Aa9 tt 8=true:=by rw[De0 _ _ (by simp[tt]),De3];rfl
 have s1g:Ba0 tt 8=true:=De1 _ _ (by simp[tt])
 have s2:Aa9 qd 36=true:=by rw[De0 _ _ (by simp[qd]),bf3];rfl
 have s2g:Ba0 qd 36=true:=De1 _ _ (by simp[qd])
 have f1:Z2 [⟨0,0,0⟩,⟨1,0,0⟩,⟨0,1,0⟩,⟨1,1,0⟩]=(0,11):=by rw[Ld0 _ (by simp),bf4]
 have f1g:Z3 [⟨0,0,0⟩,⟨1,0,0⟩,⟨0,1,0⟩,⟨1,1,0⟩]=true:=Ld1 _ (by simp)
 have m1:ga3 tt ⟨0,0,0⟩ ⟨1,1,1⟩ 6=true:=by rw[xd0 _ _ _ _ (by simp[tt]),xd1 _ _ 6 (by kernel_rfl)];rfl
 have m2:ga3 tt ⟨0,0,0⟩ ⟨5,5,5⟩ 8=true:=by rw[xd0 _ _ _ _ (by simp[tt]),xd1 _ _ 8 (by kernel_rfl)];rfl
 have m3:ga3 tt ⟨3,0,0⟩ ⟨4,4,4⟩ 0=true:=by rw[xd0 _ _ _ _ (by simp[tt]),xd1 _ _ 0 (by kernel_rfl)];rfl
 have mg:∀y z n,sa5 tt y z n=true:=λy z n=>Oe7 _ _ _ _ (by simp[tt])
 have b1:I7 ⟨0,0,0⟩ ⟨1,2,3⟩=6:=by kernel_rfl
 have b2:I7 ⟨0,0,0⟩ ⟨1,0,3⟩=0:=by kernel_rfl
 have b3:I7 ⟨0,0,0⟩ ⟨-1,-1,3⟩=0:=by kernel_rfl
 have t0:[(⟨0,0,0⟩:V3),⟨2,0,0⟩,⟨0,2,0⟩,⟨0,0,2⟩]=tt:=rfl;obtain⟨q1,q2⟩:=e49 ⟨0,0,0⟩ ⟨0,0,0⟩;simp only[List.replicate] at q1 q2;unfold Ba1;simp only[v,l5,L5,q1,q2,hc,hcg,t0,s1,s1g,s2,s2g,f1,f1g,m1,m2,m3,mg,b1,b2,b3,wd9];rfl
theorem Wd0:Qa1=true:=by unfold Qa1;rw[Ld4];rfl
theorem Wd1:Qa2=true:=by unfold Qa2;rw[Ld4];rfl
noncomputable def ha8(l:List V3):List V3:=ea8 (F0 l) l
noncomputable def CN(p:Pln)(X:List V3)(o:V3):Int:=AR (onF p X) p.n (e8 (ptF p X) o)
theorem Sol.same{l l':List V3}(h:Sol l)(hs:∀u∈l,u∈l'):Sol l':=by
 obtain⟨a,c,k,v,ha,hc,hk,hv,hne⟩:=h;exact⟨a,c,k,v,hs a ha,hs c hc,hs k hk,hs v hv,hne⟩
section
variable{l:List V3}(hc:V1 l=0)
include hc
theorem Kc3:Pol (ha8 l):=by
 obtain⟨_,hl,h4⟩:=la0 hc;exact de3 hl h4
theorem Ld5(o:V3):qa5 l=(sig (F0 l) λp=>CN p (ha8 l) o,0):=by
 obtain⟨_,hl,h4⟩:=la0 hc;have h:=(Kc3 hc).v6l o;unfold qa5;rw[if_pos hc];show (V6l (ha8 l),(0:Int))=_;rw[<- h];unfold V6;rw[show F0 (ha8 l)=F0 l from af8 hl h4]
 rfl
theorem Oe8{p:Pln}(hp:p∈F0 l)(o:V3):(dot p.n o<p.b->0<CN p (ha8 l) o)/\(dot p.n o=p.b->CN p (ha8 l) o=0)/\(p.b<dot p.n o->CN p (ha8 l) o<0):=by
 obtain⟨_,hl,h4⟩:=la0 hc;exact (Kc3 hc).cone (wd0 hl h4 ((N6 hl p).1 hp)) o
end
theorem pcE(x:List Int):(Z4 x).1::(Z4 x).2=A4 x:=by
 have h:=Tc9 x;unfold Z4;cases hL:A4 x with
 |nil=>rw[hL] at h;simp at h
 |cons a l=>rfl
theorem Zc3(x:List Int):Aa8 x=some (eL tV (A4 (x.take 40)),[]):=by
 have hwl:((if (40:Int)<(↑(List.length x):Int) then (40:Int) else (↑(List.length x):Int)).toNat-0)=(x.take 40).length:=by
  rw[Qlad];split<;>omega
 have hin:inB (if (40:Int)<(↑(List.length x):Int) then (40:Int) else (↑(List.length x):Int)) (x.length+1)=true:=by
  split
  ·exact i5 (j:=40) (by omega)
  ·exact i5 (by omega)
 have hg:∀k,k<(x.take 40).length->(λk=>(λk=>tI.row (gL tI x k)) (0+k)) k=tI.row (gL tI (x.take 40) k):=λk hk=>by
  show tI.row (gL tI x (0+k))=_;have hk8:k<40:=by rw[Qlad] at hk;omega
  rw[Qlz,Ac5 tI x hk8]
 have h4:Nat.ble 1 (A4 (x.take 40)).length=true:=by
  have:=(Tc9 (x.take 40)).1
  rw[Nat.ble_eq];omega
 unfold Aa8;rw[hin,hwl,pb8 tI rfl hg,Ma0 tI (f:=λk=>gL tI (x.take 40) k) hg]
 simp only[ve9,h4,pcE];rfl
theorem Wd2(x:List Int):Pa8 x=A4 (x.take 40):=by
 unfold Pa8;rw[Zc3];exact jd9 _ (by
  show (r1L tV).rd [] (eL tV _)=_;show Bool.rec (motive:=λ_=>Option (List V3)) none (some (rL tV (eL tV (A4 (x.take 40))))) (okE tV (A4 (x.take 40)))=_
  rw[L5];exact congrArg some (l5 tV _))
theorem Wd3(x:List Int):Pa9 x=true:=by
 unfold Pa9;rw[Zc3];exact Fd5 (one (r1L tV)) (r:=A4 (x.take 40)) (by
  show Bool.rec (motive:=λ_=>Option (List V3)) none (some (rL tV (eL tV (A4 (x.take 40))))) (okE tV (A4 (x.take 40)))=_
  rw[L5];exact congrArg some (l5 tV _))
theorem Mp.chk{l:List V3}(h:Mp l):V1 l=0:=xb0 (by have:=h.l8;omega) h.inV (ye4 h.nf)
structure Re7 where
 s7:List V3
 (d9 d7 f0 j5:Int)
structure Re8 where
 ph:Nat
 is6:Int
 ns5:Nat
 eh1:List (List b7)
structure cf8 where
 (alt ns0:Nat)
 eh0:List (List b7)
structure xd4 where
 bs5:Bool
 Gb9:List V3
 C9:Int
 sf6:List Pln
 (sf7 d9 d7 f0:Int)
structure xd5 where
 (Pe6 sf8:Int)
theorem kf9(l:List V3)(v:V3):app (bL tV l) [[i v.x,i v.y,i v.z]]=bL tV (l++[v]):=mc6 l v.x v.y v.z
theorem Ld6 (P : sa2) (p : Pln) (X : List V3) (h1 : P.s7 = X) (h3 : P.d9 = p.n.x ∧ P.d7 = p.n.y ∧ P.f0 = p.n.z ∧ P.j5 = p.b) (hp : okp p = true) (hX : ∀ v ∈ X, inV v = true) (hl : X.length ≤ 1000000) :
  ∃j,lp (Wa9 P) ⟨0,0,0,[]⟩=(phV (onF p X)+1,⟨phV (onF p X),j,(onF p X).length,bL tV (onF p X)⟩):=by
 suffices key:∃t s,lp (Wa9 P) ⟨0,0,0,[]⟩=(t,s)/\(t=phV (onF p X)+1/\∃j,s=⟨phV (onF p X),j,(onF p X).length,bL tV (onF p X)⟩) by
  obtain⟨t,s,h,rfl,j,rfl⟩:=key;exact⟨j,h⟩
 refine F9 (step:=Wa9 P) (mk:=λj (o:List V3)=>(⟨phV o,(j:Int),o.length,bL tV o⟩:K6)) X.length (λj o=>j<=X.length/\o=onF p (X.take j)) (λt s=>t=phV (onF p X)+1/\∃j,s=⟨phV (onF p X),j,(onF p X).length,bL tV (onF p X)⟩) (by omega)
  (λj o hj hi=>?_) (λj o hj hi=>?_) 0 [] ⟨Qld _,by simp[onF]⟩
 ·obtain⟨_,hi⟩:=hi;have hN:=v8 hj (show X.length<=4611686018427387904 by omega)
  have hv:=hX _ (ja1 tV hj);have hlen:o.length<=1000000:=by
   rw[hi];have a1:=Qle (λv=>decide (dot p.n v=p.b)) (X.take j)
   have a2:=Qlh j X;unfold onF;omega
  have hT:onF p (X.take (j+1))=if dot p.n (gL tV X j)=p.b then o++[gL tV X j] else o:=by
   rw[Ca9 tV hj,hi];unfold onF;rw[List.filter_append];by_cases hc:dot p.n (gL tV X j)=p.b
   ·rw[if_pos hc,Qlw,if_pos (decide_eq_true hc)];rfl
   ·rw[if_neg hc,Qlw,if_neg (by rw[decide_eq_true_eq];exact hc),List.filter_nil,Qly]
  have hside:(da4 ⟨⟨P.d9,P.d7,P.f0⟩,P.j5⟩ (gL tV X j)==0)=decide (dot p.n (gL tV X j)=p.b):=by
   rw[h3.1,h3.2.1,h3.2.2.1,h3.2.2.2];show (da4 p (gL tV X j)==0)=_;rw[Uc3,Re3 hp hv]
  clear hi
  cases o with
  |nil =>
   show Nx (sa3 Stp.next Stp.exit Stp.fail _ _) _ _;simp only[sa3,Int.toNat_natCast,h1,hside,Ob0,hN,i5 hj];rw[btD (j7 hj)];by_cases hc:dot p.n (gL tV X j)=p.b
   ·rw[if_pos hc] at hT;rw[decide_eq_true hc];exact Nx.nx (s:=(⟨1,((j+1:Nat):Int),1,bL tV ([]++[gL tV X j])⟩:K6)) (N:=λs=>∃o',s=(⟨phV o',((j+1:Nat):Int),o'.length,bL tV o'⟩:K6)/\(j+1<=X.length/\o'=onF p (X.take (j+1)))) ⟨[]++[gL tV X j],rfl,by omega,hT.symm⟩
   ·rw[if_neg hc] at hT;rw[decide_eq_false hc];exact Nx.nx (s:=(⟨0,((j+1:Nat):Int),0,[]⟩:K6)) ⟨[],rfl,by omega,hT.symm⟩
  |cons q o =>
   have rr:(Nat.beq (q::o).length (len (bL tV (q::o)))&&Nat.ble (((q::o).length+1)*24) room)=true:=ae9 rfl (by omega)
   show Nx (sa4 Stp.next Stp.exit Stp.fail _ _) _ _;simp only[sa4,Int.toNat_natCast,h1,hside,Ob0,hN,i5 hj,rr,kf9];rw[btD (j7 hj)];by_cases hc:dot p.n (gL tV X j)=p.b
   ·rw[if_pos hc] at hT;rw[decide_eq_true hc];exact Nx.nx (s:=(⟨1,((j+1:Nat):Int),(q::o).length+1,bL tV ((q::o)++[gL tV X j])⟩:K6)) ⟨(q::o)++[gL tV X j],by rw[td0,Qlt];rfl,by omega,hT.symm⟩
   ·rw[if_neg hc] at hT;rw[decide_eq_false hc];exact Nx.nx (s:=(⟨1,((j+1:Nat):Int),(q::o).length,bL tV (q::o)⟩:K6)) ⟨q::o,rfl,by omega,hT.symm⟩
 ·obtain⟨h4,hi⟩:=hi;have e:j=X.length:=by omega
  subst e;rw[Qlj] at hi;rw[<- hi];cases o with
  |nil =>
   refine⟨1,?_,rfl,_,rfl⟩;show sa3 Stp.next Stp.exit Stp.fail _ _=_;simp only[sa3,h1];rw[bfD (j6 (Qlb _))]
  |cons q o =>
   refine⟨2,?_,rfl,_,rfl⟩;show sa4 Stp.next Stp.exit Stp.fail _ _=_;simp only[sa4,h1];rw[bfD (j6 (Qlb _))]
theorem bf6{l:List V3}(hc:V1 l=0):Sm 100000000000000000 (qa5 l).1:=by
 obtain⟨h48,hl,h4⟩:=la0 hc;have hX:=Kc3 hc;have hlen:(ha8 l).length<=48:=by have:=wd4 (l:=l);unfold ha8;omega
 have hF:(F0 (ha8 l)).length<=1000000:=Ob8 hlen hX.iv;have hbs:=Pb7 (l:=F0 (ha8 l)) (B:=3057647616) (f:=λp=>AR (onF p (ha8 l)) p.n (ptF p (ha8 l))) λp hp=>hX.ar_bd hlen (hX.mem.1 hp)
 have hlt:(F0 (ha8 l)).length*3057647616<=1000000*3057647616:=Qlf _ hF;unfold qa5;rw[if_pos hc];exact hbs.mono (by omega)
section
variable{l:List V3}(hc:V1 l=0)(h40:l.length<=40){v:V3}(hv:inV v=true)(hin:∀p∈F0 l,dot p.n v<=p.b)
include hc h40 hv hin
end
def db5(C:List V3)(n a c:V3):Bool:=!(C.any λv=>!eqV v a&&(!eqV v c&&decide (orp n a c v<=0)))&&!eqV a c
theorem yb5{a c:V3}:eqV a c=false↔a≠c:=by
 rw[<- Bool.not_eq_true,Ua7]
theorem Zc4{C:List V3}{n a c:V3}(ha:a∈C)(hc:c∈C):db5 C n a c=true↔Edg C n a c:=by
 unfold db5 Edg;rw[Qlae,Qlu,Qlu,List.any_eq_false,yb5];constructor
 ·rintro⟨h1,h2⟩;refine⟨ha,hc,h2,λv hv va vc=>?_⟩
  apply Qla;intro hno;exact h1 v hv (by rw[yb5.2 va,yb5.2 vc,decide_eq_true (by omega)];rfl)
 ·rintro⟨_,_,h2,h1⟩;refine⟨λv hv hno=>?_,h2⟩
  rw[Qlae,Qlae,Qlu,Qlu,yb5,yb5,decide_eq_true_eq] at hno
  have:=h1 v hv hno.1 hno.2.1
  omega
section
variable{n:V3}{C:List V3}(hn:Sm3 4608 n)(hC:∀c∈C,inV c=true)(hl:C.length<=1000)
include hn hC hl
theorem De5{a c:V3}(ha:inV a=true)(hc:inV c=true):kb5 n C a c=some (b (db5 C n a c),[]):=by
 have h:=Bb5 (step:=Ga4 ⟨C,n.x,n.y,n.z,a.x,a.y,a.z,c.x,c.y,c.z⟩) (mk:=λj=>(⟨(j:Int)⟩:ga2)) (c:=λv=>!eqV v a&&(!eqV v c&&decide (orp n a c v<=0))) (u:=1) (fin:=2) tV C (by omega)
  (λj hj=>by
   have hv:=hC _ (ja1 tV hj);have ho:aa9 n (Z6 (L7 c a) (L7 (gL tV C j) a))=orp n a c (gL tV C j):=Be4 hn ha hc hv;have e1:∀u w:V3,(u.x==w.x&&(u.y==w.y&&(u.z==w.z&&true)))=eqV u w:=λ_ _=>rfl
   have ve:∀w:V3,(⟨w.x,w.y,w.z⟩:V3)=w:=λ_=>rfl
   simp only[Ga4,Aa2,Int.toNat_natCast,v8 hj (show C.length<=4611686018427387904 by omega),e1,ve,ho,i5 hj]
   rw[btD (j7 hj)];cases eqV (gL tV C j) a<;>cases eqV (gL tV C j) c<;>cases decide (orp n a c (gL tV C j)<=0)<;>rfl)
  (by simp only[Ga4,Aa2];rw[bfD (j6 (Qlb _))]) 0 (Qld _)
 rw[List.drop_zero] at h;unfold kb5 db5;simp only[l5,j9];rw[show (⟨0⟩:ga2)=⟨((0:Nat):Int)⟩ from rfl,h]
 have e1:(a.x==c.x&&(a.y==c.y&&(a.z==c.z&&true)))=eqV a c:=rfl;rw[e1];cases C.any λv=>!eqV v a&&(!eqV v c&&decide (orp n a c v<=0))<;>rfl
theorem bf7{a c:V3}(ha:inV a=true)(hc:inV c=true):Cb7 n C a c=db5 C n a c:=by unfold Cb7;rw[De5 hn hC hl ha hc];rfl
theorem bf8{a c:V3}(ha:inV a=true)(hc:inV c=true):Cb8 n C a c=true:=by unfold Cb8;rw[De5 hn hC hl ha hc];rfl
end
def Qa3(a c v o:V3):Int:=D3 (e8 a o) (e8 c o) (e8 v o)
theorem Wd4{a c v o:V3}(ha:inV a=true)(hc:inV c=true)(hv:inV v=true)(ho:inV o=true):Sm 63700992 (Qa3 a c v o)/\(0<=Qa3 a c v o->Tb7 a c v o=Qa3 a c v o):=by
 obtain⟨e1,f1⟩:=pc4 ha ho;obtain⟨e2,f2⟩:=pc4 hc ho;obtain⟨e3,f3⟩:=pc4 hv ho;obtain⟨e4,f4⟩:=Yc2 f1 f2;obtain⟨e5,f5⟩:=Yc3 f4 (f3.mono (by omega))
 have ht:aa9 (Z6 (L7 a o) (L7 c o)) (L7 v o)=Qa3 a c v o:=by
  show C0 (C4 (H7 a o) (H7 c o)) (H7 v o)=_;rw[e1,e2,e3,e4,e5];rfl
 refine⟨f5,λh0=>?_⟩
 obtain⟨b1,b2⟩:=f5;have b1:-63700992<=Qa3 a c v o:=b1;have b2:Qa3 a c v o<=63700992:=b2;unfold Tb7;simp only[ht];rw[qa7 (by omega) (by omega),if_neg (by omega)]
theorem bf9{n a c v o:V3}(hn:n≠⟨0,0,0⟩)(h1:dot n a=dot n v)(h2:dot n c=dot n v)(h3:0<=orp n a c v)(h4:dot n o<=dot n v):0<=Qa3 a c v o:=by
 have e:Qa3 a c v o=dot (c7 (e8 a v) (e8 c v)) (e8 v o):=by simp only[Qa3,D3,dot,c7,e8];grind
 have hp:=Aa6 (n:=n) (a:=e8 a v) (c:=e8 c v) (by rw[K7];omega) (by rw[K7];omega)
 have hp':c7 (c7 (e8 a v) (e8 c v)) n=⟨0,0,0⟩:=by
  have:∀x y:V3,c7 x y=⟨-(c7 y x).x,-(c7 y x).y,-(c7 y x).z⟩:=λx y=>by simp only[c7,V3.mk.injEq];refine⟨?_,?_,?_⟩<;>grind
  rw[this,hp];rfl
 have d1:=xa1 (d:=e8 v o) hp';have d2:dot (c7 (e8 a v) (e8 c v)) n=orp n a c v:=by rw[Vd7];exact wd3 _ _
 rw[d2,K7 n v o] at d1;rw[e];have hN:=ma7 hn;apply Qla;intro hno;have k1:dot n n*dot (c7 (e8 a v) (e8 c v)) (e8 v o)<0:=Qlab hN (by omega)
 have k2:0<=orp n a c v*(dot n v-dot n o):=Qli h3 (by omega)
 omega
section
variable{X C:List V3}{p:Pln}(hR:Rim X C p.n p.b)(hn:Sm3 4608 p.n)(hC:∀c∈C,inV c=true)(hl:C.length<=48){o:V3}(ho:inV o=true)(hb:dot p.n o<=p.b)
include hR hn hC hl ho hb
theorem Oe9{a c v:V3}(hv:v∈C)(h:Edg C p.n a c):0<=Qa3 a c v o:=by
 have q:=λu hu=>(hR.sub u hu).2
 refine bf9 hR.n0 (by rw[q a h.1,q v hv]) (by rw[q c h.2.1,q v hv]) ?_ (by rw[q v hv];exact hb)
 by_cases e1:v=a
 ·rw[e1,Vd8];exact Qln _
 ·by_cases e2:v=c
  ·rw[e2,wd2];exact Qln _
  ·have:=h.2.2.2 v hv e1 e2;omega
theorem Wd5 (P : Da3) (h1 : P.s7 = C) {m : Nat} (h2 : P.is8 = (m : Int)) (hm : m < C.length) (h3 : P.d9 = p.n.x ∧ P.d7 = p.n.y ∧ P.f0 = p.n.z) (h4 : P.s9 = o.x ∧ P.u7 = o.y ∧ P.u8 = o.z) {s0 : Int} (hs0 : Sm 1000000000000 s0) :
  ∃s,lp (Ga5 P) ⟨s0,0⟩=(1,s)/\s.is7=s0+sig C λc=>if db5 C p.n (gL tV C m) c=true then Qa3 (gL tV C m) c (gL tV C 0) o else 0:=by
 suffices key:∃t s,lp (Ga5 P) ⟨s0,0⟩=(t,s)/\(t=1/\s.is7=s0+sig C λc=>if db5 C p.n (gL tV C m) c=true then Qa3 (gL tV C m) c (gL tV C 0) o else 0) by
  obtain⟨t,s,h,rfl,h2⟩:=key;exact⟨s,h,h2⟩
 have ma:gL tV C m∈C:=ja1 tV hm;have m0:gL tV C 0∈C:=ja1 tV (by omega)
 refine F9 (step:=Ga5 P) (mk:=λj (q:Int)=>(⟨q,(j:Int)⟩:P5)) C.length (λj q=>j<=C.length/\q=s0+sig (C.take j) λc=>if db5 C p.n (gL tV C m) c=true then Qa3 (gL tV C m) c (gL tV C 0) o else 0) (λt s=>t=1/\s.is7=s0+sig C λc=>if db5 C p.n (gL tV C m) c=true then Qa3 (gL tV C m) c (gL tV C 0) o else 0) (by omega)
  (λj q hj hq=>?_) (λj q hj hq=>?_) 0 s0 ⟨Qld _,by simp[sig]⟩
 ·obtain⟨hj',rfl⟩:=hq;have hN:=v8 hj (show C.length<=4611686018427387904 by omega)
  have mc:gL tV C j∈C:=ja1 tV hj;have bd:∀c∈C,Sm 63700992 (if db5 C p.n (gL tV C m) c=true then Qa3 (gL tV C m) c (gL tV C 0) o else 0):=λc hc=>by
   split
   ·exact (Wd4 (hC _ ma) (hC _ hc) (hC _ m0) ho).1
   ·exact⟨by omega,by omega⟩
  have hT:sig (C.take (j+1)) (λc=>if db5 C p.n (gL tV C m) c=true then Qa3 (gL tV C m) c (gL tV C 0) o else 0)=sig (C.take j) (λc=>if db5 C p.n (gL tV C m) c=true then Qa3 (gL tV C m) c (gL tV C 0) o else 0)+(if db5 C p.n (gL tV C m) (gL tV C j)=true then Qa3 (gL tV C m) (gL tV C j) (gL tV C 0) o else 0):=by
   rw[Ca9 tV hj,ob9,v7,Pa6,Qlo]
  obtain⟨c1,c2⟩:=Pb7 (l:=C.take j) (B:=63700992) λc hc=>bd c (Qlq hc)
  have hlt:(C.take j).length*63700992<=48*63700992:=Qlf _ (by have:=Qlh j C;omega)
  obtain⟨d1,d2⟩:=bd _ mc;obtain⟨s1,s2⟩:=hs0;have e3:(⟨P.d9,P.d7,P.f0⟩:V3)=p.n:=by rw[h3.1,h3.2.1,h3.2.2]
  have e4:(⟨P.s9,P.u7,P.u8⟩:V3)=o:=by rw[h4.1,h4.2.1,h4.2.2]
  have pe:=bf7 hn hC (by omega) (hC _ ma) (hC _ mc)
  have ge:=bf8 hn hC (by omega) (hC _ ma) (hC _ mc)
  have i0:inB 0 C.length=true:=i5 (j:=0) (by omega)
  show Nx (aa6 Stp.next Stp.exit Stp.fail _ _) _ _;by_cases he:db5 C p.n (gL tV C m) (gL tV C j)=true
  ·rw[if_pos he] at hT d1 d2;have hd:=(Wd4 (hC _ ma) (hC _ mc) (hC _ m0) ho).2 (Oe9 hR hn hC hl ho hb m0 ((Zc4 ma mc).1 he));have hW:W (s0+sig (C.take j) (λc=>if db5 C p.n (gL tV C m) c=true then Qa3 (gL tV C m) c (gL tV C 0) o else 0)+Qa3 (gL tV C m) (gL tV C j) (gL tV C 0) o)=s0+sig (C.take (j+1)) (λc=>if db5 C p.n (gL tV C m) c=true then Qa3 (gL tV C m) c (gL tV C 0) o else 0):=by
    rw[hT,qa7 (by omega) (by omega),Int.add_assoc]
   simp only[aa6,l5,L5,h1,h2,e3,e4,Int.toNat_natCast,pe,ge,he,hd,hN,hW,i5 hj,i5 hm,i0];rw[btD (j7 hj)];exact Nx.nx (s:=(⟨_,((j+1:Nat):Int)⟩:P5)) (N:=λs=>∃q',s=(⟨q',((j+1:Nat):Int)⟩:P5)/\(j+1<=C.length/\q'=s0+sig (C.take (j+1)) λc=>if db5 C p.n (gL tV C m) c=true then Qa3 (gL tV C m) c (gL tV C 0) o else 0)) ⟨_,rfl,by omega,rfl⟩
  ·rw[if_neg he,Qlo] at hT;rw[Bool.not_eq_true] at he;simp only[aa6,l5,L5,h1,h2,e3,e4,Int.toNat_natCast,pe,ge,he,hN,i5 hj,i5 hm,i0];rw[btD (j7 hj)];exact Nx.nx (s:=(⟨_,((j+1:Nat):Int)⟩:P5)) (N:=λs=>∃q',s=(⟨q',((j+1:Nat):Int)⟩:P5)/\(j+1<=C.length/\q'=s0+sig (C.take (j+1)) λc=>if db5 C p.n (gL tV C m) c=true then Qa3 (gL tV C m) c (gL tV C 0) o else 0)) ⟨_,rfl,by omega,by rw[hT]⟩
 ·obtain⟨hj',rfl⟩:=hq;have e:j=C.length:=by omega
  subst e;refine⟨1,?_,rfl,by rw[Qlj]⟩
  show aa6 Stp.next Stp.exit Stp.fail _ _=_;simp only[aa6,h1];rw[bfD (j6 (Qlb _))]
theorem De6(h0:0<C.length):sig C (λa=>sig C λc=>if db5 C p.n a c=true then Qa3 a c (gL tV C 0) o else 0)=AR C p.n (e8 (gL tV C 0) o):=by
 rw[<- hR.ar_o o (e8 (gL tV C 0) o),<- hR.sum_edges (λa c=>D3 (e8 a o) (e8 c o) (e8 (gL tV C 0) o))]
 refine T9 λa ha=>T9 λc hc=>?_
 by_cases h:Edg C p.n a c
 ·rw[if_pos h,if_pos ((Zc4 ha hc).2 h)];rfl
 ·rw[if_neg h,if_neg λk=>h ((Zc4 ha hc).1 k)]
theorem cf0(h0:0<C.length):Ja4 p C o=some (i (AR C p.n (e8 (gL tV C 0) o)),[]):=by
 have bd:∀a∈C,Sm 3057647616 (sig C λc=>if db5 C p.n a c=true then Qa3 a c (gL tV C 0) o else 0):=λa ha=>by
  have m0:gL tV C 0∈C:=ja1 tV h0
  have:=Pb7 (l:=C) (B:=63700992) (f:=λc=>if db5 C p.n a c=true then Qa3 a c (gL tV C 0) o else 0) λc hc=>by
   split
   ·exact (Wd4 (hC _ ha) (hC _ hc) (hC _ m0) ho).1
   ·exact⟨by omega,by omega⟩
  have hlt:C.length*63700992<=48*63700992:=Qlf _ hl;exact this.mono (by omega)
 obtain⟨t,s,h,rfl,h2⟩:=F9 (step:=Ua9 ⟨p.n.x,p.n.y,p.n.z,p.b,o.x,o.y,o.z⟩) (mk:=λj (q:Int)=>(⟨C,q,(j:Int)⟩:Z1)) C.length (λj q=>j<=C.length/\q=sig (C.take j) λa=>sig C λc=>if db5 C p.n a c=true then Qa3 a c (gL tV C 0) o else 0) (λt s=>t=1/\s.is7=sig C λa=>sig C λc=>if db5 C p.n a c=true then Qa3 a c (gL tV C 0) o else 0) (by omega)
  (λj q hj hq=>by
   obtain⟨hj',rfl⟩:=hq;have hN:=v8 hj (show C.length<=4611686018427387904 by omega)
   have hsm:=Pb7 (l:=C.take j) (B:=3057647616) λa ha=>bd a (Qlq ha)
   have hlt:(C.take j).length*3057647616<=48*3057647616:=Qlf _ (by have:=Qlh j C;omega)
   obtain⟨s,k1,k2⟩:=Wd5 hR hn hC hl ho hb ⟨C,(j:Int),p.n.x,p.n.y,p.n.z,p.b,o.x,o.y,o.z⟩ rfl rfl hj ⟨rfl,rfl,rfl⟩ ⟨rfl,rfl,rfl⟩ (hsm.mono (by omega))
   show Nx (ja4 Stp.next Stp.exit Stp.fail _ _) _ _;simp only[ja4,l5,j9,k1,k2,hN];rw[btD (j7 hj)];exact Nx.nx (s:=(⟨C,_,((j+1:Nat):Int)⟩:Z1)) (N:=λs=>∃q',s=(⟨C,q',((j+1:Nat):Int)⟩:Z1)/\(j+1<=C.length/\q'=sig (C.take (j+1)) λa=>sig C λc=>if db5 C p.n a c=true then Qa3 a c (gL tV C 0) o else 0)) ⟨_,rfl,by omega,by rw[Ca9 tV hj,ob9,v7,Pa6,Qlo]⟩)
  (λj q hj hq=>by
   obtain⟨hj',rfl⟩:=hq;have e:j=C.length:=by omega
   subst e;refine⟨1,?_,rfl,by rw[Qlj]⟩
   show ja4 Stp.next Stp.exit Stp.fail _ _=_;simp only[ja4];rw[bfD (j6 (Qlb _))]) 0 0 ⟨Qld _,by simp[sig]⟩
 have h:lp (Ua9 ⟨p.n.x,p.n.y,p.n.z,p.b,o.x,o.y,o.z⟩) ⟨C,0,0⟩=_:=h;rw[De6 hR hn hC hl ho hb h0] at h2;unfold Ja4;simp only[l5,j9,h,h2];rfl
end
theorem cf1(p:Pln)(X:List V3):gL tV (onF p X) 0=ptF p X:=by
 unfold ptF;cases onF p X<;>rfl
theorem lf0{p:Pln}(hp:okp p=true){X:List V3}(hX:∀v∈X,inV v=true)(hl:X.length<=1000000):Rd (one (r1L tV)) (Pb2 p X) (λr=>r=onF p X):=by
 obtain⟨j,h⟩:=Ld6 ⟨X,p.n.x,p.n.y,p.n.z,p.b⟩ p X rfl ⟨rfl,rfl,rfl,rfl⟩ hp hX hl;unfold Pb2;simp only[l5,j9,h];cases hO:onF p X with
 |nil=>exact⟨_,[],rfl,rfl,rfl⟩
 |cons a l=>exact⟨_,a::l,rfl,Xe9 tV 25 (a::l),rfl⟩
theorem Ld7(l:List V3)(hl:l.length<=900000):eb5 l=some (.tup [i (qa5 l).1,i (qa5 l).2],[]):=by
 by_cases hc:V1 l=0
 ·obtain⟨h48,hin,hs⟩:=la0 hc;have hi:=Qlp.1 hin;have hX:=Kc3 hc;have hXl:(ha8 l).length<=l.length:=wd4;have hF:(F0 l).length<=1000000:=Ob8 h48 hin;have e1:Ja9 l=(F0 l,0):=by rw[Xc6 l (by omega)];unfold U6;rw[if_pos hc]
  have e2:Ua8 l=(ha8 l,0):=by rw[af5 l (by omega)];unfold Vb5;rw[if_pos hc];rfl
  have g1:=Xc7 l (by omega)
  have g2:=af6 l (by omega)
  have hne:0<l.length:=by
   obtain⟨a,ha⟩:=hs.ne;exact List.length_pos_of_mem ha
  have mo:gL tV l 0∈l:=ja1 tV hne;obtain⟨o,hoe⟩:∃o,gL tV l 0=o:=⟨_,rfl⟩;rw[hoe] at mo;have hin':∀p∈F0 l,dot p.n o<=p.b:=λp hp=>((N6 hin p).1 hp).hd o mo
  have hT:(qa5 l).1=sig (F0 l) λp=>CN p (ha8 l) o:=by rw[Ld5 hc o]
  have nn:∀p∈F0 l,0<=CN p (ha8 l) o:=λp hp=>by
   obtain⟨k1,k2,_⟩:=Oe8 hc hp o
   have:=hin' p hp
   by_cases he:dot p.n o=p.b
   ·rw[k2 he];omega
   ·have:=k1 (by omega);omega
  have part:∀j,0<=sig ((F0 l).take j) (λp=>CN p (ha8 l) o)/\sig ((F0 l).take j) (λp=>CN p (ha8 l) o)<=(qa5 l).1:=λj=>by
   have e:sig (F0 l) (λp=>CN p (ha8 l) o)=sig ((F0 l).take j) (λp=>CN p (ha8 l) o)+sig ((F0 l).drop j) (λp=>CN p (ha8 l) o):=by rw[<- ob9,List.take_append_drop]
   have a1:0<=sig ((F0 l).take j) (λp=>CN p (ha8 l) o):=Xc3 λp hp=>nn p (Qlq hp)
   have a2:0<=sig ((F0 l).drop j) (λp=>CN p (ha8 l) o):=Xc3 λp hp=>nn p (List.mem_of_mem_drop hp)
   omega
  obtain⟨b1,b2⟩:=bf6 hc;obtain⟨t,s,h,rfl,h2⟩:=F9 (step:=db0 ⟨l,F0 l,ha8 l⟩) (mk:=λj (q:Int)=>(⟨q,(j:Int)⟩:ha3)) (F0 l).length (λj q=>j<=(F0 l).length/\q=sig ((F0 l).take j) λp=>CN p (ha8 l) o) (λt s=>t=1/\s.is8=(qa5 l).1) (by omega)
   (λj q hj hq=>by
    obtain⟨hj',rfl⟩:=hq;have hN:=v8 hj (show (F0 l).length<=4611686018427387904 by omega)
    have hpm:gL tP (F0 l) j∈F0 l:=ja1 tP hj;have hp0:=(N6 hin _).1 hpm;have hp:=wd0 hin hs hp0;have hR:=hX.rim hp;have bp:=Bb8 hp.ok;have np:Sm3 4608 (gL tP (F0 l) j).n:=⟨⟨bp.x1,bp.x2⟩,⟨bp.y1,bp.y2⟩,bp.z1,bp.z2⟩;have hC:∀c∈onF (gL tP (F0 l) j) (ha8 l),inV c=true:=λc hc=>Qlp.1 hX.iv c (P6.1 hc).1
    have hl48:(onF (gL tP (F0 l) j) (ha8 l)).length<=48:=by
     have:(onF (gL tP (F0 l) j) (ha8 l)).length<=(ha8 l).length:=Qle _ _
     omega
    have h3:=hX.lens hp;have hco:=cf0 hR np hC hl48 (hi o mo) (hin' _ hpm) (Nat.lt_of_lt_of_le (Nat.zero_lt_succ 2) h3);rw[cf1] at hco;have pco:Db1 (gL tP (F0 l) j) (onF (gL tP (F0 l) j) (ha8 l)) o=CN (gL tP (F0 l) j) (ha8 l) o:=by unfold Db1;rw[show Ja4 (gL tP (F0 l) j) (onF (gL tP (F0 l) j) (ha8 l)) o=_ from hco];rfl
    have gco:Db2 (gL tP (F0 l) j) (onF (gL tP (F0 l) j) (ha8 l)) o=true:=by unfold Db2;rw[show Ja4 (gL tP (F0 l) j) (onF (gL tP (F0 l) j) (ha8 l)) o=_ from hco];rfl
    have ron:=lf0 (p:=gL tP (F0 l) j) hp.ok (Qlp.1 hX.iv) (show (ha8 l).length<=1000000 by omega)
    have pon:Vc9 (gL tP (F0 l) j) (ha8 l)=onF (gL tP (F0 l) j) (ha8 l):=ron.p;have gon:Wc0 (gL tP (F0 l) j) (ha8 l)=true:=ron.g;obtain⟨d1,d2⟩:=part (j+1);have hTk:sig ((F0 l).take (j+1)) (λp=>CN p (ha8 l) o)=sig ((F0 l).take j) (λp=>CN p (ha8 l) o)+CN (gL tP (F0 l) j) (ha8 l) o:=by
     rw[Ca9 tP hj,ob9,v7,Pa6,Qlo]
    have hW:W (sig ((F0 l).take j) (λp=>CN p (ha8 l) o)+CN (gL tP (F0 l) j) (ha8 l) o)=sig ((F0 l).take (j+1)) λp=>CN p (ha8 l) o:=by
     rw[<- hTk];exact qa7 (by omega) (by omega)
    have i0:inB 0 l.length=true:=i5 (j:=0) hne;show Nx (oa1 Stp.next Stp.exit Stp.fail _ _) _ _;simp only[oa1,l5,L5,j9,Int.toNat_natCast,pon,gon,hoe,pco,gco,hW,hN,i5 hj,i0];rw[btD (j7 hj)];exact Nx.nx (s:=(⟨_,((j+1:Nat):Int)⟩:ha3)) (N:=λs=>∃q',s=(⟨q',((j+1:Nat):Int)⟩:ha3)/\(j+1<=(F0 l).length/\q'=sig ((F0 l).take (j+1)) λp=>CN p (ha8 l) o)) ⟨_,rfl,by omega,rfl⟩)
   (λj q hj hq=>by
    obtain⟨hj',rfl⟩:=hq;have e:j=(F0 l).length:=by omega
    subst e;refine⟨1,?_,rfl,by rw[Qlj];exact hT.symm⟩
    show oa1 Stp.next Stp.exit Stp.fail _ _=_;simp only[oa1];rw[bfD (j6 (Qlb _))]) 0 0 ⟨Qld _,by simp[sig]⟩
  have h:lp (db0 ⟨l,F0 l,ha8 l⟩) ⟨0,0⟩=_:=h;have z:(qa5 l).2=0:=by rw[Ld5 hc o]
  unfold eb5;simp only[l5,L5,j9,e1,e2,g1,g2,h,h2,z];rfl
 ·have e1:Ja9 l=([],V1 l):=by rw[Xc6 l (by omega)];unfold U6;rw[if_neg hc]
  have g1:=Xc7 l (by omega)
  have hne:(V1 l != 0)=true:=bne_iff_ne.2 hc;have z:qa5 l=(0,V1 l):=by unfold qa5;rw[if_neg hc]
  unfold eb5;simp only[l5,L5,j9,e1,g1,hne,z];rfl
theorem Ld8(l:List V3)(hl:l.length<=900000):yb1 l=qa5 l:=by unfold yb1;rw[Ld7 l hl];rfl
theorem Ld9(l:List V3)(hl:l.length<=900000):yb2 l=true:=by unfold yb2;rw[Ld7 l hl];rfl
theorem De7(l:List V3)(hl:l.length<=1000000):yb0 l=some (.tup [.agg [i (bxL l).1.x,i (bxL l).1.y,i (bxL l).1.z],.agg [i (bxL l).2.1.x,i (bxL l).2.1.y,i (bxL l).2.1.z],b (bxL l).2.2],[]):=by
 by_cases hne:l=[]
 ·subst hne;rfl
 have hp:0<l.length:=List.length_pos_iff.2 hne;obtain⟨t,s,h,rfl,k,rfl⟩:=F9 (step:=Da2 ⟨l⟩) (mk:=λj (q:V3×V3)=>(⟨(j:Int),q.1.x,q.1.y,q.1.z,q.2.x,q.2.y,q.2.z⟩:qa9)) l.length (λj q=>j<=l.length/\q=bxT l j) (λt s=>t=1/\∃k:Int,s=⟨k,(bxT l l.length).1.x,(bxT l l.length).1.y,(bxT l l.length).1.z,(bxT l l.length).2.x,(bxT l l.length).2.y,(bxT l l.length).2.z⟩) (by omega)
  (λj q hj hi=>by
   obtain⟨_,rfl⟩:=hi;have hn:=v8 hj (show l.length<=4611686018427387904 by omega)
   simp only[Da2,Ga3,Int.toNat_natCast,hn,i5 hj];rw[btD (j7 hj)];exact .nx ⟨bxT l (j+1),by rw[Ld3 hj];rfl,by omega,rfl⟩)
  (λj q hj hi=>by
   obtain⟨hje,rfl⟩:=hi;have hje:j=l.length:=by omega
   subst hje;refine⟨1,?_,rfl,_,rfl⟩;simp only[Da2,Ga3];rw[bfD (j6 (Qlb _))]) 0 (bxT l 0) ⟨Qld _,rfl⟩
 have h:lp (Da2 ⟨l⟩) ⟨0,(gL tV l 0).x,(gL tV l 0).y,(gL tV l 0).z,(gL tV l 0).x,(gL tV l 0).y,(gL tV l 0).z⟩=_:=h;unfold yb0;simp only[l5,j9,h];rw[bf (show ((l.length:Int)==0)=false from by rw[beq_eq_false_iff_ne];omega),bt (show inB 0 l.length=true from i5 (j:=0) hp),Re5 hne,bt (show inB 0 l.length=true from i5 (j:=0) hp)]
 rfl
theorem cf2(l:List V3)(hl:l.length<=1000000):Tb5 l=bxL l:=by unfold Tb5;rw[De7 l hl];rfl
theorem cf3(l:List V3)(hl:l.length<=1000000):Tb6 l=true:=by unfold Tb6;rw[De7 l hl];rfl
theorem Md0(x y:V3):Tb8 x y=I7 x y:=rfl
theorem ee0(x y:V3):Tb9 x y=true:=wd9 x y
theorem ee1(l:List V3)(y z:V3)(hl:l.length<=900000):kb6 l y z=some (.tup [i (ab4 l y z).1,i (ab4 l y z).2],[]):=by
 unfold kb6 ab4;simp only[l5,L5,j9,Ld8 l hl,Ld9 l hl,cf2 l (by omega),cf3 l (by omega),ee0,Md0]
 by_cases h:(qa5 l).2=0
 ·rw[if_pos h,bf (show ((qa5 l).2 != 0)=false from by rw[bne_eq_false_iff_eq];exact h)]
  rfl
 ·rw[if_neg h,bt (show ((qa5 l).2 != 0)=true from bne_iff_ne.2 h)]
  rfl
theorem Pe0(l:List V3)(y z:V3)(hl:l.length<=900000):Db3 l y z=ab4 l y z:=by unfold Db3;rw[ee1 l y z hl];rfl
theorem Pe1(l:List V3)(y z:V3)(hl:l.length<=900000):Db4 l y z=true:=by unfold Db4;rw[ee1 l y z hl];rfl
noncomputable def Ba2:List (Nat×Sum):=[(8,Qb2),(9,Qb1),(10,ac0),(11,Pa5),(12,xc2),(13,tb1),(14,Wc6),(15,db4),(16,xc4)]
theorem Hb4:k8 prog G Ba2:=⟨Hc9,Hc7,Zc1,Va0,Wc4,Pb9,Jd6,tb0,Wc5,trivial⟩
structure N8 where
 bs9:Bool
 xd2:Nat
 xd3:Nat->List b7
 (ab0 d9 d7 f0 s9 u7 u8 I8 I9 J0 Eb1 Eb2 Eb3:Int)
 E6:List V3
 G3:Nat
 G4:Nat->List b7
 G5:Nat
 G6:Nat->List b7
 G7:Nat
 G8:Nat->List b7
 G9:Nat
 H4:Nat->List b7
 (l7 l9 m8 m9 n4 n5 n7 n8 n9 o0 o5 o6 o7 o8 o9 p7 p8 p9 q7 q8 q9 r4 r5 r6:Int)
structure A8 where
 V4:Int
noncomputable def Qa4(p:N8)(s:A8):St:=⟨ra 6 (.ptr 0 0 0 0::.ptr 1 0 0 0::.unk::b p.bs9::.unk::.sl 2 0 2 0::.unk::.tree 3 p.xd2 p.xd3::ra 36 (.sl 3 0 5 0::i 5::i p.ab0::ra 43 (.sl 4 0 4 0::i 4::i s.V4::ra 45 []))),[⟨0,3,[[i p.d9,i p.d7,i p.f0]],true,false,0⟩,⟨0,3,[[i p.s9,i p.u7,i p.u8]],true,false,0⟩,⟨25,3,[[i p.I8,i p.I9,i p.J0],[i p.Eb1,i p.Eb2,i p.Eb3]],false,false,0⟩,⟨23,1,[[eL tV p.E6],[.tree 3 p.G3 p.G4],[.tree 3 p.G5 p.G6],[.tree 3 p.G7 p.G8],[.tree 3 p.G9 p.H4]],true,false,0⟩,⟨33,6,[[i p.l7,i p.l9,i p.m8,i p.m9,i p.n4,i p.n5],[i p.n7,i p.n8,i p.n9,i p.o0,i p.o5,i p.o6],[i p.o7,i p.o8,i p.o9,i p.p7,i p.p8,i p.p9],[i p.q7,i p.q8,i p.q9,i p.r4,i p.r5,i p.r6]],true,false,0⟩]⟩
noncomputable def Q3{α:Type}(k:A8->α)(e:Nat->α)(z:α)(p:N8)(s:A8):α:=let t1:=(Ga7 (lsL tV p.xd2 p.xd3) (⟨toI (hdA (g8 (f7 [[i p.l7,i p.l9,i p.m8,i p.m9,i p.n4,i p.n5],[i p.n7,i p.n8,i p.n9,i p.o0,i p.o5,i p.o6],[i p.o7,i p.o8,i p.o9,i p.p7,i p.p8,i p.p9],[i p.q7,i p.q8,i p.q9,i p.r4,i p.r5,i p.r6]] (0+s.V4.toNat)) 0)),toI (hdA (tlA (g8 (f7 [[i p.l7,i p.l9,i p.m8,i p.m9,i p.n4,i p.n5],[i p.n7,i p.n8,i p.n9,i p.o0,i p.o5,i p.o6],[i p.o7,i p.o8,i p.o9,i p.p7,i p.p8,i p.p9],[i p.q7,i p.q8,i p.q9,i p.r4,i p.r5,i p.r6]] (0+s.V4.toNat)) 0))),toI (hdA (tlA (tlA (g8 (f7 [[i p.l7,i p.l9,i p.m8,i p.m9,i p.n4,i p.n5],[i p.n7,i p.n8,i p.n9,i p.o0,i p.o5,i p.o6],[i p.o7,i p.o8,i p.o9,i p.p7,i p.p8,i p.p9],[i p.q7,i p.q8,i p.q9,i p.r4,i p.r5,i p.r6]] (0+s.V4.toNat)) 0))))⟩:V3) (⟨toI (hdA (tlA (tlA (tlA (g8 (f7 [[i p.l7,i p.l9,i p.m8,i p.m9,i p.n4,i p.n5],[i p.n7,i p.n8,i p.n9,i p.o0,i p.o5,i p.o6],[i p.o7,i p.o8,i p.o9,i p.p7,i p.p8,i p.p9],[i p.q7,i p.q8,i p.q9,i p.r4,i p.r5,i p.r6]] (0+s.V4.toNat)) 0))))),toI (hdA (tlA (tlA (tlA (tlA (g8 (f7 [[i p.l7,i p.l9,i p.m8,i p.m9,i p.n4,i p.n5],[i p.n7,i p.n8,i p.n9,i p.o0,i p.o5,i p.o6],[i p.o7,i p.o8,i p.o9,i p.p7,i p.p8,i p.p9],[i p.q7,i p.q8,i p.q9,i p.r4,i p.r5,i p.r6]] (0+s.V4.toNat)) 0)))))),toI (hdA (tlA (tlA (tlA (tlA (tlA (g8 (f7 [[i p.l7,i p.l9,i p.m8,i p.m9,i p.n4,i p.n5],[i p.n7,i p.n8,i p.n9,i p.o0,i p.o5,i p.o6],[i p.o7,i p.o8,i p.o9,i p.p7,i p.p8,i p.p9],[i p.q7,i p.q8,i p.q9,i p.r4,i p.r5,i p.r6]] (0+s.V4.toNat)) 0)))))))⟩:V3));let t2:=(Db3 (lsL tV p.xd2 p.xd3) (⟨toI (hdA (g8 (f7 [[i p.l7,i p.l9,i p.m8,i p.m9,i p.n4,i p.n5],[i p.n7,i p.n8,i p.n9,i p.o0,i p.o5,i p.o6],[i p.o7,i p.o8,i p.o9,i p.p7,i p.p8,i p.p9],[i p.q7,i p.q8,i p.q9,i p.r4,i p.r5,i p.r6]] (0+s.V4.toNat)) 0)),toI (hdA (tlA (g8 (f7 [[i p.l7,i p.l9,i p.m8,i p.m9,i p.n4,i p.n5],[i p.n7,i p.n8,i p.n9,i p.o0,i p.o5,i p.o6],[i p.o7,i p.o8,i p.o9,i p.p7,i p.p8,i p.p9],[i p.q7,i p.q8,i p.q9,i p.r4,i p.r5,i p.r6]] (0+s.V4.toNat)) 0))),toI (hdA (tlA (tlA (g8 (f7 [[i p.l7,i p.l9,i p.m8,i p.m9,i p.n4,i p.n5],[i p.n7,i p.n8,i p.n9,i p.o0,i p.o5,i p.o6],[i p.o7,i p.o8,i p.o9,i p.p7,i p.p8,i p.p9],[i p.q7,i p.q8,i p.q9,i p.r4,i p.r5,i p.r6]] (0+s.V4.toNat)) 0))))⟩:V3) (⟨toI (hdA (tlA (tlA (tlA (g8 (f7 [[i p.l7,i p.l9,i p.m8,i p.m9,i p.n4,i p.n5],[i p.n7,i p.n8,i p.n9,i p.o0,i p.o5,i p.o6],[i p.o7,i p.o8,i p.o9,i p.p7,i p.p8,i p.p9],[i p.q7,i p.q8,i p.q9,i p.r4,i p.r5,i p.r6]] (0+s.V4.toNat)) 0))))),toI (hdA (tlA (tlA (tlA (tlA (g8 (f7 [[i p.l7,i p.l9,i p.m8,i p.m9,i p.n4,i p.n5],[i p.n7,i p.n8,i p.n9,i p.o0,i p.o5,i p.o6],[i p.o7,i p.o8,i p.o9,i p.p7,i p.p8,i p.p9],[i p.q7,i p.q8,i p.q9,i p.r4,i p.r5,i p.r6]] (0+s.V4.toNat)) 0)))))),toI (hdA (tlA (tlA (tlA (tlA (tlA (g8 (f7 [[i p.l7,i p.l9,i p.m8,i p.m9,i p.n4,i p.n5],[i p.n7,i p.n8,i p.n9,i p.o0,i p.o5,i p.o6],[i p.o7,i p.o8,i p.o9,i p.p7,i p.p8,i p.p9],[i p.q7,i p.q8,i p.q9,i p.r4,i p.r5,i p.r6]] (0+s.V4.toNat)) 0)))))))⟩:V3));let t3:=(I7 (⟨toI (hdA (g8 (f7 [[i p.l7,i p.l9,i p.m8,i p.m9,i p.n4,i p.n5],[i p.n7,i p.n8,i p.n9,i p.o0,i p.o5,i p.o6],[i p.o7,i p.o8,i p.o9,i p.p7,i p.p8,i p.p9],[i p.q7,i p.q8,i p.q9,i p.r4,i p.r5,i p.r6]] (0+s.V4.toNat)) 0)),toI (hdA (tlA (g8 (f7 [[i p.l7,i p.l9,i p.m8,i p.m9,i p.n4,i p.n5],[i p.n7,i p.n8,i p.n9,i p.o0,i p.o5,i p.o6],[i p.o7,i p.o8,i p.o9,i p.p7,i p.p8,i p.p9],[i p.q7,i p.q8,i p.q9,i p.r4,i p.r5,i p.r6]] (0+s.V4.toNat)) 0))),toI (hdA (tlA (tlA (g8 (f7 [[i p.l7,i p.l9,i p.m8,i p.m9,i p.n4,i p.n5],[i p.n7,i p.n8,i p.n9,i p.o0,i p.o5,i p.o6],[i p.o7,i p.o8,i p.o9,i p.p7,i p.p8,i p.p9],[i p.q7,i p.q8,i p.q9,i p.r4,i p.r5,i p.r6]] (0+s.V4.toNat)) 0))))⟩:V3) (⟨toI (hdA (tlA (tlA (tlA (g8 (f7 [[i p.l7,i p.l9,i p.m8,i p.m9,i p.n4,i p.n5],[i p.n7,i p.n8,i p.n9,i p.o0,i p.o5,i p.o6],[i p.o7,i p.o8,i p.o9,i p.p7,i p.p8,i p.p9],[i p.q7,i p.q8,i p.q9,i p.r4,i p.r5,i p.r6]] (0+s.V4.toNat)) 0))))),toI (hdA (tlA (tlA (tlA (tlA (g8 (f7 [[i p.l7,i p.l9,i p.m8,i p.m9,i p.n4,i p.n5],[i p.n7,i p.n8,i p.n9,i p.o0,i p.o5,i p.o6],[i p.o7,i p.o8,i p.o9,i p.p7,i p.p8,i p.p9],[i p.q7,i p.q8,i p.q9,i p.r4,i p.r5,i p.r6]] (0+s.V4.toNat)) 0)))))),toI (hdA (tlA (tlA (tlA (tlA (tlA (g8 (f7 [[i p.l7,i p.l9,i p.m8,i p.m9,i p.n4,i p.n5],[i p.n7,i p.n8,i p.n9,i p.o0,i p.o5,i p.o6],[i p.o7,i p.o8,i p.o9,i p.p7,i p.p8,i p.p9],[i p.q7,i p.q8,i p.q9,i p.r4,i p.r5,i p.r6]] (0+s.V4.toNat)) 0)))))))⟩:V3));let t4:=(Tb8 (⟨toI (hdA (g8 (f7 [[i p.l7,i p.l9,i p.m8,i p.m9,i p.n4,i p.n5],[i p.n7,i p.n8,i p.n9,i p.o0,i p.o5,i p.o6],[i p.o7,i p.o8,i p.o9,i p.p7,i p.p8,i p.p9],[i p.q7,i p.q8,i p.q9,i p.r4,i p.r5,i p.r6]] (0+s.V4.toNat)) 0)),toI (hdA (tlA (g8 (f7 [[i p.l7,i p.l9,i p.m8,i p.m9,i p.n4,i p.n5],[i p.n7,i p.n8,i p.n9,i p.o0,i p.o5,i p.o6],[i p.o7,i p.o8,i p.o9,i p.p7,i p.p8,i p.p9],[i p.q7,i p.q8,i p.q9,i p.r4,i p.r5,i p.r6]] (0+s.V4.toNat)) 0))),toI (hdA (tlA (tlA (g8 (f7 [[i p.l7,i p.l9,i p.m8,i p.m9,i p.n4,i p.n5],[i p.n7,i p.n8,i p.n9,i p.o0,i p.o5,i p.o6],[i p.o7,i p.o8,i p.o9,i p.p7,i p.p8,i p.p9],[i p.q7,i p.q8,i p.q9,i p.r4,i p.r5,i p.r6]] (0+s.V4.toNat)) 0))))⟩:V3) (⟨toI (hdA (tlA (tlA (tlA (g8 (f7 [[i p.l7,i p.l9,i p.m8,i p.m9,i p.n4,i p.n5],[i p.n7,i p.n8,i p.n9,i p.o0,i p.o5,i p.o6],[i p.o7,i p.o8,i p.o9,i p.p7,i p.p8,i p.p9],[i p.q7,i p.q8,i p.q9,i p.r4,i p.r5,i p.r6]] (0+s.V4.toNat)) 0))))),toI (hdA (tlA (tlA (tlA (tlA (g8 (f7 [[i p.l7,i p.l9,i p.m8,i p.m9,i p.n4,i p.n5],[i p.n7,i p.n8,i p.n9,i p.o0,i p.o5,i p.o6],[i p.o7,i p.o8,i p.o9,i p.p7,i p.p8,i p.p9],[i p.q7,i p.q8,i p.q9,i p.r4,i p.r5,i p.r6]] (0+s.V4.toNat)) 0)))))),toI (hdA (tlA (tlA (tlA (tlA (tlA (g8 (f7 [[i p.l7,i p.l9,i p.m8,i p.m9,i p.n4,i p.n5],[i p.n7,i p.n8,i p.n9,i p.o0,i p.o5,i p.o6],[i p.o7,i p.o8,i p.o9,i p.p7,i p.p8,i p.p9],[i p.q7,i p.q8,i p.q9,i p.r4,i p.r5,i p.r6]] (0+s.V4.toNat)) 0)))))))⟩:V3));(sl (decide (s.V4<4)) (sl (inB s.V4 4) (sl (((Nat.blt (0+s.V4.toNat) (len [[i p.l7,i p.l9,i p.m8,i p.m9,i p.n4,i p.n5],[i p.n7,i p.n8,i p.n9,i p.o0,i p.o5,i p.o6],[i p.o7,i p.o8,i p.o9,i p.p7,i p.p8,i p.p9],[i p.q7,i p.q8,i p.q9,i p.r4,i p.r5,i p.r6]]))&&(Nat.ble (0+6) (len (f7 [[i p.l7,i p.l9,i p.m8,i p.m9,i p.n4,i p.n5],[i p.n7,i p.n8,i p.n9,i p.o0,i p.o5,i p.o6],[i p.o7,i p.o8,i p.o9,i p.p7,i p.p8,i p.p9],[i p.q7,i p.q8,i p.q9,i p.r4,i p.r5,i p.r6]] (0+s.V4.toNat)))))&&(ea5 [CK.int .i64,CK.int .i64,CK.int .i64,CK.int .i64,CK.int .i64,CK.int .i64] (g8 (f7 [[i p.l7,i p.l9,i p.m8,i p.m9,i p.n4,i p.n5],[i p.n7,i p.n8,i p.n9,i p.o0,i p.o5,i p.o6],[i p.o7,i p.o8,i p.o9,i p.p7,i p.p8,i p.p9],[i p.q7,i p.q8,i p.q9,i p.r4,i p.r5,i p.r6]] (0+s.V4.toNat)) 0))) (sl (okL tV p.xd2 p.xd3) (sl (Ga8 (lsL tV p.xd2 p.xd3) (⟨toI (hdA (g8 (f7 [[i p.l7,i p.l9,i p.m8,i p.m9,i p.n4,i p.n5],[i p.n7,i p.n8,i p.n9,i p.o0,i p.o5,i p.o6],[i p.o7,i p.o8,i p.o9,i p.p7,i p.p8,i p.p9],[i p.q7,i p.q8,i p.q9,i p.r4,i p.r5,i p.r6]] (0+s.V4.toNat)) 0)),toI (hdA (tlA (g8 (f7 [[i p.l7,i p.l9,i p.m8,i p.m9,i p.n4,i p.n5],[i p.n7,i p.n8,i p.n9,i p.o0,i p.o5,i p.o6],[i p.o7,i p.o8,i p.o9,i p.p7,i p.p8,i p.p9],[i p.q7,i p.q8,i p.q9,i p.r4,i p.r5,i p.r6]] (0+s.V4.toNat)) 0))),toI (hdA (tlA (tlA (g8 (f7 [[i p.l7,i p.l9,i p.m8,i p.m9,i p.n4,i p.n5],[i p.n7,i p.n8,i p.n9,i p.o0,i p.o5,i p.o6],[i p.o7,i p.o8,i p.o9,i p.p7,i p.p8,i p.p9],[i p.q7,i p.q8,i p.q9,i p.r4,i p.r5,i p.r6]] (0+s.V4.toNat)) 0))))⟩:V3) (⟨toI (hdA (tlA (tlA (tlA (g8 (f7 [[i p.l7,i p.l9,i p.m8,i p.m9,i p.n4,i p.n5],[i p.n7,i p.n8,i p.n9,i p.o0,i p.o5,i p.o6],[i p.o7,i p.o8,i p.o9,i p.p7,i p.p8,i p.p9],[i p.q7,i p.q8,i p.q9,i p.r4,i p.r5,i p.r6]] (0+s.V4.toNat)) 0))))),toI (hdA (tlA (tlA (tlA (tlA (g8 (f7 [[i p.l7,i p.l9,i p.m8,i p.m9,i p.n4,i p.n5],[i p.n7,i p.n8,i p.n9,i p.o0,i p.o5,i p.o6],[i p.o7,i p.o8,i p.o9,i p.p7,i p.p8,i p.p9],[i p.q7,i p.q8,i p.q9,i p.r4,i p.r5,i p.r6]] (0+s.V4.toNat)) 0)))))),toI (hdA (tlA (tlA (tlA (tlA (tlA (g8 (f7 [[i p.l7,i p.l9,i p.m8,i p.m9,i p.n4,i p.n5],[i p.n7,i p.n8,i p.n9,i p.o0,i p.o5,i p.o6],[i p.o7,i p.o8,i p.o9,i p.p7,i p.p8,i p.p9],[i p.q7,i p.q8,i p.q9,i p.r4,i p.r5,i p.r6]] (0+s.V4.toNat)) 0)))))))⟩:V3)) (sl (okL tV p.xd2 p.xd3) (sl (Db4 (lsL tV p.xd2 p.xd3) (⟨toI (hdA (g8 (f7 [[i p.l7,i p.l9,i p.m8,i p.m9,i p.n4,i p.n5],[i p.n7,i p.n8,i p.n9,i p.o0,i p.o5,i p.o6],[i p.o7,i p.o8,i p.o9,i p.p7,i p.p8,i p.p9],[i p.q7,i p.q8,i p.q9,i p.r4,i p.r5,i p.r6]] (0+s.V4.toNat)) 0)),toI (hdA (tlA (g8 (f7 [[i p.l7,i p.l9,i p.m8,i p.m9,i p.n4,i p.n5],[i p.n7,i p.n8,i p.n9,i p.o0,i p.o5,i p.o6],[i p.o7,i p.o8,i p.o9,i p.p7,i p.p8,i p.p9],[i p.q7,i p.q8,i p.q9,i p.r4,i p.r5,i p.r6]] (0+s.V4.toNat)) 0))),toI (hdA (tlA (tlA (g8 (f7 [[i p.l7,i p.l9,i p.m8,i p.m9,i p.n4,i p.n5],[i p.n7,i p.n8,i p.n9,i p.o0,i p.o5,i p.o6],[i p.o7,i p.o8,i p.o9,i p.p7,i p.p8,i p.p9],[i p.q7,i p.q8,i p.q9,i p.r4,i p.r5,i p.r6]] (0+s.V4.toNat)) 0))))⟩:V3) (⟨toI (hdA (tlA (tlA (tlA (g8 (f7 [[i p.l7,i p.l9,i p.m8,i p.m9,i p.n4,i p.n5],[i p.n7,i p.n8,i p.n9,i p.o0,i p.o5,i p.o6],[i p.o7,i p.o8,i p.o9,i p.p7,i p.p8,i p.p9],[i p.q7,i p.q8,i p.q9,i p.r4,i p.r5,i p.r6]] (0+s.V4.toNat)) 0))))),toI (hdA (tlA (tlA (tlA (tlA (g8 (f7 [[i p.l7,i p.l9,i p.m8,i p.m9,i p.n4,i p.n5],[i p.n7,i p.n8,i p.n9,i p.o0,i p.o5,i p.o6],[i p.o7,i p.o8,i p.o9,i p.p7,i p.p8,i p.p9],[i p.q7,i p.q8,i p.q9,i p.r4,i p.r5,i p.r6]] (0+s.V4.toNat)) 0)))))),toI (hdA (tlA (tlA (tlA (tlA (tlA (g8 (f7 [[i p.l7,i p.l9,i p.m8,i p.m9,i p.n4,i p.n5],[i p.n7,i p.n8,i p.n9,i p.o0,i p.o5,i p.o6],[i p.o7,i p.o8,i p.o9,i p.p7,i p.p8,i p.p9],[i p.q7,i p.q8,i p.q9,i p.r4,i p.r5,i p.r6]] (0+s.V4.toNat)) 0)))))))⟩:V3)) (sl (t1.1 != t2.1) (e 1) (sl (t1.2 != t2.2) (e 1) (sl (T6 (⟨toI (hdA (g8 (f7 [[i p.l7,i p.l9,i p.m8,i p.m9,i p.n4,i p.n5],[i p.n7,i p.n8,i p.n9,i p.o0,i p.o5,i p.o6],[i p.o7,i p.o8,i p.o9,i p.p7,i p.p8,i p.p9],[i p.q7,i p.q8,i p.q9,i p.r4,i p.r5,i p.r6]] (0+s.V4.toNat)) 0)),toI (hdA (tlA (g8 (f7 [[i p.l7,i p.l9,i p.m8,i p.m9,i p.n4,i p.n5],[i p.n7,i p.n8,i p.n9,i p.o0,i p.o5,i p.o6],[i p.o7,i p.o8,i p.o9,i p.p7,i p.p8,i p.p9],[i p.q7,i p.q8,i p.q9,i p.r4,i p.r5,i p.r6]] (0+s.V4.toNat)) 0))),toI (hdA (tlA (tlA (g8 (f7 [[i p.l7,i p.l9,i p.m8,i p.m9,i p.n4,i p.n5],[i p.n7,i p.n8,i p.n9,i p.o0,i p.o5,i p.o6],[i p.o7,i p.o8,i p.o9,i p.p7,i p.p8,i p.p9],[i p.q7,i p.q8,i p.q9,i p.r4,i p.r5,i p.r6]] (0+s.V4.toNat)) 0))))⟩:V3) (⟨toI (hdA (tlA (tlA (tlA (g8 (f7 [[i p.l7,i p.l9,i p.m8,i p.m9,i p.n4,i p.n5],[i p.n7,i p.n8,i p.n9,i p.o0,i p.o5,i p.o6],[i p.o7,i p.o8,i p.o9,i p.p7,i p.p8,i p.p9],[i p.q7,i p.q8,i p.q9,i p.r4,i p.r5,i p.r6]] (0+s.V4.toNat)) 0))))),toI (hdA (tlA (tlA (tlA (tlA (g8 (f7 [[i p.l7,i p.l9,i p.m8,i p.m9,i p.n4,i p.n5],[i p.n7,i p.n8,i p.n9,i p.o0,i p.o5,i p.o6],[i p.o7,i p.o8,i p.o9,i p.p7,i p.p8,i p.p9],[i p.q7,i p.q8,i p.q9,i p.r4,i p.r5,i p.r6]] (0+s.V4.toNat)) 0)))))),toI (hdA (tlA (tlA (tlA (tlA (tlA (g8 (f7 [[i p.l7,i p.l9,i p.m8,i p.m9,i p.n4,i p.n5],[i p.n7,i p.n8,i p.n9,i p.o0,i p.o5,i p.o6],[i p.o7,i p.o8,i p.o9,i p.p7,i p.p8,i p.p9],[i p.q7,i p.q8,i p.q9,i p.r4,i p.r5,i p.r6]] (0+s.V4.toNat)) 0)))))))⟩:V3)) (sl (Tb9 (⟨toI (hdA (g8 (f7 [[i p.l7,i p.l9,i p.m8,i p.m9,i p.n4,i p.n5],[i p.n7,i p.n8,i p.n9,i p.o0,i p.o5,i p.o6],[i p.o7,i p.o8,i p.o9,i p.p7,i p.p8,i p.p9],[i p.q7,i p.q8,i p.q9,i p.r4,i p.r5,i p.r6]] (0+s.V4.toNat)) 0)),toI (hdA (tlA (g8 (f7 [[i p.l7,i p.l9,i p.m8,i p.m9,i p.n4,i p.n5],[i p.n7,i p.n8,i p.n9,i p.o0,i p.o5,i p.o6],[i p.o7,i p.o8,i p.o9,i p.p7,i p.p8,i p.p9],[i p.q7,i p.q8,i p.q9,i p.r4,i p.r5,i p.r6]] (0+s.V4.toNat)) 0))),toI (hdA (tlA (tlA (g8 (f7 [[i p.l7,i p.l9,i p.m8,i p.m9,i p.n4,i p.n5],[i p.n7,i p.n8,i p.n9,i p.o0,i p.o5,i p.o6],[i p.o7,i p.o8,i p.o9,i p.p7,i p.p8,i p.p9],[i p.q7,i p.q8,i p.q9,i p.r4,i p.r5,i p.r6]] (0+s.V4.toNat)) 0))))⟩:V3) (⟨toI (hdA (tlA (tlA (tlA (g8 (f7 [[i p.l7,i p.l9,i p.m8,i p.m9,i p.n4,i p.n5],[i p.n7,i p.n8,i p.n9,i p.o0,i p.o5,i p.o6],[i p.o7,i p.o8,i p.o9,i p.p7,i p.p8,i p.p9],[i p.q7,i p.q8,i p.q9,i p.r4,i p.r5,i p.r6]] (0+s.V4.toNat)) 0))))),toI (hdA (tlA (tlA (tlA (tlA (g8 (f7 [[i p.l7,i p.l9,i p.m8,i p.m9,i p.n4,i p.n5],[i p.n7,i p.n8,i p.n9,i p.o0,i p.o5,i p.o6],[i p.o7,i p.o8,i p.o9,i p.p7,i p.p8,i p.p9],[i p.q7,i p.q8,i p.q9,i p.r4,i p.r5,i p.r6]] (0+s.V4.toNat)) 0)))))),toI (hdA (tlA (tlA (tlA (tlA (tlA (g8 (f7 [[i p.l7,i p.l9,i p.m8,i p.m9,i p.n4,i p.n5],[i p.n7,i p.n8,i p.n9,i p.o0,i p.o5,i p.o6],[i p.o7,i p.o8,i p.o9,i p.p7,i p.p8,i p.p9],[i p.q7,i p.q8,i p.q9,i p.r4,i p.r5,i p.r6]] (0+s.V4.toNat)) 0)))))))⟩:V3)) (sl (t3 != t4) (e 1) (k ⟨W (s.V4+1)⟩)) z) z))) z) z) z) z) z) z) (e 2))
noncomputable def L9(p:N8)(s:A8):Stp A8:=Q3 .next .exit .fail p s
noncomputable def wa7:Lo N8 A8:=⟨En Ba2,0,pf3,[1,1,1,1,1,0,1,4,4,1,1,0,4,1,1,1,1,1,4,4],[6,7,9,11,13,50,51,52,96,97,98],.p,[⟨ru2 6 (sPq 0::sPq 1::sUq::sBq::sUq::.s (.o (.sl 2 0 (some 0) (some 2)))::sUq::sTq 3::ru2 36 (.s (.o (.sl 3 0 (some 0) (some 5)))::.s (.o (.lit .i64 5))::sIq::ru2 43 (.s (.o (.sl 4 0 (some 0) (some 4)))::.s (.o (.lit .i64 4))::sIq::ru2 45 []))),[⟨0,3,true,some [kLq 3]⟩,⟨0,3,true,some [kLq 3]⟩,⟨25,3,false,some [kLq 3,kLq 3]⟩,⟨23,1,true,some [[.c 3 (nL tV)],[.o (.tree 3)],[.o (.tree 3)],[.o (.tree 3)],[.o (.tree 3)]]⟩,⟨33,6,true,some [kLq 6,kLq 6,kLq 6,kLq 6]⟩],λa H=>(⟨aBq a 9,aNq a 13,aGq a 13,aIq a 52,hIq H 0 0 0,hIq H 0 0 1,hIq H 0 0 2,hIq H 1 0 0,hIq H 1 0 1,hIq H 1 0 2,hIq H 2 0 0,hIq H 2 0 1,hIq H 2 0 2,hIq H 2 1 0,hIq H 2 1 1,hIq H 2 1 2,hLq tV H 3 0 0,hNq H 3 1 0,hGq H 3 1 0,hNq H 3 2 0,hGq H 3 2 0,hNq H 3 3 0,hGq H 3 3 0,hNq H 3 4 0,hGq H 3 4 0,hIq H 4 0 0,hIq H 4 0 1,hIq H 4 0 2,hIq H 4 0 3,hIq H 4 0 4,hIq H 4 0 5,hIq H 4 1 0,hIq H 4 1 1,hIq H 4 1 2,hIq H 4 1 3,hIq H 4 1 4,hIq H 4 1 5,hIq H 4 2 0,hIq H 4 2 1,hIq H 4 2 2,hIq H 4 2 3,hIq H 4 2 4,hIq H 4 2 5,hIq H 4 3 0,hIq H 4 3 1,hIq H 4 3 2,hIq H 4 3 3,hIq H 4 3 4,hIq H 4 3 5⟩,⟨aIq a 98⟩)⟩],L9,[(none,λp s=>⟨[b false],[]⟩),(some 2,λp s=>upq (Qa4 p s) [(99,b (decide (s.V4<4)))])],Qa4⟩
theorem Db9:wa7.Ok:=Lo.ok [] (by kernel_rfl) .nil rfl (.cons (λa H=>by kernel_rfl) .nil) λp s=>(.of @Q3 (λF _ _ _ _ _=>by unfold Q3;(repeat' apply r9 (f:=F))<;>rfl) (by kernel_rfl))
structure N9 where
 bs9:Bool
 (d9 d7 f0 s9 u7 u8 I8 I9 J0 Eb1 Eb2 Eb3:Int)
 G3:Nat
 G4:Nat->List b7
 G5:Nat
 G6:Nat->List b7
 G7:Nat
 G8:Nat->List b7
 G9:Nat
 H4:Nat->List b7
structure A9 where
 ab0:Int
 E6:List V3
noncomputable def Qa5(p:N9)(s:A9):St:=⟨ra 6 (.ptr 0 0 0 0::.ptr 1 0 0 0::.unk::b p.bs9::.unk::.sl 2 0 2 0::ra 38 (.sl 3 0 5 0::i 5::i s.ab0::ra 91 [])),[⟨0,3,[[i p.d9,i p.d7,i p.f0]],true,false,0⟩,⟨0,3,[[i p.s9,i p.u7,i p.u8]],true,false,0⟩,⟨25,3,[[i p.I8,i p.I9,i p.J0],[i p.Eb1,i p.Eb2,i p.Eb3]],false,false,0⟩,⟨23,1,[[eL tV s.E6],[.tree 3 p.G3 p.G4],[.tree 3 p.G5 p.G6],[.tree 3 p.G7 p.G8],[.tree 3 p.G9 p.H4]],true,false,0⟩]⟩
noncomputable def Q4{α:Type}(k:A9->α)(e:Nat->α)(z:α)(p:N9)(s:A9):α:=let t1:=(Z2 (lsL tV (toN (hdA (g8 (f7 [[eL tV s.E6],[.tree 3 p.G3 p.G4],[.tree 3 p.G5 p.G6],[.tree 3 p.G7 p.G8],[.tree 3 p.G9 p.H4]] (0+s.ab0.toNat)) 0))) (toG (hdA (g8 (f7 [[eL tV s.E6],[.tree 3 p.G3 p.G4],[.tree 3 p.G5 p.G6],[.tree 3 p.G7 p.G8],[.tree 3 p.G9 p.H4]] (0+s.ab0.toNat)) 0)))));let t2:=(yb1 (lsL tV (toN (hdA (g8 (f7 [[eL tV s.E6],[.tree 3 p.G3 p.G4],[.tree 3 p.G5 p.G6],[.tree 3 p.G7 p.G8],[.tree 3 p.G9 p.H4]] (0+s.ab0.toNat)) 0))) (toG (hdA (g8 (f7 [[eL tV s.E6],[.tree 3 p.G3 p.G4],[.tree 3 p.G5 p.G6],[.tree 3 p.G7 p.G8],[.tree 3 p.G9 p.H4]] (0+s.ab0.toNat)) 0)))));let t3:=(lp (L9 (⟨p.bs9,toN (hdA (g8 (f7 [[eL tV s.E6],[.tree 3 p.G3 p.G4],[.tree 3 p.G5 p.G6],[.tree 3 p.G7 p.G8],[.tree 3 p.G9 p.H4]] (0+s.ab0.toNat)) 0)),toG (hdA (g8 (f7 [[eL tV s.E6],[.tree 3 p.G3 p.G4],[.tree 3 p.G5 p.G6],[.tree 3 p.G7 p.G8],[.tree 3 p.G9 p.H4]] (0+s.ab0.toNat)) 0)),s.ab0,p.d9,p.d7,p.f0,p.s9,p.u7,p.u8,p.I8,p.I9,p.J0,p.Eb1,p.Eb2,p.Eb3,rt tV s.E6,p.G3,p.G4,p.G5,p.G6,p.G7,p.G8,p.G9,p.H4,p.d9,p.d7,p.f0,p.s9,p.u7,p.u8,p.I8,p.I9,p.J0,p.Eb1,p.Eb2,p.Eb3,p.Eb1,p.Eb2,p.Eb3,p.I8,p.I9,p.J0,p.d9,p.d7,p.f0,p.Eb1,p.Eb2,p.Eb3⟩:N8)) (⟨0⟩:A8));(sl (decide (s.ab0<5)) (sl (inB s.ab0 5) (sl (((Nat.blt (0+s.ab0.toNat) (len [[eL tV s.E6],[.tree 3 p.G3 p.G4],[.tree 3 p.G5 p.G6],[.tree 3 p.G7 p.G8],[.tree 3 p.G9 p.H4]]))&&(Nat.ble (0+1) (len (f7 [[eL tV s.E6],[.tree 3 p.G3 p.G4],[.tree 3 p.G5 p.G6],[.tree 3 p.G7 p.G8],[.tree 3 p.G9 p.H4]] (0+s.ab0.toNat)))))&&(ea5 [CK.sl 3] (g8 (f7 [[eL tV s.E6],[.tree 3 p.G3 p.G4],[.tree 3 p.G5 p.G6],[.tree 3 p.G7 p.G8],[.tree 3 p.G9 p.H4]] (0+s.ab0.toNat)) 0))) (sl (okL tV (toN (hdA (g8 (f7 [[eL tV s.E6],[.tree 3 p.G3 p.G4],[.tree 3 p.G5 p.G6],[.tree 3 p.G7 p.G8],[.tree 3 p.G9 p.H4]] (0+s.ab0.toNat)) 0))) (toG (hdA (g8 (f7 [[eL tV s.E6],[.tree 3 p.G3 p.G4],[.tree 3 p.G5 p.G6],[.tree 3 p.G7 p.G8],[.tree 3 p.G9 p.H4]] (0+s.ab0.toNat)) 0)))) (sl (Z3 (lsL tV (toN (hdA (g8 (f7 [[eL tV s.E6],[.tree 3 p.G3 p.G4],[.tree 3 p.G5 p.G6],[.tree 3 p.G7 p.G8],[.tree 3 p.G9 p.H4]] (0+s.ab0.toNat)) 0))) (toG (hdA (g8 (f7 [[eL tV s.E6],[.tree 3 p.G3 p.G4],[.tree 3 p.G5 p.G6],[.tree 3 p.G7 p.G8],[.tree 3 p.G9 p.H4]] (0+s.ab0.toNat)) 0))))) (sl (okL tV (toN (hdA (g8 (f7 [[eL tV s.E6],[.tree 3 p.G3 p.G4],[.tree 3 p.G5 p.G6],[.tree 3 p.G7 p.G8],[.tree 3 p.G9 p.H4]] (0+s.ab0.toNat)) 0))) (toG (hdA (g8 (f7 [[eL tV s.E6],[.tree 3 p.G3 p.G4],[.tree 3 p.G5 p.G6],[.tree 3 p.G7 p.G8],[.tree 3 p.G9 p.H4]] (0+s.ab0.toNat)) 0)))) (sl (yb2 (lsL tV (toN (hdA (g8 (f7 [[eL tV s.E6],[.tree 3 p.G3 p.G4],[.tree 3 p.G5 p.G6],[.tree 3 p.G7 p.G8],[.tree 3 p.G9 p.H4]] (0+s.ab0.toNat)) 0))) (toG (hdA (g8 (f7 [[eL tV s.E6],[.tree 3 p.G3 p.G4],[.tree 3 p.G5 p.G6],[.tree 3 p.G7 p.G8],[.tree 3 p.G9 p.H4]] (0+s.ab0.toNat)) 0))))) (sl (t1.1 != t2.1) (e 1) (sl (t1.2 != t2.2) (e 1) (sl ((cnE tV s.E6)&&true) (sl (Nat.beq t3.1 1) (e 1) (sl (Nat.beq t3.1 2) (k ⟨W (s.ab0+1),rt tV s.E6⟩) z)) z))) z) z) z) z) z) z) (e 2))
noncomputable def M0(p:N9)(s:A9):Stp A9:=Q4 .next .exit .fail p s
noncomputable def wa8:Lo N9 A9:=⟨En Ba2,0,pf3,[1,1,1,1,1,0,1,4,4],[6,7,9,11,50,51,52],.s .p (.s .p (.s (.b (.s .p (.s .p (.s .p (.s .p (.s .p (.b (.u wa7.ls)))))))) .p)),[⟨ru2 6 (sPq 0::sPq 1::sUq::sBq::sUq::.s (.o (.sl 2 0 (some 0) (some 2)))::ru2 38 (.s (.o (.sl 3 0 (some 0) (some 5)))::.s (.o (.lit .i64 5))::sIq::ru2 91 [])),[⟨0,3,true,some [kLq 3]⟩,⟨0,3,true,some [kLq 3]⟩,⟨25,3,false,some [kLq 3,kLq 3]⟩,⟨23,1,true,some [[.c 3 (nL tV)],[.o (.tree 3)],[.o (.tree 3)],[.o (.tree 3)],[.o (.tree 3)]]⟩],λa H=>(⟨aBq a 9,hIq H 0 0 0,hIq H 0 0 1,hIq H 0 0 2,hIq H 1 0 0,hIq H 1 0 1,hIq H 1 0 2,hIq H 2 0 0,hIq H 2 0 1,hIq H 2 0 2,hIq H 2 1 0,hIq H 2 1 1,hIq H 2 1 2,hNq H 3 1 0,hGq H 3 1 0,hNq H 3 2 0,hGq H 3 2 0,hNq H 3 3 0,hGq H 3 3 0,hNq H 3 4 0,hGq H 3 4 0⟩,⟨aIq a 52,hLq tV H 3 0 0⟩)⟩],M0,[(none,λp s=>⟨[b false],[]⟩),(some 0,λp s=>upq (Qa5 p s) [(53,b (decide (s.ab0<5)))])],Qa5⟩
theorem Eb0:wa8.Ok:=Lo.ok [wa7.pr] (by kernel_rfl) (.cons Db9 .nil) rfl (.cons (λa H=>by kernel_rfl) .nil) λp s=>(.of @Q4 (λF _ _ _ _ _=>by unfold Q4;(repeat' apply r9 (f:=F))<;>rfl) (by kernel_rfl))
noncomputable def fa0(x:List Int)(y:List V3)(z:V3)(w:V3):Option (b7×List c8):=let t1:=Qa1;let t2:=(Pa8 (rt tI x));let t3:=(Ga9 z);let t4:=(Ga9 w);let t5:=(lp (M0 (⟨t1,z.x,z.y,z.z,w.x,w.y,w.z,t3.x,t3.y,t3.z,t4.x,t4.y,t4.z,((if 6<(↑(List.length y):Int) then 6 else (↑(List.length y):Int)).toNat-0),(λk=>(λk=>(tV).row (gL tV y k)) (0+k)),((0+(len (u9 (λk=>(tV).row (gL tV t2 k)) (List.range (List.length t2)))))+(len (u9 (λk=>(λk=>(tV).row (gL tV y k)) (0+k)) (List.range ((if 6<(↑(List.length y):Int) then 6 else (↑(List.length y):Int)).toNat-0))))),(λk=>f7 (app (app [] (u9 (λk=>(tV).row (gL tV t2 k)) (List.range (List.length t2)))) (u9 (λk=>(λk=>(tV).row (gL tV y k)) (0+k)) (List.range ((if 6<(↑(List.length y):Int) then 6 else (↑(List.length y):Int)).toNat-0)))) (0+k)),((0+(len (u9 (λk=>(tV).row (gL tV t2 k)) (List.range (List.length t2)))))+2),(λk=>f7 (app (app [] (u9 (λk=>(tV).row (gL tV t2 k)) (List.range (List.length t2)))) [[i t3.x,i t3.y,i t3.z],[i t4.x,i t4.y,i t4.z]]) (0+k)),2,(λk=>f7 [[i t3.x,i t3.y,i t3.z],[i t4.x,i t4.y,i t4.z]] (0+k))⟩:N9)) (⟨0,rt tV t2⟩:A9));(sl Qa2 (sl (okE tI x) (sl (Pa9 (rt tI x)) (sl (inB (if 6<(↑(List.length y):Int) then 6 else (↑(List.length y):Int)) ((List.length y)+1)) (sl (Nat.beq 0 0&&Nat.ble ((0+(len (u9 (λk=>(tV).row (gL tV t2 k)) (List.range (List.length t2)))))*24) room) (sl (Nat.beq (0+(len (u9 (λk=>(tV).row (gL tV t2 k)) (List.range (List.length t2))))) (len (app [] (u9 (λk=>(tV).row (gL tV t2 k)) (List.range (List.length t2)))))&&Nat.ble (((0+(len (u9 (λk=>(tV).row (gL tV t2 k)) (List.range (List.length t2)))))+(len (u9 (λk=>(λk=>(tV).row (gL tV y k)) (0+k)) (List.range ((if 6<(↑(List.length y):Int) then 6 else (↑(List.length y):Int)).toNat-0)))))*24) room) (sl (Nat.beq 0 0&&Nat.ble ((0+(len (u9 (λk=>(tV).row (gL tV t2 k)) (List.range (List.length t2)))))*24) room) (sl (Nat.beq (0+(len (u9 (λk=>(tV).row (gL tV t2 k)) (List.range (List.length t2))))) (len (app [] (u9 (λk=>(tV).row (gL tV t2 k)) (List.range (List.length t2)))))&&Nat.ble (((0+(len (u9 (λk=>(tV).row (gL tV t2 k)) (List.range (List.length t2)))))+2)*24) room) (sl ((cnE tV t2)&&true) (sl (Nat.beq t5.1 1) (some (b false,[])) (sl (Nat.beq t5.1 2) (some (b t1,[])) none)) none) none) none) none) none) none) none) none) none)
noncomputable def oa7(x:List Int)(y:List V3)(z:V3)(w:V3):Bool:=N7 (one r1B) (fa0 x y z w)
noncomputable def oa8(x:List Int)(y:List V3)(z:V3)(w:V3):Bool:=okO (one r1B) (fa0 x y z w)
noncomputable def Vb7:Sum:=Nc3 (na0 tI) (na0 tV) (L2 tV) (L2 tV) (λx y z w=>.guard (oa8 x y z w) (.ret ((one r1B).enc (oa7 x y z w),[])))
theorem Qb3:i7 prog G 3 Vb7:=Te9 (bd b3 Hb4) (one r1B) (o:=fa0) λx y z w=>Ea4 (.s .p (.s .p (.s .p (.s .p (.s .p (.s (.s .p (.b (.u wa8.ls))) .p)))))) [wa8.pr] (by kernel_rfl) (.cons Eb0 .nil) (by kernel_rfl)
theorem Md1(P:N8)(X:List V3)(hX:lsL tV P.xd2 P.xd3=X)(oX:okL tV P.xd2 P.xd3=true)(lX:X.length<=900000):(lp (L9 P) ⟨0⟩).1=2:=by
 have h:=Bb5 (step:=L9 P) (mk:=λj=>(⟨(j:Int)⟩:A8)) (c:=λ_=>false) (u:=1) (fin:=2) tI [0,0,0,0] (by simp)
  (λj hj=>by
   have hj:j<4:=hj;have hw:W ((j:Int)+1)=((j+1:Nat):Int):=v8 hj (by omega)
   have hcase:j=0\/j=1\/j=2\/j=3:=by omega
   have hrow:(((Nat.blt (0+j) (len [[i P.l7,i P.l9,i P.m8,i P.m9,i P.n4,i P.n5],[i P.n7,i P.n8,i P.n9,i P.o0,i P.o5,i P.o6],[i P.o7,i P.o8,i P.o9,i P.p7,i P.p8,i P.p9],[i P.q7,i P.q8,i P.q9,i P.r4,i P.r5,i P.r6]]))&&(Nat.ble (0+6) (len (f7 [[i P.l7,i P.l9,i P.m8,i P.m9,i P.n4,i P.n5],[i P.n7,i P.n8,i P.n9,i P.o0,i P.o5,i P.o6],[i P.o7,i P.o8,i P.o9,i P.p7,i P.p8,i P.p9],[i P.q7,i P.q8,i P.q9,i P.r4,i P.r5,i P.r6]] (0+j)))))&&(ea5 [CK.int .i64,CK.int .i64,CK.int .i64,CK.int .i64,CK.int .i64,CK.int .i64] (g8 (f7 [[i P.l7,i P.l9,i P.m8,i P.m9,i P.n4,i P.n5],[i P.n7,i P.n8,i P.n9,i P.o0,i P.o5,i P.o6],[i P.o7,i P.o8,i P.o9,i P.p7,i P.p8,i P.p9],[i P.q7,i P.q8,i P.q9,i P.r4,i P.r5,i P.r6]] (0+j)) 0)))=true:=by
    rcases hcase with rfl|rfl|rfl|rfl<;>rfl
   have ne:∀n:Int,(n != n)=false:=λn=>by simp
   simp only[L9,Q3,Int.toNat_natCast,hw,hX,oX,hrow,Ce7 X _ _ lX,Pe0 X _ _ lX,Ce8 X _ _ lX,Pe1 X _ _ lX,Md0,wd9,ee0,ne];rw[btD (show (j:Int)<4 by omega),bt (i5 hj)]
   rfl)
  (by simp only[L9,Q3];rw[bfD (by show ¬ ((4:Nat):Int)<4;omega)]) 0 (Qld _)
 rw[show (⟨0⟩:A8)=⟨((0:Nat):Int)⟩ from rfl,h]
 rfl
theorem Md2 (P : N9) (A X1 X2 X3 X4 : List V3) (l1 : lsL tV P.G3 P.G4 = X1) (o1 : okL tV P.G3 P.G4 = true) (l2 : lsL tV P.G5 P.G6 = X2) (o2 : okL tV P.G5 P.G6 = true) (l3 : lsL tV P.G7 P.G8 = X3) (o3 : okL tV P.G7 P.G8 = true) (l4 : lsL tV P.G9 P.H4 = X4) (o4 : okL tV P.G9 P.H4 = true)
  (hA:A.length<=900000) (h1:X1.length<=900000) (h2:X2.length<=900000) (h3:X3.length<=900000) (h4:X4.length<=900000):(lp (M0 P) ⟨0,A⟩).1=2:=by
 have h:=Bb5 (step:=M0 P) (mk:=λj=>(⟨(j:Int),A⟩:A9)) (c:=λ_=>false) (u:=1) (fin:=2) tI [0,0,0,0,0] (by simp)
  (λj hj=>by
   have hj:j<5:=hj;have hw:W ((j:Int)+1)=((j+1:Nat):Int):=v8 hj (by omega)
   have hcase:j=0\/j=1\/j=2\/j=3\/j=4:=by omega
   obtain ⟨X, hX, oX, lX, rX⟩ : ∃ X : List V3, lsL tV (toN (hdA (g8 (f7 [[(eL tV A)], [(.tree 3 P.G3 P.G4)], [(.tree 3 P.G5 P.G6)], [(.tree 3 P.G7 P.G8)], [(.tree 3 P.G9 P.H4)]] (0 + j)) 0))) (toG (hdA (g8 (f7 [[(eL tV A)], [(.tree 3 P.G3 P.G4)], [(.tree 3 P.G5 P.G6)], [(.tree 3 P.G7 P.G8)], [(.tree 3 P.G9 P.H4)]] (0 + j)) 0))) = X ∧
     okL tV (toN (hdA (g8 (f7 [[eL tV A],[.tree 3 P.G3 P.G4],[.tree 3 P.G5 P.G6],[.tree 3 P.G7 P.G8],[.tree 3 P.G9 P.H4]] (0+j)) 0))) (toG (hdA (g8 (f7 [[eL tV A],[.tree 3 P.G3 P.G4],[.tree 3 P.G5 P.G6],[.tree 3 P.G7 P.G8],[.tree 3 P.G9 P.H4]] (0+j)) 0)))=true/\X.length<=900000 /\
     (((Nat.blt (0+j) (len [[eL tV A],[.tree 3 P.G3 P.G4],[.tree 3 P.G5 P.G6],[.tree 3 P.G7 P.G8],[.tree 3 P.G9 P.H4]]))&&(Nat.ble (0+1) (len (f7 [[eL tV A],[.tree 3 P.G3 P.G4],[.tree 3 P.G5 P.G6],[.tree 3 P.G7 P.G8],[.tree 3 P.G9 P.H4]] (0+j)))))&&(ea5 [CK.sl 3] (g8 (f7 [[eL tV A],[.tree 3 P.G3 P.G4],[.tree 3 P.G5 P.G6],[.tree 3 P.G7 P.G8],[.tree 3 P.G9 P.H4]] (0+j)) 0)))=true:=by
    rcases hcase with rfl|rfl|rfl|rfl|rfl
    ·exact⟨A,l5 tV A,L5 tV A,hA,rfl⟩
    ·exact⟨X1,l1,o1,h1,rfl⟩
    ·exact⟨X2,l2,o2,h2,rfl⟩
    ·exact⟨X3,l3,o3,h3,rfl⟩
    ·exact⟨X4,l4,o4,h4,rfl⟩
   have ne:∀n:Int,(n != n)=false:=λn=>by simp
   simp only[M0,Q4,Int.toNat_natCast,hw,l5,j9,hX,oX,rX,Ld0 X lX,Ld1 X lX,Ld8 X lX,Ld9 X lX,ne];rw[btD (show (j:Int)<5 by omega),bt (i5 hj)]
   rw[Md1 _ X hX oX lX]
   rfl)
  (by simp only[M0,Q4];rw[bfD (by show ¬ ((5:Nat):Int)<5;omega)]) 0 (Qld _)
 rw[show (⟨0,A⟩:A9)=⟨((0:Nat):Int),A⟩ from rfl,h]
 rfl
theorem Ac9(x:List Int)(y:List V3)(z w:V3):fa0 x y z w=some (b true,[]):=by
 have hp:=Wd2 x;have hgp:=Wd3 x;have hm:=Tc9 (x.take 40);generalize A4 (x.take 40)=l at hm hp;obtain⟨u,hu⟩:∃u,Ga9 z=u:=⟨_,rfl⟩;obtain⟨v,hv⟩:∃v,Ga9 w=v:=⟨_,rfl⟩;have hif:((if (6:Int)<(y.length:Int) then (6:Int) else (y.length:Int)).toNat-0)=(y.take 6).length:=by
  rw[Qlad];split<;>omega
 have hin:inB (if (6:Int)<(y.length:Int) then (6:Int) else (y.length:Int)) (y.length+1)=true:=by
  split
  ·exact i5 (j:=6) (by omega)
  ·exact i5 (by omega)
 have ht:(y.take 6).length<=6:=Qlh 6 y;have gk:∀k,k<(y.take 6).length->tV.row (gL tV y (0+k))=tV.row (gL tV (y.take 6) k):=λk hk=>by
  rw[Qlz,Ac5 tV y (by omega)]
 have a2:u9 (λk=>tV.row (gL tV l k)) (List.range l.length)=bL tV l:=gb0 tV l
 have a1:u9 (λk=>(λk=>tV.row (gL tV y k)) (0+k)) (List.range (y.take 6).length)=bL tV (y.take 6):=by
  rw[<- gb0 tV (y.take 6),k9,k9];exact List.map_congr_left λk hk=>gk k (List.mem_range.1 hk)
 have a3:[[i u.x,i u.y,i u.z],[i v.x,i v.y,i v.z]]=bL tV [u,v]:=rfl;have n0:0+l.length=l.length:=Qlz _;have n1:l.length+(y.take 6).length=(l++y.take 6).length:=by rw[Qlt]
 have n2:l.length+2=(l++[u,v]).length:=by rw[Qlt];rfl
 have L4:app [] (bL tV l)=bL tV l:=rfl;have r1:(l.length*24).ble room=true:=ec6 (by omega)
 have r2:((l++y.take 6).length*24).ble room=true:=ec6 (by rw[<- n1];omega)
 have r3:((l++[u,v]).length*24).ble room=true:=ec6 (by rw[<- n2];omega)
 have bq:∀n:Nat,Nat.beq n n=true:=λn=>Nat.beq_refl n
 have rows:∀(L:List V3) k,k<L.length->(λk=>f7 (bL tV L) (0+k)) k=tV.row (gL tV L k):=λL k hk=>by
  show f7 _ (0+k)=_;rw[Qlz,V9 tV hk]
 have key:=Md2 ⟨true,z.x,z.y,z.z,w.x,w.y,w.z,u.x,u.y,u.z,v.x,v.y,v.z,(y.take 6).length,(λk=>(λk=>tV.row (gL tV y k)) (0+k)),(l++y.take 6).length,(λk=>f7 (bL tV (l++y.take 6)) (0+k)),(l++[u,v]).length,(λk=>f7 (bL tV (l++[u,v])) (0+k)),2,(λk=>f7 (bL tV [u,v]) (0+k))⟩ l (y.take 6) (l++y.take 6) (l++[u,v]) [u,v]
  (pb8 tV rfl gk) (Ma0 tV (f:=λk=>gL tV (y.take 6) k) gk) (pb8 tV rfl (rows _)) (Ma0 tV (f:=λk=>gL tV (l++y.take 6) k) (rows _)) (pb8 tV rfl (rows _)) (Ma0 tV (f:=λk=>gL tV (l++[u,v]) k) (rows _)) (pb8 tV rfl (rows [u,v])) (Ma0 tV (f:=λk=>gL tV [u,v] k) (rows [u,v]))
  (by omega) (by omega) (by rw[<- n1];omega) (by rw[<- n2];omega) (by simp)
 unfold fa0;simp only[Wd0,Wd1,l5,L5,j9,hp,hgp,hu,hv,hif,hin,a2,a1,a3,L4,Ia5,ia3,n0,n1,n2,key,r1,r2,r3,bq];rfl
theorem ne6(x:List Int)(y:List V3)(z w:V3):oa7 x y z w=true:=by unfold oa7;rw[Ac9];rfl
theorem ne7(x:List Int)(y:List V3)(z w:V3):oa8 x y z w=true:=by unfold oa8;rw[Ac9];rfl
end Go.Ev.Ce
