/- Own work: a part of the proof. -/
import Derived.Test.YtekgjjgbdcgldaaGreatEvJ0
import Derived.Test.YtekgjjgbdcgldaaGreatEvOS2
import Derived.Test.YtekgjjgbdcgldaaGreatEvSp2
import Derived.ChangeStays
import Derived.ChangeSame
import Derived.OpenShut
import Derived.RowKit
import Derived.Test.YtekgjjgbdcgldaaGreatEvODH
set_option linter.unusedVariables false
set_option linter.unusedSimpArgs false
set_option linter.unnecessarySimpa false
set_option linter.unusedSectionVars false
namespace Go.Ev.Ce
open Go Go.Ev Go.Ev.L Go.Proofs
theorem Te5 {v:V3} (h:g3 v=0):v=⟨0,0,0⟩:=by
 unfold g3 at h
 have h:Nat.gcd (Nat.gcd v.x.natAbs v.y.natAbs) v.z.natAbs=0:=by omega
 rw[Nat.gcd_eq_zero_iff,Nat.gcd_eq_zero_iff] at h
 exact V3.ext' (by show v.x=0;omega) (by show v.y=0;omega) (by show v.z=0;omega)
theorem kc0 {a c k:V3} (ha:inV a=true) (hc:inV c=true) (hk:inV k=true) (h:N3 a c k≠⟨0,0,0⟩):(K0 a c k).2=true:=by
 unfold K0
 rw[ha,hc,hk]
 simp only[Bool.and_self,if_true]
 rw[if_neg (fun h0=>h (Te5 h0):¬ g3 (f7 (sub c a) (sub k a))=0)]
theorem qd4 {a c k:V3} {p:Pln} (h:Thr a c k p):N3 a c k≠⟨0,0,0⟩:=fun e=>by
 obtain⟨ok,⟨g,hg,e1,e2,e3⟩,_⟩:=h
 have e':f7 (sub c a) (sub k a)=⟨0,0,0⟩:=e
 rw[e'] at e1 e2 e3
 have z:∀ {x:Int},g*x=0→x=0:=fun h=>(Int.mul_eq_zero.1 h).resolve_left (by omega)
 exact Ee8 ok (V3.ext' (z e1) (z e2) (z e3))
theorem Ad5 {a c k:V3} {p:Pln} (h:Thr a c k p):dot p.n a=p.b∧dot p.n c=p.b∧dot p.n k=p.b:=by
 obtain⟨ok,⟨g,hg,e1,e2,e3⟩,o⟩:=h
 have z:∀ {x y:Int},g*(x - y)=0→x=y:=fun h=>by have:=(Int.mul_eq_zero.1 h).resolve_left (by omega);omega
 refine⟨o.symm,?_,?_⟩
 ·rw[o]
  apply z
  have:g*(dot p.n c - dot p.n a)=(g*p.n.x)*(c.x - a.x)+(g*p.n.y)*(c.y - a.y)+(g*p.n.z)*(c.z - a.z):=by simp only[dot];grind
  rw[this,e1,e2,e3];simp only[f7,sub];grind
 ·rw[o]
  apply z
  have:g*(dot p.n k - dot p.n a)=(g*p.n.x)*(k.x - a.x)+(g*p.n.y)*(k.y - a.y)+(g*p.n.z)*(k.z - a.z):=by simp only[dot];grind
  rw[this,e1,e2,e3];simp only[f7,sub];grind
theorem Ob9 (p:Pln) (v:V3):dot (sa3 p).n v=(sa3 p).b↔dot p.n v=p.b:=by
 rw[Yc0]
 show -dot p.n v=-p.b↔_
 omega
theorem Qd8 {a c k:V3} {p q:Pln} (h:Thr a c k q) (hp:okp p=true) (t1:dot p.n a=p.b) (t2:dot p.n c=p.b) (t3:dot p.n k=p.b):p=q∨p=sa3 q:=by
 obtain⟨s1,s2,s3⟩:=Ad5 h
 obtain⟨ok,⟨g,hg,e1,e2,e3⟩,o⟩:=h
 have d1:dot p.n (sub c a)=0:=by simp only[dot,sub] at *;grind
 have d2:dot p.n (sub k a)=0:=by simp only[dot,sub] at *;grind
 have hc:f7 q.n p.n=⟨0,0,0⟩:=by
  have z:∀ {x:Int},g*x=0→x=0:=fun h=>(Int.mul_eq_zero.1 h).resolve_left (by omega)
  generalize sub c a=u at *
  generalize sub k a=w at *
  refine V3.ext' (z ?_) (z ?_) (z ?_)
  ·have:g*(f7 q.n p.n).x=(g*q.n.y)*p.n.z - (g*q.n.z)*p.n.y:=by simp only[f7];grind
   rw[this,e2,e3]
   have:(f7 u w).y*p.n.z - (f7 u w).z*p.n.y=w.x*dot p.n u - u.x*dot p.n w:=by simp only[f7,dot];grind
   rw[this,d1,d2];simp
  ·have:g*(f7 q.n p.n).y=(g*q.n.z)*p.n.x - (g*q.n.x)*p.n.z:=by simp only[f7];grind
   rw[this,e1,e3]
   have:(f7 u w).z*p.n.x - (f7 u w).x*p.n.z=w.y*dot p.n u - u.y*dot p.n w:=by simp only[f7,dot];grind
   rw[this,d1,d2];simp
  ·have:g*(f7 q.n p.n).z=(g*q.n.x)*p.n.y - (g*q.n.y)*p.n.x:=by simp only[f7];grind
   rw[this,e1,e2]
   have:(f7 u w).x*p.n.y - (f7 u w).y*p.n.x=w.z*dot p.n u - u.z*dot p.n w:=by simp only[f7,dot];grind
   rw[this,d1,d2];simp
 obtain⟨pn,pb⟩:=p
 obtain⟨qn,qb⟩:=q
 rcases Fe0 (be1 ok) (be1 hp) hc with e | e
 ·left
  simp only at e o t1 s1 t2 t3
  subst e
  rw[← t1,s1]
 ·right
  simp only at e o t1 s1 t2 t3
  subst e
  rw[← t1]
  simp only[dot,neg,sa3] at s1 ⊢
  simp only[Pln.mk.injEq,true_and]
  grind
structure Qd9 (l:List V3) (p:Pln):Prop extends Fac l p.n p.b where
 ok:okp p=true
theorem Yc1 {l:List V3} {p:Pln} {u w x:V3} (hu:u∈l) (hw:w∈l) (hx:x∈l) (h:Thr u w x p) (hh:∀ v∈l,dot (sa3 p).n v≤(sa3 p).b):Qd9 l (sa3 p):=by
 obtain⟨s1,s2,s3⟩:=Ad5 h
 exact⟨⟨hh,u,w,x,hu,hw,hx,qd4 h,(Ob9 p u).2 s1,(Ob9 p w).2 s2,(Ob9 p x).2 s3⟩,jc6 h.ok⟩
theorem Ad6 {l:List V3} {p:Pln} {u w x:V3} (hu:u∈l) (hw:w∈l) (hx:x∈l) (h:Thr u w x p) (hh:∀ v∈l,dot p.n v≤p.b):Qd9 l p:=by
 obtain⟨s1,s2,s3⟩:=Ad5 h
 exact⟨⟨hh,u,w,x,hu,hw,hx,qd4 h,s1,s2,s3⟩,h.ok⟩
theorem Fe1 {u w x:V3} (h:N3 u w x≠⟨0,0,0⟩):N3 w u x≠⟨0,0,0⟩∧N3 u x w≠⟨0,0,0⟩∧N3 x w u≠⟨0,0,0⟩∧N3 w x u≠⟨0,0,0⟩∧N3 x u w≠⟨0,0,0⟩:=by
 have e1:N3 w u x=neg (N3 u w x):=V3.ext' (by simp only[N3,f7,V1,neg];grind) (by simp only[N3,f7,V1,neg];grind) (by simp only[N3,f7,V1,neg];grind)
 have e2:N3 u x w=neg (N3 u w x):=V3.ext' (by simp only[N3,f7,V1,neg];grind) (by simp only[N3,f7,V1,neg];grind) (by simp only[N3,f7,V1,neg];grind)
 have e3:N3 x w u=neg (N3 u w x):=V3.ext' (by simp only[N3,f7,V1,neg];grind) (by simp only[N3,f7,V1,neg];grind) (by simp only[N3,f7,V1,neg];grind)
 have e4:N3 w x u=N3 u w x:=V3.ext' (by simp only[N3,f7,V1];grind) (by simp only[N3,f7,V1];grind) (by simp only[N3,f7,V1];grind)
 have e5:N3 x u w=N3 u w x:=V3.ext' (by simp only[N3,f7,V1];grind) (by simp only[N3,f7,V1];grind) (by simp only[N3,f7,V1];grind)
 rw[e1,e2,e3,e4,e5]
 exact⟨Ad4 h,Ad4 h,Ad4 h,h,h⟩
theorem vf3 {u w x:V3} (h:N3 u w x≠⟨0,0,0⟩):u≠w∧u≠x∧w≠x:=by
 refine⟨fun e=>h ?_,fun e=>h ?_,fun e=>h ?_⟩<;>subst e<;>refine V3.ext' ?_ ?_ ?_<;>simp only[N3,f7,V1]<;>grind
theorem kf8 {l : List V3} {u w x : V3} (hu : u ∈ l) (hw : w ∈ l) (hx : x ∈ l) (h : N3 u w x ≠ ⟨0, 0, 0⟩) :
  ∃ a,a < l.length∧∃ c,c < a∧∃ k,k < c∧N3 (gL tV l a) (gL tV l c) (gL tV l k)≠⟨0,0,0⟩∧∀ f:V3→Prop,f u→f w→f x→f (gL tV l a)∧f (gL tV l c)∧f (gL tV l k):=by
 obtain⟨i,hi,rfl⟩:=List.mem_iff_getElem.1 hu
 obtain⟨j,hj,rfl⟩:=List.mem_iff_getElem.1 hw
 obtain⟨k,hk,rfl⟩:=List.mem_iff_getElem.1 hx
 obtain⟨n1,n2,n3⟩:=vf3 h
 obtain⟨s1,s2,s3,s4,s5⟩:=Fe1 h
 have d1:i≠j:=fun e=>n1 (by subst e;rfl)
 have d2:i≠k:=fun e=>n2 (by subst e;rfl)
 have d3:j≠k:=fun e=>n3 (by subst e;rfl)
 rw[← Ua0 tV hi,← Ua0 tV hj,← Ua0 tV hk] at *
 rcases Nat.lt_or_gt_of_ne d1 with h1 | h1<;>rcases Nat.lt_or_gt_of_ne d2 with h2 | h2<;>rcases Nat.lt_or_gt_of_ne d3 with h3 | h3
 ·exact⟨k,hk,j,h3,i,h1,s3,fun f a b c=>⟨c,b,a⟩⟩
 ·exact⟨j,hj,k,h3,i,h2,s4,fun f a b c=>⟨b,c,a⟩⟩
 ·omega
 ·exact⟨j,hj,i,h1,k,h2,s1,fun f a b c=>⟨b,a,c⟩⟩
 ·exact⟨k,hk,i,h2,j,h1,s5,fun f a b c=>⟨c,a,b⟩⟩
 ·omega
 ·exact⟨i,hi,k,h2,j,h3,s2,fun f a b c=>⟨a,c,b⟩⟩
 ·exact⟨i,hi,j,h1,k,h3,h,fun f a b c=>⟨a,b,c⟩⟩
theorem je1 {l:List V3} (hl:l.all inV=true) (p:Pln):p∈F0 l↔Qd9 l p:=by
 have hin:=List.all_eq_true.1 hl
 constructor
 ·intro hp
  obtain⟨a,ha,c,hc,k,hk,h1,h2⟩:=(be2 l p).1 hp
  have ma:=gLm ha
  have mc:=gLm (show c < l.length by omega)
  have mk:=gLm (show k < l.length by omega)
  have ht:=(Sa1 h1).2
  rcases h2 with⟨rfl,h3⟩ | ⟨rfl,h3⟩
  ·exact Ad6 ma mc mk ht ((ub6 ht.ok hl).1 h3)
  ·exact Yc1 ma mc mk ht ((ub6 (jc6 ht.ok) hl).1 h3)
 ·intro h
  obtain⟨u,w,x,hu,hw,hx,h3,t1,t2,t3⟩:=h.on
  obtain⟨a,ha,c,hc,k,hk,hn,hall⟩:=kf8 hu hw hx h3
  obtain⟨i1,i2,i3⟩:=hall (fun v=>inV v=true) (hin u hu) (hin w hw) (hin x hx)
  obtain⟨e1,e2,e3⟩:=hall (fun v=>dot p.n v=p.b) t1 t2 t3
  have h2:=kc0 i1 i2 i3 hn
  refine (be2 l p).2 ⟨a,ha,c,hc,k,hk,h2,?_⟩
  have hh:=(ub6 h.ok hl).2 h.hd
  rcases Qd8 (Sa1 h2).2 h.ok e1 e2 e3 with e | e
  ·exact .inl ⟨e,hh⟩
  ·exact .inr ⟨e,hh⟩
theorem Te6 {n:V3} (h:n≠⟨0,0,0⟩):0 < dot n n:=by
 have sq:∀ a:Int,0≤a*a:=fun a=>by
  by_cases h:0≤a
  ·exact Int.mul_nonneg h h
  ·have:=Int.mul_nonneg (show 0≤-a by omega) (show 0≤-a by omega)
   rw[Int.neg_mul_neg] at this
   exact this
 have z:∀ {a:Int},a*a=0→a=0:=fun h=>(Int.mul_eq_zero.1 h).elim id id
 have s1:=sq n.x;have s2:=sq n.y;have s3:=sq n.z
 by_cases h0:0 < dot n n
 ·exact h0
 ·exfalso
  simp only[dot] at h0
  exact h (V3.ext' (z (by omega)) (z (by omega)) (z (by omega)))
theorem Te7 {l:List V3} (hl:l.all inV=true) {c:List Pln} (hc:∀ p,Qd9 l p→p∈c):vf2 l c:=fun n b hn hf=>by
 have hin:=List.all_eq_true.1 hl
 obtain⟨u,w,x,hu,hw,hx,h3,t1,t2,t3⟩:=hf.on
 have h2:=kc0 (hin u hu) (hin w hw) (hin x hx) h3
 have ht:=(Sa1 h2).2
 generalize (K0 u w x).1=q at ht
 obtain⟨s1,s2,s3⟩:=Ad5 ht
 have hnn:=Te6 hn
 have d1:dot n (V1 w u)=0:=by simp only[dot,V1] at *;grind
 have d2:dot n (V1 x u)=0:=by simp only[dot,V1] at *;grind
 -- the normals are parallel
 have par:dot n n*q.n.x=dot q.n n*n.x∧dot n n*q.n.y=dot q.n n*n.y∧dot n n*q.n.z=dot q.n n*n.z:=by
  obtain⟨ok,⟨g,hg,e1,e2,e3⟩,o⟩:=ht
  have z:∀ {x y:Int},g*(x - y)=0→x=y:=fun h=>by have:=(Int.mul_eq_zero.1 h).resolve_left (by omega);omega
  have eg:g*dot q.n n=(f7 (V1 w u) (V1 x u)).x*n.x+(f7 (V1 w u) (V1 x u)).y*n.y+(f7 (V1 w u) (V1 x u)).z*n.z:=by
   have:g*dot q.n n=(g*q.n.x)*n.x+(g*q.n.y)*n.y+(g*q.n.z)*n.z:=by simp only[dot];grind
   rw[this,e1,e2,e3];rfl
  have e1:g*q.n.x=(f7 (V1 w u) (V1 x u)).x:=e1
  have e2:g*q.n.y=(f7 (V1 w u) (V1 x u)).y:=e2
  have e3:g*q.n.z=(f7 (V1 w u) (V1 x u)).z:=e3
  generalize V1 w u=p at *
  generalize V1 x u=r at *
  refine⟨z ?_,z ?_,z ?_⟩
  ·have:g*(dot n n*q.n.x - dot q.n n*n.x)=dot n n*(g*q.n.x) - (g*dot q.n n)*n.x:=by grind
   rw[this,e1,eg]
   have:dot n n*(f7 p r).x - ((f7 p r).x*n.x+(f7 p r).y*n.y+(f7 p r).z*n.z)*n.x=(n.y*r.z - n.z*r.y)*dot n p - (n.y*p.z - n.z*p.y)*dot n r:=by simp only[dot,f7];grind
   rw[this,d1,d2];simp
  ·have:g*(dot n n*q.n.y - dot q.n n*n.y)=dot n n*(g*q.n.y) - (g*dot q.n n)*n.y:=by grind
   rw[this,e2,eg]
   have:dot n n*(f7 p r).y - ((f7 p r).x*n.x+(f7 p r).y*n.y+(f7 p r).z*n.z)*n.y=(n.z*r.x - n.x*r.z)*dot n p - (n.z*p.x - n.x*p.z)*dot n r:=by simp only[dot,f7];grind
   rw[this,d1,d2];simp
  ·have:g*(dot n n*q.n.z - dot q.n n*n.z)=dot n n*(g*q.n.z) - (g*dot q.n n)*n.z:=by grind
   rw[this,e3,eg]
   have:dot n n*(f7 p r).z - ((f7 p r).x*n.x+(f7 p r).y*n.y+(f7 p r).z*n.z)*n.z=(n.x*r.y - n.y*r.x)*dot n p - (n.x*p.y - n.y*p.x)*dot n r:=by simp only[dot,f7];grind
   rw[this,d1,d2];simp
 have fin:∀ r:Pln,Thr u w x q→(r=q∨r=sa3 q)→0 < dot r.n n→(dot n n*r.n.x=dot r.n n*n.x∧dot n n*r.n.y=dot r.n n*n.y∧dot n n*r.n.z=dot r.n n*n.z)→∃ s t:Int,0 < s∧0 < t∧∃ q∈c,t*q.n.x=s*n.x∧t*q.n.y=s*n.y∧t*q.n.z=s*n.z∧t*q.b=s*b:=fun r ht hr hp ⟨p1,p2,p3⟩=>by
  have hru:dot r.n u=r.b:=by
   rcases hr with rfl | rfl
   ·exact s1
   ·exact (Ob9 q u).2 s1
  have ed:∀ v,dot n n*dot r.n v=dot r.n n*dot n v:=fun v=>by
   have:dot n n*dot r.n v=(dot n n*r.n.x)*v.x+(dot n n*r.n.y)*v.y+(dot n n*r.n.z)*v.z:=by
    generalize dot n n=t
    simp only[dot];grind
   rw[this,p1,p2,p3]
   generalize dot r.n n=s
   simp only[dot];grind
  have eb:dot n n*r.b=dot r.n n*b:=by rw[← hru,ed,t1]
  have hd:∀ v∈l,dot r.n v≤r.b:=fun v hv=>by
   have h1:=Int.mul_le_mul_of_nonneg_left (hf.hd v hv) (Int.le_of_lt hp)
   rw[← ed,← eb] at h1
   exact Int.le_of_mul_le_mul_left h1 hnn
  have hF:Qd9 l r:=by
   rcases hr with rfl | rfl
   ·exact Ad6 hu hw hx ht hd
   ·exact Yc1 hu hw hx ht hd
  exact⟨dot r.n n,dot n n,hp,hnn,r,hc r hF,p1,p2,p3,eb⟩
 by_cases h0:0 < dot q.n n
 ·exact fin q ht (.inl rfl) h0 par
 ·refine fin (sa3 q) ht (.inr rfl) ?_ ?_
  ·rw[Yc0]
   have:dot q.n n≠0:=fun e=>by
    obtain⟨p1,p2,p3⟩:=par
    rw[e] at p1 p2 p3
    simp only[Int.zero_mul] at p1 p2 p3
    have z:∀ {x:Int},dot n n*x=0→x=0:=fun h=>(Int.mul_eq_zero.1 h).resolve_left (by omega)
    exact Ee8 ht.ok (V3.ext' (z p1) (z p2) (z p3))
   omega
  ·rw[Yc0]
   obtain⟨p1,p2,p3⟩:=par
   show dot n n*-q.n.x=_∧dot n n*-q.n.y=_∧dot n n*-q.n.z=_
   rw[Int.mul_neg,Int.mul_neg,Int.mul_neg,p1,p2,p3,Int.neg_mul,Int.neg_mul,Int.neg_mul]
   exact⟨rfl,rfl,rfl⟩
end Go.Ev.Ce
namespace Go.Ev.Ce
open Go Go.Ev Go.Ev.L Go.Proofs Go.Sort
def eqV (x y:V3):Bool:=x.x==y.x&&(x.y==y.y&&(x.z==y.z&&true))
theorem Ad7 (x y:V3):eqV x y=true↔x=y:=by
 unfold eqV
 simp only[Bool.and_true,Bool.and_eq_true,beq_iff_eq]
 refine⟨fun⟨h1,h2,h3⟩=>V3.ext' h1 h2 h3,fun h=>by subst h;exact⟨rfl,rfl,rfl⟩⟩
theorem Ad8 {l:List V3} {j:Nat} (h:j < l.length):ldR tV (bL tV l) (0+j)=true:=by rw[Nat.zero_add];exact Nc9 tV h
theorem Yc2 {l:List V3} {j:Nat} (h:j < l.length):rdR tV (bL tV l) (0+j)=gL tV l j:=by rw[Nat.zero_add];exact Nc8 tV h
theorem Rd0 (l:List V3) (n:Nat):C4 (bL tV l) n=bL tV (l.take n):=by unfold bL;rw[C7,j9,j9,List.map_take]
theorem Yc3 (l:List V3) (n:Nat):g9 (bL tV l) n=bL tV (l.drop n):=by unfold bL;rw[B6,j9,j9,List.map_drop]
theorem Rd1 (n:Nat):List.replicate n [i 0,i 0,i 0]=bL tV (List.replicate n ⟨0,0,0⟩):=by unfold bL;rw[j9,List.map_replicate];rfl
def dvF:V3→List V3→List V3
 | _,[]=>[]
 | a,x::l=>if eqV x a then dvF x l else x::dvF x l
def ddV:List V3→List V3
 | []=>[]
 | x::l=>x::dvF x l
structure Fe2 (l:List V3) (n:Nat) (cur:List V3) (m j:Nat) (R:List V3):Prop where
 len:cur.length=l.length
 t:cur.take m++dvF (gL tV l (j - 1)) ((l.take n).drop j)=R
 d:cur.drop (j - 1)=l.drop (j - 1)
 le:m+1≤j
theorem jd3 (l : List V3) (n o : Nat) (hn : n ≤ l.length) (hl : l.length ≤ 1000000000) (ho : o < n) (m : Nat) (cur : List V3) (R : List V3) (hd : Fe2 l n cur m (o + 1) R) :
  ∃ t s,lp (p6 ⟨n,0+o,n - o⟩) ⟨(m:Int),((1:Nat):Int),bL tV cur⟩=(t,s)∧(t=1∧∃ m' cur' k,s=⟨((m':Nat):Int),k,bL tV cur'⟩∧cur'.length=l.length∧cur'.take m'=R∧m'≤n):=by
 refine U0 (step:=p6 ⟨n,0+o,n - o⟩) (mk:=fun j (x:Nat×List V3)=>(⟨(x.1:Int),(j:Int),bL tV x.2⟩:o7)) (n - o) (fun j x=>Fe2 l n x.2 x.1 (o+j) R∧1≤j∧x.1≤n) (fun t s=>t=1∧∃ m' cur' k,s=⟨((m':Nat):Int),k,bL tV cur'⟩∧cur'.length=l.length∧cur'.take m'=R∧m'≤n) (by omega) (fun j x hj hx=>?_) (fun j x hj hx=>?_) 1 (m,cur) ⟨hd,Nat.le_refl _,by have:=hd.le;show m≤n;omega⟩
 ·obtain⟨m,cur⟩:=x
  obtain⟨⟨h1,h2,h3,h4⟩,hj1,hmn⟩:=hx
  simp only at h1 h2 h3 h4 hmn
  have hoj:o+j < n:=by omega
  have hjc:o+j < cur.length:=by omega
  have hjc':o+(j - 1) < cur.length:=by omega
  have hmc:m < cur.length:=by omega
  have hg':gL tV cur (o+(j - 1))=gL tV l (o+j - 1):=by rw[show o+(j - 1)=o+j - 1 by omega];exact tc6 tV h3
  have hd1:cur.drop (o+j)=l.drop (o+j):=by have:=jc0 h3 1;rw[show o+j - 1+1=o+j by omega] at this;exact this
  have hg:gL tV cur (o+j)=gL tV l (o+j):=tc6 tV hd1
  have hWm:W ((m:Int)+1)=((m+1:Nat):Int):=by rw[ga3 (by omega) (by omega)];omega
  have hWj:W ((j:Int) - 1)=((j - 1:Nat):Int):=by rw[ga3 (by omega) (by omega)];omega
  have hb:Nat.blt m cur.length=true:=by rw[Nat.blt_eq];exact hmc
  have hrow:i6 (bL tV cur) m=tV.row (gL tV cur m):=P1 tV hmc
  have sp:∀ (v:V3) (x1 x2 x3:Int),J1 (tV.row v) 0 [i x1,i x2,i x3]=tV.row ⟨x1,x2,x3⟩:=fun _ _ _ _=>rfl
  have rl:∀ v:V3,Nat.ble 3 (len (tV.row v))=true:=fun _=>rfl
  simp only[p6,J8,Int.toNat_natCast,Nat.zero_add,hWj,Nc9 tV hjc,Nc9 tV hjc',Nc8 tV hjc,Nc8 tV hjc',o5 hj (show n - o≤4611686018427387904 by omega),hWm,hg,hg',hrow,Y1,hb,sp,rl,rb6,f8 (show m < n by omega)]
  rw[btD (k8 hj)]
  simp only[f8 hj,f8 (show j - 1 < n - o by omega),o0,Bool.and_self]
  rw[show ((gL tV l (o+j)).x==(gL tV l (o+j - 1)).x&&((gL tV l (o+j)).y==(gL tV l (o+j - 1)).y&&((gL tV l (o+j)).z==(gL tV l (o+j - 1)).z&&true)))=eqV (gL tV l (o+j)) (gL tV l (o+j - 1)) from rfl]
  have hcons:(l.take n).drop (o+j)=gL tV l (o+j)::(l.take n).drop (o+(j+1)):=by
   rw[List.drop_eq_getElem_cons (by rw[List.length_take];omega),List.getElem_take,Ua0 tV (by omega)]
   rfl
  rw[hcons] at h2
  have hlast:o+(j+1) - 1=o+j:=by omega
  unfold dvF at h2
  cases he:eqV (gL tV l (o+j)) (gL tV l (o+j - 1)) with
  | true =>
   rw[he] at h2
   simp only[if_true] at h2
   refine .nx ⟨(m,cur),rfl,⟨⟨h1,?_,?_,by show m+1≤o+(j+1);omega⟩,by omega,hmn⟩⟩
   ·rw[hlast];exact h2
   ·rw[hlast];exact hd1
  | false =>
   rw[he] at h2
   simp only[Bool.false_eq_true,if_false] at h2
   refine .nx ⟨(m+1,cur.set m (gL tV l (o+j))),rfl,⟨⟨by rw[List.length_set];exact h1,?_,?_,by show m+1+1≤o+(j+1);omega⟩,by omega,by show m+1≤n;omega⟩⟩
   ·rw[hlast]
    show (cur.set m (gL tV l (o+j))).take (m+1)++_=R
    rw[List.take_succ_eq_append_getElem (by rw[List.length_set];exact hmc),List.getElem_set_self,List.take_set_of_le (Nat.le_refl _),List.append_assoc]
    exact h2
   ·rw[hlast]
    show (cur.set m (gL tV l (o+j))).drop (o+j)=_
    rw[List.drop_set_of_lt (by omega),hd1]
 ·obtain⟨m,cur⟩:=x
  obtain⟨⟨h1,h2,h3,h4⟩,hj1,hmn⟩:=hx
  simp only at h1 h2 h3 h4 hmn
  refine⟨1,?_,rfl,m,cur,_,rfl,h1,?_,hmn⟩
  ·simp only[p6,J8]
   rw[bfD (by omega)]
  ·rw[List.drop_eq_nil_of_le (by rw[List.length_take];omega)] at h2
   unfold dvF at h2
   rw[List.append_nil] at h2
   exact h2
theorem Rd2 (l : List V3) (n : Nat) (hn : n ≤ l.length) (hl : l.length ≤ 1000000000) :
  ∃ m r,L7 ⟨n,bL tV l⟩=⟨1,m,bL tV r⟩∧m≤r.length∧r.take m=ddV (l.take n)∧r.length=l.length:=by
 unfold L7 L6
 simp only
 by_cases h2:(n:Int) < 2
 ·rw[btD h2]
  refine⟨n,l,rfl,hn,?_,rfl⟩
  have:n=0∨n=1:=by omega
  rcases this with rfl | rfl
  ·rfl
  ·cases l with
   | nil=>rfl
   | cons x l=>rfl
 ·rw[bfD h2]
  have h1n:1≤n:=by omega
  have hI : ∀ j, j < n → 1 ≤ j → l.take j ++ dvF (gL tV l (j - 1)) ((l.take n).drop j) = ddV (l.take n) →
    (eqV (gL tV l j) (gL tV l (j - 1))=true→Fe2 l n l j (j+1) (ddV (l.take n)))∧(eqV (gL tV l j) (gL tV l (j - 1))=false→l.take (j+1)++dvF (gL tV l (j+1 - 1)) ((l.take n).drop (j+1))=ddV (l.take n)):=by
   intro j hj hj1 hR
   have hcons:(l.take n).drop j=gL tV l j::(l.take n).drop (j+1):=by
    rw[List.drop_eq_getElem_cons (by rw[List.length_take];omega),List.getElem_take,Ua0 tV (by omega)]
   rw[hcons] at hR
   unfold dvF at hR
   constructor
   ·intro he
    rw[he] at hR
    simp only[if_true] at hR
    exact⟨rfl,hR,rfl,Nat.le_refl _⟩
   ·intro he
    rw[he] at hR
    simp only[Bool.false_eq_true,if_false] at hR
    rw[ab4 tV (show j < l.length by omega),List.append_assoc]
    exact hR
  have inner:∀ k,k < n→1≤k→Fe2 l n l k (k+1) (ddV (l.take n))→∃ m' cur' k',lp (p6 ⟨n,0+k,n - k⟩) ⟨(k:Int),1,bL tV l⟩=(1,⟨((m':Nat):Int),k',bL tV cur'⟩)∧cur'.length=l.length∧cur'.take m'=ddV (l.take n)∧m'≤n:=by
   intro k hk hk1 hc
   obtain⟨t,s,e1,rfl,m',cur',k',rfl,e2,e3,e4⟩:=jd3 l n k hn hl hk k l _ hc
   exact⟨m',cur',k',e1,e2,e3,e4⟩
  have key:=U0 (step:=L5 ⟨n,bL tV l⟩) (mk:=fun j (_:Unit)=>(⟨(j:Int)⟩:r7)) n (fun j _=>1≤j∧j≤n∧l.take j++dvF (gL tV l (j - 1)) ((l.take n).drop j)=ddV (l.take n))
   (fun t s=>(t=1∧∃ k:Nat,s=⟨(k:Int)⟩∧k < n∧1≤k∧Fe2 l n l k (k+1) (ddV (l.take n)))∨(t=2∧l.take n=ddV (l.take n))) (by omega) (fun j x hj hx=>?_) (fun j x hj hx=>?_) 1 () ⟨Nat.le_refl _,h1n,by
    cases l with
    | nil=>simp only[List.length_nil] at hn;omega
    | cons x l =>
     cases n with
     | zero=>omega
     | succ n=>rfl⟩
  ·obtain⟨t,s,e1,e2⟩:=key
   rw[show (⟨1⟩:r7)=⟨((1:Nat):Int)⟩ from rfl,e1]
   rcases e2 with⟨rfl,k,rfl,hk,hk1,hc⟩ | ⟨rfl,he⟩
   ·obtain⟨m',cur',k',e2,e3,e4,e5⟩:=inner k hk hk1 hc
    simp only[Int.toNat_natCast,e2]
    simp only[Nat.zero_add,Nat.sub_zero]
    refine⟨m',cur'.take m'++(List.replicate (n - m') ⟨0,0,0⟩++cur'.drop (m'+(n - m'))),?_,?_,?_,?_⟩
    ·rw[Rd0,Rd1,Yc3,sa7,sa7]
     rfl
    ·rw[List.length_append,List.length_take,e3];omega
    ·rw[List.take_append_of_le_length (by rw[List.length_take,e3];omega),List.take_take,Nat.min_self,e4]
    ·rw[List.length_append,List.length_append,List.length_take,List.length_replicate,List.length_drop,e3];omega
   ·exact⟨n,l,rfl,hn,he,rfl⟩
  ·obtain⟨hj1,hjn,hR⟩:=hx
   obtain⟨i1,i2⟩:=hI j hj hj1 hR
   have hWj:W ((j:Int) - 1)=((j - 1:Nat):Int):=by rw[ga3 (by omega) (by omega)];omega
   have hjl:j < l.length:=by omega
   have hjl':j - 1 < l.length:=by omega
   simp only[L5,J9,Int.toNat_natCast,hWj,Ad8 hjl,Ad8 hjl',Yc2 hjl,Yc2 hjl',o5 hj (show n≤4611686018427387904 by omega)]
   rw[btD (k8 hj),bt (f8 hj),bt (f8 (show j - 1 < n by omega)),bt (f8 (show j < n+1 by omega))]
   simp only[o0]
   rw[show ((gL tV l j).x==(gL tV l (j - 1)).x&&((gL tV l j).y==(gL tV l (j - 1)).y&&((gL tV l j).z==(gL tV l (j - 1)).z&&true)))=eqV (gL tV l j) (gL tV l (j - 1)) from rfl]
   cases he:eqV (gL tV l j) (gL tV l (j - 1)) with
   | false=>exact .nx ⟨(),rfl,by omega,by omega,i2 he⟩
   | true =>
    obtain⟨m',cur',k',e2,e3,e4,e5⟩:=inner j hj hj1 (i1 he)
    rw[e2]
    simp only[f8 (show m' < n+1 by omega)]
    exact .ex (.inl ⟨rfl,j,rfl,hj,hj1,i1 he⟩)
  ·obtain⟨hj1,hjn,hR⟩:=hx
   refine⟨2,?_,.inr ⟨rfl,?_⟩⟩
   ·simp only[L5,J9]
    rw[bfD (by omega)]
   ·have:j=n:=by omega
    subst this
    rw[List.drop_eq_nil_of_le (by rw[List.length_take];omega)] at hR
    unfold dvF at hR
    rw[List.append_nil] at hR
    exact hR
def Fe3 (l:List V3):Prop:=l.Pairwise LtV
theorem uc0 {x y z:V3} (h1:LtV x y) (h2:LtV y z):LtV x z:=by unfold LtV at *;omega
theorem kc1 (x:V3):¬ LtV x x:=by unfold LtV;omega
theorem Te8 (x y:V3):LtV x y∨x=y∨LtV y x:=by
 by_cases h1:LtV x y
 ·exact .inl h1
 ·by_cases h2:LtV y x
  ·exact .inr (.inr h2)
  ·refine .inr (.inl ?_)
   unfold LtV at h1 h2
   exact V3.ext' (by omega) (by omega) (by omega)
theorem be4 (l:List V3):List.Perm (Cb2 l) l:=List.mergeSort_perm l _
theorem re1 (x y z:V3) (h1:(!ltOf pb8 y x)=true) (h2:(!ltOf pb8 z y)=true):(!ltOf pb8 z x)=true:=by
 rw[Ga8] at *
 simp only[Bool.not_eq_true',decide_eq_false_iff_not] at *
 unfold LtV at *
 omega
theorem re2 (x y:V3):((!ltOf pb8 y x)||(!ltOf pb8 x y))=true:=by
 rw[Ga8,Ga8]
 by_cases h:LtV y x
 ·have h2:¬ LtV x y:=fun h2=>kc1 x (uc0 h2 h)
  simp[h2]
 ·simp[h]
theorem Ad9 (l:List V3):(Cb2 l).Pairwise fun x y=>(!ltOf pb8 y x)=true:=List.pairwise_mergeSort re1 re2 l
theorem je2 (p:V3):∀ (a:V3) (l:List V3),p∈a::dvF a l↔p∈a::l
 | a,[]=>by simp[dvF]
 | a,x::l=>by
  have ih:=je2 p x l
  unfold dvF
  split
  ·rename_i h
   rw[Ad7] at h
   subst h
   rw[ih]
   simp
  ·simp only[List.mem_cons] at ih ⊢
   rw[ih]
theorem kf9 (p:V3):∀ l:List V3,p∈ddV l↔p∈l
 | []=>Iff.rfl
 | x::l=>je2 p x l
theorem je3:∀ (a:V3) (l:List V3),(a::l).Pairwise (fun x y=>(!ltOf pb8 y x)=true)→Fe3 (a::dvF a l)
 | a,[],_=>List.pairwise_singleton _ _
 | a,x::l,h=>by
  obtain⟨h1,h2⟩:=List.pairwise_cons.1 h
  have ih:=je3 x l h2
  have hle:=h1 x List.mem_cons_self
  rw[Ga8] at hle
  have hle:¬ LtV x a:=by simpa using hle
  unfold dvF
  split
  ·rename_i he
   rw[Ad7] at he
   subst he
   exact ih
  ·rename_i hne
   have hlt:LtV a x:=by
    rcases Te8 a x with h | h | h
    ·exact h
    ·exact absurd ((Ad7 _ _).2 h.symm) hne
    ·exact absurd h hle
   refine List.pairwise_cons.2 ⟨fun p hp=>?_,ih⟩
   rcases List.mem_cons.1 hp with e | hp'
   ·subst e;exact hlt
   ·exact uc0 hlt ((List.pairwise_cons.1 ih).1 p hp')
theorem Fe4 (l:List V3):Fe3 (ddV (Cb2 l)):=by
 have h:=Ad9 l
 cases hs:Cb2 l with
 | nil=>exact .nil
 | cons a l'=>rw[hs] at h;exact je3 a l' h
noncomputable def dis (l:List V3):List V3:=ddV (Cb2 l)
theorem kc2 (l:List V3) (v:V3):v∈dis l↔v∈l:=by unfold dis;rw[kf9,(be4 l).mem_iff]
theorem re3 (l:List V3):(dis l).Nodup:=List.Pairwise.imp (fun {x y} (h:LtV x y) (e:x=y)=>kc1 y (e ▸ h)) (Fe4 l)
theorem je4 (l:List V3):(dis l).length≤l.length:=by
 have:=List.Nodup.length_le_of_subset (re3 l) (fun v hv=>(kc2 l v).1 hv)
 exact this
theorem qd5 (l:List V3) (n:Nat) (hn:n≤l.length):slR tV (bL tV l) 0 n=l.take n:=Wb0 tV (by rw[List.length_take];omega) fun k hk=>by
 rw[Nat.zero_add,P1 tV (by omega)]
 congr 1
 simp[gL,List.getD_eq_getElem?_getD,List.getElem?_take,hk]
theorem uc1 (l:List V3) (n:Nat) (hn:n≤l.length):okS tV (bL tV l) 0 n=true:=Va2 tV (f:=fun k=>gL tV l k) fun k hk=>by rw[Nat.zero_add,P1 tV (by omega)]
theorem qd6 (a:V3) (l:List V3) (hl:l.length≤1000000):ca8 (a,l)=⟨1,(a::l).length,bL tV (a::l)⟩:=by
 have ec:m9 (fun k=>tV.row (gL tV (a::l) k)) (List.range (l.length+1))=bL tV (a::l):=rb5 tV (a::l)
 unfold ca8 R8
 simp only[ec,Y1]
 have z:Nat.beq (a::l).length 0=false:=rfl
 have r:Nat.ble ((0+(a::l).length)*24) room=true:=by rw[Nat.ble_eq];unfold room;simp only[List.length_cons];omega
 rw[z,r,Nat.zero_add]
 rfl
theorem kc3 (a:V3) (l:List V3) (hl:l.length≤1000000):∃ m r,L7 ⟨(a::l).length,app (bL tV (Cb2 (slR tV (bL tV (a::l)) 0 (a::l).length))) (g9 (bL tV (a::l)) (a::l).length)⟩=⟨1,m,bL tV r⟩∧m≤r.length∧r.take m=dis (a::l)∧r.length=l.length+1:=by
 have hs:(Cb2 (a::l)).length=(a::l).length:=pd3 _
 rw[cb9,Yc3,sa7]
 obtain⟨m,r,k1,k2,k3,k4⟩:=Rd2 (Cb2 (a::l)++(a::l).drop (a::l).length) (a::l).length (by rw[List.length_append,hs];omega) (by rw[List.length_append,hs,List.length_drop];simp only[List.length_cons];omega)
 refine⟨m,r,k1,k2,?_,by rw[k4,List.length_append,hs,List.length_drop];simp only[List.length_cons];omega⟩
 rw[k3,List.take_append_of_le_length (by rw[hs];omega),List.take_of_length_le (by rw[hs];omega)]
 rfl
theorem Rd3 (l:List V3) (hl:l.length≤2000000) (r:List V3):(Bool.and (Nat.ble l.length room) (Bool.and (Nat.ble l.length (len (bL tV (l++r)))) (okS tV (bL tV (l++r)) 0 l.length)))=true:=by
 rw[uc1 _ _ (by rw[List.length_append];omega),Y1,Bool.and_eq_true,Bool.and_eq_true,Nat.ble_eq,Nat.ble_eq]
 refine⟨by unfold room;omega,by rw[List.length_append];omega,rfl⟩
theorem yc6 (a:V3) (l:List V3) (hl:l.length≤1000000):Rd (one (r1L tV)) (oa4 (a,l)) (fun r=>r=dis (a::l)):=by
 obtain⟨m,r,k1,k2,k3,_⟩:=kc3 a l hl
 have hok:okL tV (l.length+1) (fun k=>tV.row (gL tV (a::l) k))=true:=Va2 tV (f:=fun k=>gL tV (a::l) k) fun _ _=>rfl
 have hr:=Rd3 (a::l) (by simp only[List.length_cons];omega) []
 rw[List.append_nil] at hr
 unfold oa4
 simp only[ee8,ee9,qd6 a l hl,hok,k1,o0,Nat.beq_refl,hr]
 refine⟨_,r.take m,rfl,?_,k3⟩
 show Bool.rec (motive:=fun _=>Option (List V3)) none (some (slR tV (bL tV r) 0 m)) (Bool.and true (okS tV (bL tV r) 0 m))=_
 rw[qd5 r m k2,uc1 r m k2]
 rfl
theorem be5 (a:V3) (l:List V3) (hl:l.length≤1000000):Wa5 (a,l)=dis (a::l):=(yc6 a l hl).p
theorem be6 (a:V3) (l:List V3) (hl:l.length≤1000000):Wa6 (a,l)=true:=(yc6 a l hl).g
end Go.Ev.Ce
namespace Go.Ev.Ce
open Go Go.Ev Go.Ev.L Go.Proofs
theorem Rd4 (p:Pln) (v:V3):Ka2 p v=some (i (sa4 p v),[]):=by
 unfold Ka2 sa4
 simp only[he3,he4,(tc5 v).1,(tc5 v).2,ge4,ge5,o0]
 cases hp:okp p with
 | false=>rfl
 | true =>
  cases hv:inV v with
  | false=>rfl
  | true =>
   have hb:=qb4 hp
   have hd:=jf9 hb hv
   have e:y8 p.n v=dot p.n v:=by
    unfold y8
    simp only[zb6,Yb3]
    exact La8 (hd.mono (by omega))
   rw[e]
   simp only[Bool.not_true,rb4,Bool.and_self,if_true,ob2]
   by_cases h1:dot p.n v < p.b
   ·rw[if_pos h1,if_pos (by omega)]
   ·rw[if_neg h1]
    by_cases h2:dot p.n v > p.b
    ·rw[if_pos h2,if_neg (by omega),if_pos (by omega)]
    ·rw[if_neg h2,if_neg (by omega),if_neg (by omega)]
theorem Jc5 (p:Pln) (v:V3):la5 p v=sa4 p v:=by unfold la5;rw[Rd4];rfl
theorem Jc6 (p:Pln) (v:V3):la6 p v=true:=by unfold la6;rw[Rd4];rfl
theorem Te9 {v:V3} (h1:Sm 1000000000000000000 v.x) (h2:Sm 1000000000000000000 v.y) (h3:Sm 1000000000000000000 v.z):Y2 [v.x,v.y,v.z]=g3 v∧Y3 [v.x,v.y,v.z]=true:=by
 have hd:=Wc4 [v.x,v.y,v.z] (by simp) (by
  intro x hx
  simp only[List.mem_cons,List.not_mem_nil,or_false] at hx
  rcases hx with rfl | rfl | rfl<;>assumption)
 have hg:([v.x,v.y,v.z].foldl (fun g x=>Nat.gcd g x.natAbs) 0:Nat)=Nat.gcd (Nat.gcd v.x.natAbs v.y.natAbs) v.z.natAbs:=by
  simp only[List.foldl_cons,List.foldl_nil,Nat.gcd_zero_left]
 exact⟨by unfold Y2;rw[hd,hg];rfl,by unfold Y3;rw[hd];rfl⟩
theorem Fe5 {v : V3} (h1 : Sm 1000000000000000000 v.x) (h2 : Sm 1000000000000000000 v.y) (h3 : Sm 1000000000000000000 v.z) :
  Ka1 v=if g3 v=0 then some (.tup [.agg (tV.row ⟨0,0,0⟩),i 0],[]) else some (.tup [.agg (tV.row ⟨W (Int.tdiv v.x (g3 v)),W (Int.tdiv v.y (g3 v)),W (Int.tdiv v.z (g3 v))⟩),i (g3 v)],[]):=by
 obtain⟨e1,e2⟩:=Te9 h1 h2 h3
 unfold Ka1
 simp only[e1,e2,o0]
 by_cases h:g3 v=0
 ·rw[if_pos h,bt (by simpa using h)];rfl
 ·rw[if_neg h,bf (by simpa using h),bf (by simpa using h),bf (by simpa using h),bf (by simpa using h)];rfl
theorem yc7 (a c d:V3):oa0 a c d=some (.tup [.agg (tP.row (K0 a c d).1),b (K0 a c d).2],[]):=by
 unfold oa0 K0
 simp only[(tc5 _).1,(tc5 _).2]
 cases ha:inV a with
 | false=>rfl
 | true =>
  cases hc:inV c with
  | false=>rfl
  | true =>
   cases hd:inV d with
   | false=>rfl
   | true =>
    obtain⟨e,k1,k2,k3⟩:=qb6 ha hc hd
    have e':ba0 (ua9 c a) (ua9 d a)=f7 (sub c a) (sub d a):=e
    rw[e']
    generalize f7 (sub c a) (sub d a)=n at *
    have m1:=k1.mono (m:=1000000000000000000) (by omega)
    have m2:=k2.mono (m:=1000000000000000000) (by omega)
    have m3:=k3.mono (m:=1000000000000000000) (by omega)
    have hpr:=Fe5 m1 m2 m3
    have gp:Za0 n=true:=by unfold Za0;rw[hpr];split<;>rfl
    by_cases h0:g3 n=0
    ·have pp:xa7 n=(⟨0,0,0⟩,0):=by unfold xa7;rw[hpr,if_pos h0];rfl
     have hz:y8 ⟨0,0,0⟩ a=0:=by unfold y8;simp only[Int.zero_mul];rfl
     simp only[gp,pp,hz,Bool.and_self,if_true,h0]
     rfl
    ·have hp:=Ob7 n
     have q1:=K9 (g:=g3 n) k1 (by omega)
     have q2:=K9 (g:=g3 n) k2 (by omega)
     have q3:=K9 (g:=g3 n) k3 (by omega)
     rw[La8 (q1.mono (by omega)),La8 (q2.mono (by omega)),La8 (q3.mono (by omega))] at hpr
     have pp:xa7 n=(⟨Int.tdiv n.x (g3 n),Int.tdiv n.y (g3 n),Int.tdiv n.z (g3 n)⟩,g3 n):=by unfold xa7;rw[hpr,if_neg h0];rfl
     have hdot:y8 ⟨Int.tdiv n.x (g3 n),Int.tdiv n.y (g3 n),Int.tdiv n.z (g3 n)⟩ a=dot ⟨Int.tdiv n.x (g3 n),Int.tdiv n.y (g3 n),Int.tdiv n.z (g3 n)⟩ a:=by
      unfold y8
      simp only[zb6,Yb3]
      obtain⟨⟨a1,a2⟩,⟨a3,a4⟩,a5,a6⟩:=(Ab3 a).1 ha
      have r1:=mb q1.1 q1.2 a1 a2;have r2:=mb q2.1 q2.2 a3 a4;have r3:=mb q3.1 q3.2 a5 a6
      rw[ga3 (by omega) (by omega)]
      rfl
     simp only[gp,pp,hdot,Bool.and_self,if_true,h0,if_false,show g3 n > 0 from by omega,decide_true]
     rfl
theorem Ab5 (a b c:V3):F8 a b c=K0 a b c:=by unfold F8;rw[yc7];rfl
theorem Yb9 (a b c:V3):ea4 a b c=true:=by unfold ea4;rw[yc7];rfl
end Go.Ev.Ce
namespace Go.Ev.Ce
open Go Go.Ev Go.Ev.L Go.Proofs
theorem Fe6 (v:V3) (p:Pln):Ra2 ⟨v.x,v.y,v.z,p.n.x,p.n.y,p.n.z,p.b⟩=⟨1,sa4 p v != 0⟩:=by
 unfold Ra2 qa3
 simp only[Jc5,Jc6,o0]
theorem Ue0 (l:List V3) (p:Pln) (hl:l.length≤1000000000):V9 ⟨l,p.n.x,p.n.y,p.n.z,p.b⟩=⟨1,if l.any (fun v=>sa4 p v != 0) then ((l.findIdx (fun v=>sa4 p v != 0):Nat):Int) else -1⟩:=by
 have h:=ab1 (step:=E4 ⟨l,(l.length:Int),p.n.x,p.n.y,p.n.z,p.b⟩) (mk:=fun j=>(⟨(j:Int)⟩:o1)) (c:=fun v=>sa4 p v != 0) (u:=1) (fin:=2) tV l hl
  (fun j hj=>by
   simp only[E4,D1,Int.toNat_natCast,Fe6,o5 hj (by omega)]
   rw[bt (Jb3 hj),bt (f8 hj)]
   rfl)
  (by simp only[E4,D1];rw[bf (mb0 (Nat.lt_irrefl _))]) 0 (Nat.zero_le _)
 rw[List.drop_zero] at h
 unfold V9 D8
 simp only[l5,j7]
 rw[show (⟨0⟩:o1)=⟨((0:Nat):Int)⟩ from rfl,h]
 split
 ·simp only[Nat.zero_add];rfl
 ·rfl
theorem je5 (l:List V3) (p:Pln) (hl:l.length≤1000000000):o8 ⟨l,p.n.x,p.n.y,p.n.z,p.b⟩=⟨1,l.any fun v=>sa4 p v != 0⟩:=by
 unfold o8 z8
 simp only[l5,j7,Ue0 l p hl]
 split
 ·rename_i h
  rw[h,show decide (((l.findIdx (fun v=>sa4 p v != 0):Nat):Int)≥0)=true from decide_eq_true (by omega)];rfl
 ·rename_i h
  rw[Bool.not_eq_true] at h
  rw[h];rfl
theorem Ue1 (v:V3) (p:Pln):Da5 ⟨v.x,v.y,v.z,p.n.x,p.n.y,p.n.z,p.b⟩=⟨1,decide (sa4 p v > 0)⟩:=by
 unfold Da5 ea5
 simp only[Jc5,Jc6,o0]
theorem Ue2 (l:List V3) (p:Pln) (hl:l.length≤1000000000):W5 ⟨l,p.n.x,p.n.y,p.n.z,p.b⟩=⟨1,if l.any (fun v=>decide (sa4 p v > 0)) then ((l.findIdx (fun v=>decide (sa4 p v > 0)):Nat):Int) else -1⟩:=by
 have h:=ab1 (step:=E5 ⟨l,(l.length:Int),p.n.x,p.n.y,p.n.z,p.b⟩) (mk:=fun j=>(⟨(j:Int)⟩:o2)) (c:=fun v=>decide (sa4 p v > 0)) (u:=1) (fin:=2) tV l hl
  (fun j hj=>by
   simp only[E5,D2,Int.toNat_natCast,Ue1,o5 hj (by omega)]
   rw[bt (Jb3 hj),bt (f8 hj)]
   rfl)
  (by simp only[E5,D2];rw[bf (mb0 (Nat.lt_irrefl _))]) 0 (Nat.zero_le _)
 rw[List.drop_zero] at h
 unfold W5 D9
 simp only[l5,j7]
 rw[show (⟨0⟩:o2)=⟨((0:Nat):Int)⟩ from rfl,h]
 split
 ·simp only[Nat.zero_add];rfl
 ·rfl
theorem Ue3 (l:List V3) (p:Pln) (hl:l.length≤1000000000):N7 ⟨l,p.n.x,p.n.y,p.n.z,p.b⟩=⟨1,l.any fun v=>decide (sa4 p v > 0)⟩:=by
 unfold N7 A0
 simp only[l5,j7,Ue2 l p hl]
 split
 ·rename_i h
  rw[h,show decide (((l.findIdx (fun v=>decide (sa4 p v > 0)):Nat):Int)≥0)=true from decide_eq_true (by omega)];rfl
 ·rename_i h
  rw[Bool.not_eq_true] at h
  rw[h];rfl
def bey (l:List V3) (p:Pln):Bool:=l.any fun v=>decide (sa4 p v > 0)
theorem qd7 (l:List V3) (p:Pln) (hl:l.length≤1000000000):Ba5 l p=some (b (bey l p),[]):=by
 unfold Ba5
 simp only[l5,j7,Ue3 l p hl]
 rfl
theorem Fe7 (l:List V3) (p:Pln) (hl:l.length≤1000000000):ba5 l p=bey l p:=by unfold ba5;rw[qd7 l p hl];rfl
theorem Fe8 (l:List V3) (p:Pln) (hl:l.length≤1000000000):G3 l p=true:=by unfold G3;rw[qd7 l p hl];rfl
end Go.Ev.Ce
namespace Go.Ev.Ce
open Go Go.Ev Go.Ev.L Go.Proofs
theorem Yc4 {α:Type} (t:Ty α) (l:List α) {j k:Nat} (h:k < j):gL t (l.take j) k=gL t l k:=by
 simp[gL,List.getD_eq_getElem?_getD,List.getElem?_take,h]
theorem Fe9 (l : List V3) (i j : Nat) (hi : i < l.length) (hj : j < i) (hl : l.length ≤ 1000000) :
  lp (N4 ⟨(i:Int),(j:Int),(l.length:Int),(i:Int),(i:Int),(j:Int),(j:Int),l,l⟩) ⟨0⟩ =
   if (l.take j).any (fun v=>(K0 v (gL tV l j) (gL tV l i)).2) then (1,⟨((l.take j).findIdx (fun v=>(K0 v (gL tV l j) (gL tV l i)).2):Nat)⟩) else (2,⟨(j:Int)⟩):=by
 have hlen:(l.take j).length=j:=by rw[List.length_take];omega
 have h:=ab1 (step:=N4 ⟨(i:Int),(j:Int),(l.length:Int),(i:Int),(i:Int),(j:Int),(j:Int),l,l⟩) (mk:=fun k=>(⟨(k:Int)⟩:F9)) (c:=fun v=>(K0 v (gL tV l j) (gL tV l i)).2) (u:=1) (fin:=2) tV (l.take j) (by omega)
  (fun k hk=>by
   rw[hlen] at hk
   simp only[N4,oa1,Int.toNat_natCast,Ab5,Yb9,Yc4 tV l hk,l5,j7,je5 l _ (show l.length≤1000000000 by omega),o5 hk (by omega)]
   rw[btD (k8 hk),bt (f8 (by omega)),bt (f8 (by omega)),bt (f8 hi),o0]
   cases (K0 (gL tV l k) (gL tV l j) (gL tV l i)).2<;>rfl)
  (by rw[hlen];simp only[N4,oa1];rw[bfD (p7 (Nat.lt_irrefl _))]) 0 (Nat.zero_le _)
 rw[List.drop_zero,hlen] at h
 rw[show (⟨0⟩:F9)=⟨((0:Nat):Int)⟩ from rfl,h]
 split
 ·simp only[Nat.zero_add]
 ·rfl
end Go.Ev.Ce
namespace Go.Ev.Ce
open Go Go.Ev Go.Ev.L Go.Proofs
def ixs (n:Nat):List Int:=(List.range n).map fun k:Nat=>(k:Int)
theorem ab5 (n:Nat):(ixs n).length=n:=by simp[ixs]
theorem je6 {n k:Nat} (h:k < n):gL tI (ixs n) k=(k:Int):=by
 simp[gL,ixs,List.getD_eq_getElem?_getD,List.getElem?_map,List.getElem?_range h]
noncomputable def sp2 (l:List V3) (i:Nat) (m:Int):Bool:=(l.take m.toNat).any fun v=>(K0 v (gL tV l m.toNat) (gL tV l i)).2
theorem Ge0 (l : List V3) (i : Nat) (hi : i < l.length) (hl : l.length ≤ 1000000) :
  lp (U6 ⟨(i:Int),(l.length:Int),(i:Int),(i:Int)⟩) ⟨0,l,l⟩=if (ixs i).any (sp2 l i) then (1,⟨((ixs i).findIdx (sp2 l i):Nat),l,l⟩) else (2,⟨(i:Int),l,l⟩):=by
 have h:=ab1 (step:=U6 ⟨(i:Int),(l.length:Int),(i:Int),(i:Int)⟩) (mk:=fun j=>(⟨(j:Int),l,l⟩:J6)) (c:=sp2 l i) (u:=1) (fin:=2) tI (ixs i) (by rw[ab5];omega)
  (fun j hj=>by
   rw[ab5] at hj
   simp only[U6,oa2,Int.toNat_natCast,Nat.sub_zero,l5,j7,Fe9 l i j hi hj hl,o5 hj (by omega),je6 hj]
   rw[btD (k8 hj),bt (f8 (by omega))]
   unfold sp2
   simp only[Int.toNat_natCast]
   cases ((l.take j).any fun v=>(K0 v (gL tV l j) (gL tV l i)).2)<;>rfl)
  (by rw[ab5];simp only[U6,oa2];rw[bfD (p7 (Nat.lt_irrefl _))]) 0 (Nat.zero_le _)
 rw[List.drop_zero,ab5] at h
 rw[show (⟨0,l,l⟩:J6)=⟨((0:Nat):Int),l,l⟩ from rfl,h]
 split
 ·simp only[Nat.zero_add]
 ·rfl
noncomputable def sp1 (l:List V3) (m:Int):Bool:=(ixs m.toNat).any (sp2 l m.toNat)
theorem lf0 (l : List V3) (hl : l.length ≤ 1000000) :
  lp (ka7 ⟨(l.length:Int)⟩) ⟨0,l,l⟩=if (ixs l.length).any (sp1 l) then (1,⟨((ixs l.length).findIdx (sp1 l):Nat),l,l⟩) else (2,⟨(l.length:Int),l,l⟩):=by
 have h:=ab1 (step:=ka7 ⟨(l.length:Int)⟩) (mk:=fun j=>(⟨(j:Int),l,l⟩:T9)) (c:=sp1 l) (u:=1) (fin:=2) tI (ixs l.length) (by rw[ab5];omega)
  (fun i hi=>by
   rw[ab5] at hi
   simp only[ka7,oa3,Int.toNat_natCast,Nat.sub_zero,l5,j7,Ge0 l i hi hl,o5 hi (by omega),je6 hi]
   rw[btD (k8 hi),bt (f8 (by omega))]
   unfold sp1
   simp only[Int.toNat_natCast]
   cases (ixs i).any (sp2 l i)<;>rfl)
  (by rw[ab5];simp only[ka7,oa3];rw[bfD (p7 (Nat.lt_irrefl _))]) 0 (Nat.zero_le _)
 rw[List.drop_zero,ab5] at h
 rw[show (⟨0,l,l⟩:T9)=⟨((0:Nat):Int),l,l⟩ from rfl,h]
 split
 ·simp only[Nat.zero_add]
 ·rfl
end Go.Ev.Ce
namespace Go.Ev.Ce
open Go Go.Ev Go.Ev.L Go.Proofs
theorem Bd0 {α:Type} {l:List α} {c:α→Bool} (h:l.any c=true):l.findIdx c < l.length:=by
 obtain⟨x,h1,h2⟩:=List.any_eq_true.1 h
 exact List.findIdx_lt_length_of_exists ⟨x,h1,h2⟩
theorem Pb0 {n:Nat} {c:Int→Bool} (h:(ixs n).any c=true):(ixs n).findIdx c < n∧c ((ixs n).findIdx c:Nat)=true:=by
 have hlt:=Bd0 h
 have h1:=List.findIdx_getElem (xs:=ixs n) (p:=c) (w:=hlt)
 rw[ab5] at hlt
 refine⟨hlt,?_⟩
 simpa [ixs] using h1
noncomputable def iF (l:List V3):Nat:=(ixs l.length).findIdx (sp1 l)
noncomputable def jF (l:List V3):Nat:=(ixs (iF l)).findIdx (sp2 l (iF l))
noncomputable def kF (l:List V3):Nat:=(l.take (jF l)).findIdx (fun v=>(K0 v (gL tV l (jF l)) (gL tV l (iF l))).2)
noncomputable def plF (l:List V3):Pln:=(K0 (gL tV l (kF l)) (gL tV l (jF l)) (gL tV l (iF l))).1
noncomputable def Tb7 (l:List V3):Bool:=if (ixs l.length).any (sp1 l) then !(l.any fun v=>sa4 (plF l) v != 0) else true
theorem Rd5 (l:List V3) (hl:l.length≤1000000):Ta9 l=some (b (Tb7 l),[]):=by
 unfold Ta9 Tb7
 simp only[l5,j7]
 rw[lf0 l hl]
 by_cases h:(ixs l.length).any (sp1 l)=true
 ·obtain⟨hi,h1⟩:=Pb0 h
  have h1:(ixs (iF l)).any (sp2 l (iF l))=true:=h1
  obtain⟨hj,h2⟩:=Pb0 h1
  have h2:(l.take (jF l)).any (fun v=>(K0 v (gL tV l (jF l)) (gL tV l (iF l))).2)=true:=h2
  rw[if_pos h,if_pos h]
  simp only[Int.toNat_natCast,Nat.sub_zero]
  rw[show (ixs l.length).findIdx (sp1 l)=iF l from rfl,Ge0 l (iF l) hi hl,if_pos h1]
  simp only[Int.toNat_natCast,Nat.sub_zero]
  rw[show (ixs (iF l)).findIdx (sp2 l (iF l))=jF l from rfl,Fe9 l (iF l) (jF l) hi hj hl,if_pos h2]
  simp only[Int.toNat_natCast,Ab5]
  rw[show (l.take (jF l)).findIdx (fun v=>(K0 v (gL tV l (jF l)) (gL tV l (iF l))).2)=kF l from rfl,show (K0 (gL tV l (kF l)) (gL tV l (jF l)) (gL tV l (iF l))).1=plF l from rfl,je5 l _ (by omega)]
  rfl
 ·rw[if_neg h,if_neg h]
  rfl
theorem Ue4 (l:List V3) (hl:l.length≤1000000):lb7 l=Tb7 l:=by unfold lb7;rw[Rd5 l hl];rfl
theorem Ue5 (l:List V3) (hl:l.length≤1000000):lb8 l=true:=by unfold lb8;rw[Rd5 l hl];rfl
end Go.Ev.Ce
namespace Go.Ev.Ce
open Go Go.Ev Go.Ev.L Go.Proofs
theorem qd8 (v:V3):va3 v=some (b (!inV v),[]):=by
 unfold va3
 simp only[(tc5 v).1,(tc5 v).2,o0]
theorem Ge1 (v:V3):Ka3 v=!inV v:=by unfold Ka3;rw[qd8];rfl
theorem Ge2 (v:V3):Ka4 v=true:=by unfold Ka4;rw[qd8];rfl
theorem Ue6 (l:List V3) (hl:l.length≤1000000000):W8 ⟨l⟩=⟨1,if l.any (fun v=>!inV v) then ((l.findIdx (fun v=>!inV v):Nat):Int) else -1⟩:=by
 have h:=ab1 (step:=E6 ⟨l,(l.length:Int)⟩) (mk:=fun j=>(⟨(j:Int)⟩:o3)) (c:=fun v=>!inV v) (u:=1) (fin:=2) tV l hl
  (fun j hj=>by
   simp only[E6,D3,Int.toNat_natCast,Ge1,Ge2,o5 hj (by omega)]
   rw[bt (Jb3 hj),bt (f8 hj),o0])
  (by simp only[E6,D3];rw[bf (mb0 (Nat.lt_irrefl _))]) 0 (Nat.zero_le _)
 rw[List.drop_zero] at h
 unfold W8 E0
 simp only[l5,j7]
 rw[show (⟨0⟩:o3)=⟨((0:Nat):Int)⟩ from rfl,h]
 split
 ·simp only[Nat.zero_add];rfl
 ·rfl
theorem Ue7 (l:List V3) (hl:l.length≤1000000000):O0 ⟨l⟩=⟨1,l.any fun v=>!inV v⟩:=by
 unfold O0 A1
 simp only[l5,j7,Ue6 l hl]
 split
 ·rename_i h
  rw[h,show decide (((l.findIdx (fun v=>!inV v):Nat):Int)≥0)=true from decide_eq_true (by omega)];rfl
 ·rename_i h
  rw[Bool.not_eq_true] at h
  rw[h];rfl
noncomputable def qb7 (l:List V3):Int:=if (l.length:Int) > 48 then 2 else if l.any (fun v=>!inV v) then 3 else if Tb7 l then 11 else 0
theorem qd9 (l:List V3) (hl:l.length≤1000000):Ka5 l=some (i (qb7 l),[]):=by
 unfold Ka5 qb7
 simp only[l5,j7,aa1,Ue7 l (by omega),Ue4 l hl,Ue5 l hl]
 by_cases h:(l.length:Int) > 48
 ·rw[btD h,if_pos h]
 ·rw[bfD h,if_neg h]
  cases l.any fun v=>!inV v with
  | true=>rfl
  | false=>cases Tb7 l<;>rfl
theorem Yc5 (l:List V3) (hl:l.length≤1000000):Ka6 l=qb7 l:=by unfold Ka6;rw[qd9 l hl];rfl
theorem Yc6 (l:List V3) (hl:l.length≤1000000):Ka7 l=true:=by unfold Ka7;rw[qd9 l hl];rfl
end Go.Ev.Ce
namespace Go.Ev.Ce
open Go Go.Ev Go.Ev.L Go.Proofs
theorem Ge3 {p:Pln} (h:Bd p):xa6 p=sa3 p:=by
 unfold xa6 ua9 sa3
 simp only
 have:=h.x1;have:=h.x2;have:=h.y1;have:=h.y2;have:=h.z1;have:=h.z2;have:=h.b1;have:=h.b2
 rw[ga3 (by omega) (by omega),ga3 (by omega) (by omega),ga3 (by omega) (by omega),ga3 (by omega) (by omega)]
 simp only[Int.zero_sub]
noncomputable def Bd1 (p:Pln):List b7:=[i p.n.x,i p.n.y,i p.n.z,i p.b,b true]
noncomputable def mb4 (l:List Pln):List (List b7):=l.map Bd1
theorem rd0 (x q:Pln):vb4 flK [i x.n.x,i x.n.y,i x.n.z,i x.b] (Bd1 q)=eqP q x:=by
 show Bool.and (decide (x.n.x=q.n.x)) (Bool.and (decide (x.n.y=q.n.y)) (Bool.and (decide (x.n.z=q.n.z)) (Bool.and (decide (x.b=q.b)) true)))=_
 unfold eqP
 have h:∀ a c:Int,decide (a=c)=(c==a):=fun a c=>by rw[Bool.eq_iff_iff,decide_eq_true_eq,beq_iff_eq];exact eq_comm
 rw[h,h,h,h]
theorem Rd6 (x:Pln):∀ l,Fa5 4 [(0,(.int .i64)),(1,(.int .i64)),(2,(.int .i64)),(3,(.int .i64))] [i x.n.x,i x.n.y,i x.n.z,i x.b] (mb4 l)=jc7 l x
 | []=>rfl
 | q::l=>by
  have ih:=Rd6 x l
  unfold Fa5 at ih ⊢
  show Option.rec (motive:=fun _=>Bool) false (fun r=>toB (hdA (g9 r 4))) (Bool.rec (motive:=fun _=>Option (List b7)) (ac7 flK [i x.n.x,i x.n.y,i x.n.z,i x.b] (mb4 l)) (some (Bd1 q)) (vb4 flK [i x.n.x,i x.n.y,i x.n.z,i x.b] (Bd1 q)))=jc7 (q::l) x
  rw[rd0]
  unfold jc7 at ih ⊢
  rw[List.any_cons]
  cases eqP q x with
  | true=>rfl
  | false=>exact ih
theorem be7 (x:Pln):∀ l,jc7 l x=false→U1 [(0,(.int .i64)),(1,(.int .i64)),(2,(.int .i64)),(3,(.int .i64))] [i x.n.x,i x.n.y,i x.n.z,i x.b] [i x.n.x,i x.n.y,i x.n.z,i x.b,b true] (mb4 l)=mb4 (l++[x])
 | [],_=>rfl
 | q::l,h=>by
  unfold jc7 at h
  rw[List.any_cons,Bool.or_eq_false_iff] at h
  show Bool.rec (motive:=fun _=>List (List b7)) (Bd1 q::U1 flK [i x.n.x,i x.n.y,i x.n.z,i x.b] (Bd1 x) (mb4 l)) (Bd1 x::mb4 l) (vb4 flK [i x.n.x,i x.n.y,i x.n.z,i x.b] (Bd1 q))=_
  rw[rd0,h.1,show U1 flK [i x.n.x,i x.n.y,i x.n.z,i x.b] (Bd1 x) (mb4 l)=_ from be7 x l h.2]
  rfl
noncomputable def Zb0 (s:List Pln) (p:Pln):List Pln:=if jc7 s p then s else s++[p]
theorem Ge4 (s:List Pln) (p q:Pln):q∈Zb0 s p↔q∈s∨q=p:=by
 unfold Zb0
 split
 ·rename_i h
  rw[Qd4] at h
  exact⟨.inl,fun h'=>h'.elim id fun e=>e ▸ h⟩
 ·rw[List.mem_append,List.mem_singleton]
theorem Yc7 {s:List Pln} {p:Pln} (h:s.Nodup):(Zb0 s p).Nodup:=by
 unfold Zb0
 split
 ·exact h
 ·rename_i hn
  rw[Qd4] at hn
  rw[List.nodup_append]
  exact⟨h,by simp,fun a ha b hb=>by rw[List.mem_singleton.1 hb];intro e;exact hn (e ▸ ha)⟩
theorem Rd7 (s:List Pln) (p:Pln):(Zb0 s p).length≤s.length+1:=by
 unfold Zb0
 split
 ·omega
 ·simp
def fil (l:List V3) (s:List Pln):List Pln:=s.filter fun p=>!bey l p
theorem Jc7 (l:List V3) (s:List Pln) (p:Pln):fil l (s++[p])=if bey l p then fil l s else fil l s++[p]:=by
 unfold fil
 rw[List.filter_append,List.filter_cons,List.filter_nil]
 cases bey l p<;>simp
theorem Bd2 (l:List V3) (s:List Pln):(fil l s).length≤s.length:=List.length_filter_le _ _
noncomputable def Tb8 (l:List V3) (a c:Nat) (s:List Pln) (k:Nat):List Pln :=
 if (K0 (gL tV l k) (gL tV l c) (gL tV l a)).2 then Zb0 (Zb0 s (K0 (gL tV l k) (gL tV l c) (gL tV l a)).1) (sa3 (K0 (gL tV l k) (gL tV l c) (gL tV l a)).1) else s
noncomputable def G2 (l:List V3) (a:Nat) (s:List Pln) (c:Nat):List Pln:=(List.range c).foldl (Tb8 l a c) s
noncomputable def G1 (l:List V3) (s:List Pln) (a:Nat):List Pln:=(List.range a).foldl (G2 l a) s
noncomputable def G0 (l:List V3):List Pln:=(List.range l.length).foldl (G1 l) []
theorem rd1 (l:List V3) (a c:Nat) (s:List Pln) (k:Nat):(Tb8 l a c s k).length≤s.length+2:=by
 unfold Tb8
 split
 ·have h1:=Rd7 (Zb0 s (K0 (gL tV l k) (gL tV l c) (gL tV l a)).1) (sa3 (K0 (gL tV l k) (gL tV l c) (gL tV l a)).1)
  have h2:=Rd7 s (K0 (gL tV l k) (gL tV l c) (gL tV l a)).1
  omega
 ·omega
theorem lf1 (l:List V3) (a:Nat) (s:List Pln) (c:Nat):(G2 l a s c).length≤s.length+2*c:=Xc9 (rd1 l a c) s c
theorem be8 (l:List V3) (a:Nat) (s:List Pln):∀ j,j≤a→a≤48→((List.range j).foldl (G2 l a) s).length≤s.length+96*j
 | 0,_,_=>Nat.le_refl _
 | j+1,h,ha=>by
  rw[H4]
  have h1:=be8 l a s j (by omega) ha
  have h2:=lf1 l a ((List.range j).foldl (G2 l a) s) j
  omega
theorem Bd3 (l:List V3) (hl:l.length≤48):∀ j,j≤l.length→((List.range j).foldl (G1 l) []).length≤5000*j
 | 0,_=>Nat.le_refl _
 | j+1,h=>by
  rw[H4]
  have h1:=Bd3 l hl j (by omega)
  have h2:(G1 l ((List.range j).foldl (G1 l) []) j).length≤_:=be8 l j ((List.range j).foldl (G1 l) []) j (Nat.le_refl _) (by omega)
  omega
@[reducible] noncomputable def mkf (l:List V3) (k:Nat) (s:List Pln):A2:=⟨phP (fil l s),(k:Int),mb4 s,(fil l s).length,bL tP (fil l s)⟩
theorem bb4 {n:Nat} {l:List Pln} (hn:n=l.length) (h:l.length≤1000000000):(Nat.beq n (len (bL tP l))&&Nat.ble ((n+1)*32) room)=true:=by
 subst hn
 rw[Y1,Nat.beq_refl,Bool.true_and]
 exact xa8 (by omega)
theorem je7 (o:List Pln) (x:Pln):phP (o++[x])=1:=by cases o<;>rfl
theorem Ge5 (l : List V3) (hl : l.length ≤ 48) (a c k : Nat) (ha : a < l.length) (hc : c < a) (hk : k < c) (x1 x2 x3 x4 : Int) (s : List Pln) (ho : s.length ≤ 900000) :
  P8 ⟨(a:Int),(c:Int),x1,x2,x3,x4,(c:Int),l,l⟩ (mkf l k s)=.next (mkf l (k+1) (Tb8 l a c s k)):=by
 have hfl:xa6 (K0 (gL tV l k) (gL tV l c) (gL tV l a)).1=sa3 (K0 (gL tV l k) (gL tV l c) (gL tV l a)).1:=Ge3 (Te2 _ _ _)
 have hb:∀ p,ba5 l p=bey l p:=fun p=>Fe7 l p (by omega)
 have hg:∀ p,G3 l p=true:=fun p=>Fe8 l p (by omega)
 have hn:=o5 hk (show c≤4611686018427387904 by omega)
 have b1:inB (a:Int) l.length=true:=f8 ha
 have b2:inB (c:Int) l.length=true:=f8 (by omega)
 have b3:inB (k:Int) l.length=true:=f8 (by omega)
 have hfl2:=Bd2 l s
 unfold Tb8
 unfold mkf
 generalize hT:K0 (gL tV l k) (gL tV l c) (gL tV l a)=T at *
 cases hO:fil l s with
 | nil =>
  show R9 Stp.next Stp.exit Stp.fail _ _=_
  simp only[R9,Ab5,Yb9,Int.toNat_natCast,l5,aa1,hT,hfl,hb,hg,hn,b1,b2,b3,Rd6]
  rw[btD (k8 hk)]
  cases h2:T.2 with
  | false=>simp only[Bool.false_eq_true,if_false,hO];rfl
  | true =>
   simp only[if_true,o0]
   cases h3:jc7 s T.1 with
   | true =>
    cases h4:jc7 s (sa3 T.1) with
    | true=>simp only[Zb0,h3,h4,if_true,hO];rfl
    | false =>
     rw[be7 _ _ h4]
     cases h5:bey l (sa3 T.1)<;>(simp only[Zb0,h3,h4,h5,if_true,if_false,Bool.false_eq_true,Jc7,hO];rfl)
   | false =>
    simp only[be7 _ _ h3,Rd6]
    cases h5:bey l T.1<;>cases h4:jc7 (s++[T.1]) (sa3 T.1)<;>(try simp only[be7 _ _ h4])<;>cases h6:bey l (sa3 T.1)<;>(simp only[Zb0,h3,h4,h5,h6,if_true,if_false,Bool.false_eq_true,Jc7,hO];rfl)
 | cons q o =>
  have rr:(Nat.beq (q::o).length (len (bL tP (q::o)))&&Nat.ble (((q::o).length+1)*32) room)=true:=bb4 rfl (by rw[← hO];omega)
  have ap:∀ (O:List Pln) (p:Pln),app (bL tP O) [[i p.n.x,i p.n.y,i p.n.z,i p.b]]=bL tP (O++[p]):=fun O p=>sa7 tP O [p]
  have rr2:∀ p:Pln,(Nat.beq ((q::o).length+1) (len (bL tP (q::o++[p])))&&Nat.ble (((q::o).length+1+1)*32) room)=true:=fun p=>bb4 (by simp) (by rw[← hO,List.length_append,List.length_singleton];omega)
  show S1 Stp.next Stp.exit Stp.fail _ _=_
  simp only[S1,Ab5,Yb9,Int.toNat_natCast,l5,aa1,hT,hfl,hb,hg,hn,b1,b2,b3,Rd6,rr,ap,rr2]
  rw[btD (k8 hk)]
  cases h2:T.2 with
  | false=>simp only[Bool.false_eq_true,if_false,hO];rfl
  | true =>
   simp only[if_true,o0]
   cases h3:jc7 s T.1 with
   | true =>
    cases h4:jc7 s (sa3 T.1) with
    | true=>simp only[Zb0,h3,h4,if_true,hO];rfl
    | false =>
     rw[be7 _ _ h4]
     cases h5:bey l (sa3 T.1)<;>(simp only[Zb0,h3,h4,h5,if_true,if_false,Bool.false_eq_true,Jc7,hO,je7,List.length_append,List.length_singleton];rfl)
   | false =>
    simp only[be7 _ _ h3,Rd6]
    cases h5:bey l T.1<;>cases h4:jc7 (s++[T.1]) (sa3 T.1)<;>(try simp only[be7 _ _ h4])<;>cases h6:bey l (sa3 T.1)<;>(simp only[Zb0,h3,h4,h5,h6,if_true,if_false,Bool.false_eq_true,Jc7,hO,je7,List.length_append,List.length_singleton];rfl)
theorem lf2 (l : List V3) (hl : l.length ≤ 48) (a c : Nat) (ha : a < l.length) (hc : c < a) (x1 x2 x3 x4 : Int) (s : List Pln) (ho : s.length ≤ 800000) :
  ∃ j,lp (P8 ⟨(a:Int),(c:Int),x1,x2,x3,x4,(c:Int),l,l⟩) (mkf l 0 s)=(phP (fil l (G2 l a s c))+1,mkf l j (G2 l a s c)):=by
 have key:=U0 (step:=P8 ⟨(a:Int),(c:Int),x1,x2,x3,x4,(c:Int),l,l⟩) (mk:=mkf l) c (fun j o=>j≤c∧o=(List.range j).foldl (Tb8 l a c) s) (fun t r=>t=phP (fil l (G2 l a s c))+1∧∃ j:Nat,r=mkf l j (G2 l a s c)) (by omega)
  (fun j o hj hi=>by
   obtain⟨_,hi⟩:=hi
   have hlen:o.length≤900000:=by
    rw[hi]
    have:=Xc9 (rd1 l a c) s j
    omega
   rw[Ge5 l hl a c j ha hc hj x1 x2 x3 x4 o hlen]
   exact .nx ⟨_,rfl,by omega,by rw[H4,← hi]⟩)
  (fun j o hj hi=>by
   obtain⟨h1,hi⟩:=hi
   have e:j=c:=by omega
   subst e
   have hF:o=G2 l a s j:=hi
   rw[← hF]
   refine⟨_,?_,rfl,j,rfl⟩
   unfold mkf
   cases hO:fil l o with
   | nil =>
    show R9 Stp.next Stp.exit Stp.fail _ _=_
    simp only[R9]
    rw[bfD (p7 (Nat.lt_irrefl _))]
    rfl
   | cons q o =>
    show S1 Stp.next Stp.exit Stp.fail _ _=_
    simp only[S1]
    rw[bfD (p7 (Nat.lt_irrefl _))]
    rfl) 0 s ⟨Nat.zero_le _,rfl⟩
 obtain⟨t,r,h1,rfl,j,rfl⟩:=key
 exact⟨j,h1⟩
@[reducible] noncomputable def Yc8 (l:List V3) (k:Nat) (s:List Pln):y5:=⟨phP (fil l s),(k:Int),l,l,mb4 s,(fil l s).length,bL tP (fil l s)⟩
theorem lf3 (l : List V3) (hl : l.length ≤ 48) (a : Nat) (ha : a < l.length) (x1 x2 : Int) (s : List Pln) (ho : s.length ≤ 700000) :
  ∃ j,lp (Z1 ⟨(a:Int),x1,x2,(a:Int)⟩) (Yc8 l 0 s)=(phP (fil l (G1 l s a))+1,Yc8 l j (G1 l s a)):=by
 have key:=U0 (step:=Z1 ⟨(a:Int),x1,x2,(a:Int)⟩) (mk:=Yc8 l) a (fun j o=>j≤a∧o=(List.range j).foldl (G2 l a) s) (fun t r=>t=phP (fil l (G1 l s a))+1∧∃ j:Nat,r=Yc8 l j (G1 l s a)) (by omega)
  (fun j o hj hi=>by
   obtain⟨hja,hi⟩:=hi
   have hlen:o.length≤800000:=by rw[hi];have:=be8 l a s j hja (by omega);omega
   have hn:=o5 hj (show a≤4611686018427387904 by omega)
   have bj:inB (j:Int) (l.length+1)=true:=f8 (by omega)
   obtain⟨j',e1⟩:=lf2 l hl a j ha hj x1 x2 (a:Int) (j:Int) o hlen
   have fin : ∀ {r : y5}, r = Yc8 l (j + 1) (G2 l a o j) → Nx (.next r) (fun t => t = phP (fil l (G1 l s a)) + 1 ∧ ∃ j' : Nat, Yc8 l j o = Yc8 l j' (G1 l s a))
     (fun r=>∃ o',r=Yc8 l (j+1) o'∧(j+1≤a∧o'=(List.range (j+1)).foldl (G2 l a) s)):=fun {r} hs =>
    .nx ⟨_,hs,by omega,by rw[H4,← hi]⟩
   clear hi
   generalize hF:G2 l a o j=R at *
   unfold Yc8 at *
   unfold mkf at e1
   cases hO:fil l o with
   | nil =>
    rw[hO] at e1 fin
    show Nx (S3 Stp.next Stp.exit Stp.fail _ _) _ _
    simp only[S3,l5,j7,hn,bj,Int.toNat_natCast,Nat.sub_zero]
    have e1:lp (P8 ⟨(a:Int),(j:Int),x1,x2,(a:Int),(j:Int),(j:Int),l,l⟩) ⟨0,0,mb4 o,0,[]⟩=_:=e1
    rw[btD (k8 hj),e1]
    cases hR:fil l R with
    | nil=>exact fin (by rw[hR];rfl)
    | cons q R'=>exact fin (by rw[hR];rfl)
   | cons q o' =>
    rw[hO] at e1 fin
    show Nx (S4 Stp.next Stp.exit Stp.fail _ _) _ _
    simp only[S4,l5,j7,hn,bj,Int.toNat_natCast,Nat.sub_zero]
    have e1:lp (P8 ⟨(a:Int),(j:Int),x1,x2,(a:Int),(j:Int),(j:Int),l,l⟩) ⟨1,0,mb4 o,(q::o').length,bL tP (q::o')⟩=_:=e1
    rw[btD (k8 hj),e1]
    cases hR:fil l R with
    | nil=>exact fin (by rw[hR];rfl)
    | cons q R'=>exact fin (by rw[hR];rfl))
  (fun j o hj hi=>by
   obtain⟨h1,hi⟩:=hi
   have e:j=a:=by omega
   subst e
   have hF:o=G1 l s j:=hi
   rw[← hF]
   refine⟨_,?_,rfl,j,rfl⟩
   unfold Yc8
   cases hO:fil l o with
   | nil =>
    show S3 Stp.next Stp.exit Stp.fail _ _=_
    simp only[S3]
    rw[bfD (p7 (Nat.lt_irrefl _))]
    rfl
   | cons q o =>
    show S4 Stp.next Stp.exit Stp.fail _ _=_
    simp only[S4]
    rw[bfD (p7 (Nat.lt_irrefl _))]
    rfl) 0 s ⟨Nat.zero_le _,rfl⟩
 obtain⟨t,r,h1,rfl,j,rfl⟩:=key
 exact⟨j,h1⟩
@[reducible] noncomputable def Bd4 (l:List V3) (k:Nat) (s:List Pln):A3:=⟨phP (fil l s),(k:Int),l,l,mb4 s,(fil l s).length,bL tP (fil l s)⟩
theorem lf4 (l : List V3) (hl : l.length ≤ 48) :
  ∃ j,lp (Da7 ⟨(l.length:Int)⟩) ⟨0,0,l,l,[],0,[]⟩=(phP (fil l (G0 l))+1,Bd4 l j (G0 l)):=by
 have key:=U0 (step:=Da7 ⟨(l.length:Int)⟩) (mk:=Bd4 l) l.length (fun j o=>j≤l.length∧o=(List.range j).foldl (G1 l) []) (fun t r=>t=phP (fil l (G0 l))+1∧∃ j:Nat,r=Bd4 l j (G0 l)) (by omega)
  (fun j o hj hi=>by
   obtain⟨hja,hi⟩:=hi
   have hlen:o.length≤700000:=by rw[hi];have:=Bd3 l hl j hja;omega
   have hn:=o5 hj (show l.length≤4611686018427387904 by omega)
   have bj:inB (j:Int) (l.length+1)=true:=f8 (by omega)
   obtain⟨j',e1⟩:=lf3 l hl j hj (l.length:Int) (j:Int) o hlen
   have fin : ∀ {r : A3}, r = Bd4 l (j + 1) (G1 l o j) → Nx (.next r) (fun t => t = phP (fil l (G0 l)) + 1 ∧ ∃ j' : Nat, Bd4 l j o = Bd4 l j' (G0 l))
     (fun r=>∃ o',r=Bd4 l (j+1) o'∧(j+1≤l.length∧o'=(List.range (j+1)).foldl (G1 l) [])):=fun {r} hs =>
    .nx ⟨_,hs,by omega,by rw[H4,← hi]⟩
   clear hi
   generalize hF:G1 l o j=R at *
   unfold Bd4 at *
   unfold Yc8 at e1
   cases hO:fil l o with
   | nil =>
    rw[hO] at e1 fin
    show Nx (S5 Stp.next Stp.exit Stp.fail _ _) _ _
    simp only[S5,l5,j7,hn,bj,Int.toNat_natCast,Nat.sub_zero]
    have e1:lp (Z1 ⟨(j:Int),(l.length:Int),(j:Int),(j:Int)⟩) ⟨0,0,l,l,mb4 o,0,[]⟩=_:=e1
    rw[btD (k8 hj),e1]
    cases hR:fil l R with
    | nil=>exact fin (by rw[hR];rfl)
    | cons q R'=>exact fin (by rw[hR];rfl)
   | cons q o' =>
    rw[hO] at e1 fin
    show Nx (S6 Stp.next Stp.exit Stp.fail _ _) _ _
    simp only[S6,l5,j7,hn,bj,Int.toNat_natCast,Nat.sub_zero]
    have e1:lp (Z1 ⟨(j:Int),(l.length:Int),(j:Int),(j:Int)⟩) ⟨1,0,l,l,mb4 o,(q::o').length,bL tP (q::o')⟩=_:=e1
    rw[btD (k8 hj),e1]
    cases hR:fil l R with
    | nil=>exact fin (by rw[hR];rfl)
    | cons q R'=>exact fin (by rw[hR];rfl))
  (fun j o hj hi=>by
   obtain⟨h1,hi⟩:=hi
   have e:j=l.length:=by omega
   subst e
   have hF:o=G0 l:=hi
   rw[← hF]
   refine⟨_,?_,rfl,l.length,rfl⟩
   unfold Bd4
   cases hO:fil l o with
   | nil =>
    show S5 Stp.next Stp.exit Stp.fail _ _=_
    simp only[S5]
    rw[bfD (p7 (Nat.lt_irrefl _))]
    rfl
   | cons q o =>
    show S6 Stp.next Stp.exit Stp.fail _ _=_
    simp only[S6]
    rw[bfD (p7 (Nat.lt_irrefl _))]
    rfl) 0 [] ⟨Nat.zero_le _,rfl⟩
 obtain⟨t,r,h1,rfl,j,rfl⟩:=key
 exact⟨j,h1⟩
end Go.Ev.Ce
namespace Go.Ev.Ce
open Go Go.Ev Go.Ev.L Go.Proofs
theorem be9 {F:List Pln} (h:∀ p∈F,okp p=true) {k:Nat} (hk:k < F.length):Bd (gL tP F k):=qb4 (h _ (Uc5 tP hk))
theorem Ue8 {n:V3} {r:Pln} (hn:Sm 42467328 n.x∧Sm 42467328 n.y∧Sm 42467328 n.z) (hr:Bd r):y8 n r.n=dot n r.n:=by
 obtain⟨⟨a1,a2⟩,⟨a3,a4⟩,a5,a6⟩:=hn
 have r1:=mb a1 a2 hr.x1 hr.x2;have r2:=mb a3 a4 hr.y1 hr.y2;have r3:=mb a5 a6 hr.z1 hr.z2
 unfold y8
 simp only[zb6,Yb3]
 rw[ga3 (by omega) (by omega)]
 rfl
theorem Ue9 (l : List Pln) (n : V3) (hn : Sm 42467328 n.x ∧ Sm 42467328 n.y ∧ Sm 42467328 n.z) (hF : ∀ p ∈ l, okp p = true) (hl : l.length ≤ 1000000000) :
  Q8 ⟨l,n.x,n.y,n.z⟩=⟨1,if l.any (fun r=>dot n r.n != 0) then ((l.findIdx (fun r=>dot n r.n != 0):Nat):Int) else -1⟩:=by
 have h:=ab1 (step:=B9 ⟨l,(l.length:Int),n.x,n.y,n.z⟩) (mk:=fun j=>(⟨(j:Int)⟩:m8)) (c:=fun r=>dot n r.n != 0) (u:=1) (fin:=2) tP l hl
  (fun j hj=>by
   have e:=Ue8 hn (be9 hF hj)
   simp only[B9,B1,Int.toNat_natCast,Wa7,ea6,e,o5 hj (show l.length≤4611686018427387904 by omega)]
   rw[btD (k8 hj),bt (f8 hj)])
  (by simp only[B9,B1];rw[bfD (p7 (Nat.lt_irrefl _))]) 0 (Nat.zero_le _)
 rw[List.drop_zero] at h
 unfold Q8 B4
 simp only[l5,j7]
 rw[show (⟨0⟩:m8)=⟨((0:Nat):Int)⟩ from rfl,h]
 split
 ·simp only[Nat.zero_add];rfl
 ·rfl
theorem Ve0 (l : List Pln) (n : V3) (hn : Sm 42467328 n.x ∧ Sm 42467328 n.y ∧ Sm 42467328 n.z) (hF : ∀ p ∈ l, okp p = true) (hl : l.length ≤ 1000000000) :
  K8 ⟨l,n.x,n.y,n.z⟩=⟨1,l.any fun r=>dot n r.n != 0⟩:=by
 unfold K8 w7
 simp only[l5,j7,Ue9 l n hn hF hl]
 split
 ·rename_i h
  rw[h,show decide (((l.findIdx (fun r=>dot n r.n != 0):Nat):Int)≥0)=true from decide_eq_true (by omega)];rfl
 ·rename_i h
  rw[Bool.not_eq_true] at h
  rw[h];rfl
noncomputable def re4 (l:List Pln) (a c:Nat):Bool:=l.any fun r=>dot (f7 (gL tP l a).n (gL tP l c).n) r.n != 0
noncomputable def vtx (l:List Pln):Bool:=(List.range l.length).any fun a=>(List.range a).any (re4 l a)
theorem re5 {p q:Pln} (hp:Bd p) (hq:Bd q):ba0 p.n q.n=f7 p.n q.n∧Sm 42467328 (f7 p.n q.n).x∧Sm 42467328 (f7 p.n q.n).y∧Sm 42467328 (f7 p.n q.n).z:=by
 obtain⟨k1,k2,k3⟩:=Kb5 hp.n hq.n
 refine⟨?_,k1,k2,k3⟩
 rw[Pe7,La8 (k1.mono (by omega)),La8 (k2.mono (by omega)),La8 (k3.mono (by omega))]
theorem ce0 (l : List Pln) (hF : ∀ p ∈ l, okp p = true) (hl : l.length ≤ 1000000) (a : Nat) (ha : a < l.length) (x9 x10 : Int) :
  ∃ j,lp (ba7 ⟨l,l,x9,x10,a,(fun k=>(fun k=>tP.row (gL tP l k)) (0+k)),(a:Int),(gL tP l a).n.x,(gL tP l a).n.y,(gL tP l a).n.z,(gL tP l a).b⟩) ⟨0⟩=(if (List.range a).any (re4 l a) then 1 else 2,⟨((j:Nat):Int)⟩) :=
 Ee7 (step:=ba7 ⟨l,l,x9,x10,a,(fun k=>(fun k=>tP.row (gL tP l k)) (0+k)),(a:Int),(gL tP l a).n.x,(gL tP l a).n.y,(gL tP l a).n.z,(gL tP l a).b⟩) (mk:=fun j=>(⟨(j:Int)⟩:P9)) a (re4 l a) 1 2 (by omega)
  (fun j hj=>by
   obtain⟨e,k1,k2,k3⟩:=re5 (be9 hF ha) (be9 hF (show j < l.length by omega))
   have rr:(⟨toI (hdA (tP.row (gL tP l j))),toI (hdA (tlA (tP.row (gL tP l j)))),toI (hdA (tlA (tlA (tP.row (gL tP l j)))))⟩:V3)=(gL tP l j).n:=rfl
   have e':ba0 ⟨(gL tP l a).n.x,(gL tP l a).n.y,(gL tP l a).n.z⟩ (gL tP l j).n=f7 (gL tP l a).n (gL tP l j).n:=e
   simp only[ba7,ga6,Int.toNat_natCast,Nat.zero_add,rr,e',if1,l5,j7,Ve0 l _ ⟨k1,k2,k3⟩ hF (show l.length≤1000000000 by omega),o5 hj (show a≤4611686018427387904 by omega)]
   rw[btD (k8 hj),bt (f8 hj)]
   unfold re4
   cases hz:((f7 (gL tP l a).n (gL tP l j).n).x==0&&((f7 (gL tP l a).n (gL tP l j).n).y==0&&((f7 (gL tP l a).n (gL tP l j).n).z==0&&true))) with
   | false=>rfl
   | true =>
    simp only[Bool.and_true,Bool.and_eq_true,beq_iff_eq] at hz
    have:(l.any fun r=>dot (f7 (gL tP l a).n (gL tP l j).n) r.n != 0)=false:=by
     rw[List.any_eq_false]
     intro r _
     have:dot (f7 (gL tP l a).n (gL tP l j).n) r.n=0:=by unfold dot;rw[hz.1,hz.2.1,hz.2.2];simp only[Int.zero_mul,Int.add_zero]
     rw[this]
     decide
    rw[this]
    rfl)
  (by simp only[ba7,ga6];rw[bfD (p7 (Nat.lt_irrefl _))])
theorem rd2 (l:List Pln) (hF:∀ p∈l,okp p=true) (hl:l.length≤1000000):Ba7 l=some (b (vtx l),[]):=by
 obtain⟨j,h⟩:=Ee7 (step:=ba8 ⟨(l.length:Int)⟩) (mk:=fun j=>(⟨l,l,(j:Int)⟩:Q0)) l.length (fun a=>(List.range a).any (re4 l a)) 1 2 (by omega)
  (fun j hj=>by
   obtain⟨j',h1⟩:=ce0 l hF hl j hj (l.length:Int) (j:Int)
   simp only[ba8,ga7,l5,j7,Int.toNat_natCast,Nat.sub_zero,o5 hj (show l.length≤4611686018427387904 by omega)]
   rw[btD (k8 hj),bt (f8 hj),bt (f8 (show j < l.length+1 by omega)),h1]
   cases (List.range j).any (re4 l j)<;>rfl)
  (by simp only[ba8,ga7];rw[bfD (p7 (Nat.lt_irrefl _))])
 have h:lp (ba8 ⟨(l.length:Int)⟩) ⟨l,l,0⟩=(if vtx l then 1 else 2,⟨l,l,((j:Nat):Int)⟩):=h
 unfold Ba7
 simp only[l5,j7]
 rw[h]
 cases vtx l<;>rfl
theorem Rd8 (l:List Pln) (hF:∀ p∈l,okp p=true) (hl:l.length≤1000000):qa4 l=vtx l:=by unfold qa4;rw[rd2 l hF hl];rfl
theorem Rd9 (l:List Pln) (hF:∀ p∈l,okp p=true) (hl:l.length≤1000000):qa5 l=true:=by unfold qa5;rw[rd2 l hF hl];rfl
structure OkF (F:List Pln):Prop where
 l:F.length≤1000000
 v:∀ p∈F,okp p=true
noncomputable def own (F:List Pln) (v:V3):List Pln:=F.filter fun p=>sa4 p v==0
noncomputable def kv (F:List Pln) (v:V3):Bool:=vtx (own F v)
theorem re6 (F:List Pln) (v:V3) (hF:F.length≤1000000):∃ j,lp (ja4 ⟨F,(F.length:Int),F,v.x,v.y,v.z⟩) ⟨0,0,0,[]⟩=(phP (own F v)+1,⟨phP (own F v),((j:Nat):Int),(own F v).length,bL tP (own F v)⟩):=by
 have key:=U0 (step:=ja4 ⟨F,(F.length:Int),F,v.x,v.y,v.z⟩) (mk:=fun j (o:List Pln)=>(⟨phP o,(j:Int),o.length,bL tP o⟩:l9)) F.length (fun j o=>j≤F.length∧o=(F.take j).filter fun p=>sa4 p v==0) (fun t s=>t=phP (own F v)+1∧∃ j:Nat,s=⟨phP (own F v),(j:Int),(own F v).length,bL tP (own F v)⟩) (by omega)
  (fun j o hj hi=>by
   obtain⟨_,hi⟩:=hi
   have hlen:o.length≤1000000:=by
    rw[hi]
    have h1:=List.length_filter_le (fun p=>sa4 p v==0) (F.take j)
    have h2:=List.length_take_le j F
    omega
   have hn:=o5 hj (show F.length≤4611686018427387904 by omega)
   have hb:=f8 hj
   have hT:(F.take (j+1)).filter (fun p=>sa4 p v==0)=o++(if (sa4 (gL tP F j) v==0)=true then [gL tP F j] else []):=by
    rw[ab4 tP hj,List.filter_append,← hi,List.filter_cons,List.filter_nil]
   have hnext : ∀ {s : l9} {o' : List Pln}, o' = (F.take (j + 1)).filter (fun p => sa4 p v == 0) → s = ⟨phP o', ((j + 1 : Nat) : Int), o'.length, bL tP o'⟩ → Nx (.next s) (fun t => t = phP (own F v) + 1 ∧ ∃ j' : Nat, (⟨phP o, (j : Int), o.length, bL tP o⟩ : l9) = ⟨phP (own F v), (j' : Int), (own F v).length, bL tP (own F v)⟩)
     (fun s=>∃ o',s=(⟨phP o',((j+1:Nat):Int),o'.length,bL tP o'⟩:l9)∧(j+1≤F.length∧o'=(F.take (j+1)).filter fun p=>sa4 p v==0)):=fun {s o'} ho' hs=>.nx ⟨o',hs,by omega,ho'⟩
   clear hi
   cases o with
   | nil =>
    show Nx (E8 Stp.next Stp.exit Stp.fail _ _) _ _
    simp only[E8,Int.toNat_natCast,Jc5,Jc6,hn,hb]
    rw[btD (k8 hj)]
    cases hs:sa4 (gL tP F j) v==0 with
    | true=>exact hnext (o':=[gL tP F j]) (by rw[hT,hs];rfl) rfl
    | false=>exact hnext (o':=[]) (by rw[hT,hs];rfl) rfl
   | cons q o =>
    have rr:(Nat.beq (q::o).length (len (bL tP (q::o)))&&Nat.ble (((q::o).length+1)*32) room)=true:=bb4 rfl (by omega)
    have ap:∀ (O:List Pln) (p:Pln),app (bL tP O) [[i p.n.x,i p.n.y,i p.n.z,i p.b]]=bL tP (O++[p]):=fun O p=>sa7 tP O [p]
    show Nx (E9 Stp.next Stp.exit Stp.fail _ _) _ _
    simp only[E9,Int.toNat_natCast,Jc5,Jc6,hn,hb,rr,ap]
    rw[btD (k8 hj)]
    cases hs:sa4 (gL tP F j) v==0 with
    | true=>exact hnext (o':=q::o++[gL tP F j]) (by rw[hT,hs];rfl) (by rw[List.length_append];rfl)
    | false=>exact hnext (o':=q::o) (by rw[hT,hs,if_neg (by simp),List.append_nil]) rfl)
  (fun j o hj hi=>by
   obtain⟨h1,hi⟩:=hi
   have e:j=F.length:=by omega
   subst e
   have hO:o=own F v:=by rw[hi,List.take_length];rfl
   rw[← hO]
   cases o with
   | nil =>
    refine⟨1,?_,rfl,F.length,rfl⟩
    show E8 Stp.next Stp.exit Stp.fail _ _=_
    simp only[E8]
    rw[bfD (p7 (Nat.lt_irrefl _))]
   | cons q o =>
    refine⟨2,?_,rfl,F.length,rfl⟩
    show E9 Stp.next Stp.exit Stp.fail _ _=_
    simp only[E9]
    rw[bfD (p7 (Nat.lt_irrefl _))]) 0 [] ⟨Nat.zero_le _,by simp⟩
 obtain⟨t,s,h1,rfl,j,rfl⟩:=key
 exact⟨j,h1⟩
theorem Bd5 (v:V3) (F:List Pln) (hF:OkF F):S7 ⟨v.x,v.y,v.z,F⟩=⟨1,!kv F v,F⟩:=by
 obtain⟨j,h⟩:=re6 F v hF.l
 have hv:∀ p∈own F v,okp p=true:=fun p hp=>hF.v p (List.mem_filter.1 hp).1
 have hl:(own F v).length≤1000000:=Nat.le_trans (List.length_filter_le _ _) hF.l
 unfold S7 ba9 kv
 simp only[l5,j7]
 rw[h]
 cases ho:own F v with
 | nil =>
  have e:qa4 []=vtx []:=Rd8 [] (fun p hp=>by cases hp) (by simp)
  have e':qa5 []=true:=Rd9 [] (fun p hp=>by cases hp) (by simp)
  rw[e,e']
  rfl
 | cons q o =>
  rw[ho] at hv hl
  simp only[cb9,nb5,Rd8 _ hv hl,Rd9 _ hv hl]
  rfl
theorem bf6 {α:Type} {l:List α} {n:Nat} {c:α→Bool} (h:(l.take n).any c=true):(l.take n).findIdx c < (l.take n).length:=by
 rw[List.any_eq_true] at h
 obtain⟨p,hp,hc⟩:=h
 exact List.findIdx_lt_length_of_exists ⟨p,hp,hc⟩
theorem Ve1 (l:List V3) (n:Nat) (X:List Pln) (hn:n≤l.length) (hl:l.length≤1000000000) (hX:OkF X):X3 ⟨n,bL tV l,X⟩=⟨1,if (l.take n).any (fun p=>!kv X p) then (((l.take n).findIdx (fun p=>!kv X p):Nat):Int) else -1,X⟩:=by
 have hlen:(l.take n).length=n:=by rw[List.length_take];omega
 have h:=ab1 (step:=F4 ⟨n,(n:Int),bL tV l⟩) (mk:=fun j=>(⟨(j:Int),X⟩:o4)) (c:=fun p=>!kv X p) (u:=1) (fin:=2) tV (l.take n) (by omega)
  (fun j hj=>by
   rw[hlen] at hj
   have hj':j < l.length:=by omega
   simp only[F4,D5,Int.toNat_natCast,l5,j7,Ad8 hj',Yc2 hj',Bd5 _ _ hX,Yc4 tV l hj,o5 hj (show n≤4611686018427387904 by omega)]
   rw[btD (k8 hj),bt (f8 hj)]
   rfl)
  (by rw[hlen];simp only[F4,D5];rw[bfD (p7 (Nat.lt_irrefl _))]) 0 (Nat.zero_le _)
 rw[List.drop_zero,hlen] at h
 unfold X3 E1
 simp only[l5,j7]
 rw[show (⟨0,X⟩:o4)=⟨((0:Nat):Int),X⟩ from rfl,h]
 cases ha:(l.take n).any fun p=>!kv X p with
 | false=>rfl
 | true =>
  have hf:=bf6 ha
  rw[hlen] at hf
  simp only[if_true,Nat.zero_add,Int.toNat_natCast,Yc2 (show (l.take n).findIdx (fun p=>!kv X p) < l.length by omega),Bd5 _ _ hX,l5]
  rfl
structure Ve2 (l:List V3) (n:Nat) (f:V3→Bool) (cur:List V3) (m j:Nat):Prop where
 len:cur.length=l.length
 t:cur.take m=(l.take j).filter f
 d:cur.drop j=l.drop j
 le:m≤j
 lm:m≤n
theorem Bd6 (l : List V3) (n : Nat) (hnl : n ≤ l.length) (X : List Pln) (hl : l.length ≤ 1000000000) (hX : OkF X) (m j : Nat) (cur : List V3) (hd : Ve2 l n (kv X) cur m j) (hjn : j ≤ n) :
  ∃ t s,lp (A4 ⟨n⟩) ⟨(m:Int),(j:Int),bL tV cur,X⟩=(t,s)∧(t=1∧∃ m' cur',s=⟨((m':Nat):Int),((n:Nat):Int),bL tV cur',X⟩∧Ve2 l n (kv X) cur' m' n):=by
 refine U0 (step:=A4 ⟨n⟩) (mk:=fun j (x:Nat×List V3)=>(⟨(x.1:Int),(j:Int),bL tV x.2,X⟩:q9)) n (fun j x=>Ve2 l n (kv X) x.2 x.1 j∧j≤n) (fun t s=>t=1∧∃ m' cur',s=⟨((m':Nat):Int),((n:Nat):Int),bL tV cur',X⟩∧Ve2 l n (kv X) cur' m' n) (by omega) (fun j x hj hx=>?_) (fun j x hj hx=>?_) j (m,cur) ⟨hd,hjn⟩
 ·obtain⟨m,cur⟩:=x
  obtain⟨⟨h1,h2,h3,h4,h5⟩,_⟩:=hx
  simp only at h1 h2 h3 h4 h5
  have hjc:j < cur.length:=by omega
  have hmc:m < cur.length:=by omega
  have hg:gL tV cur j=gL tV l j:=tc6 tV h3
  have hWm:W ((m:Int)+1)=((m+1:Nat):Int):=by rw[ga3 (by omega) (by omega)];omega
  have hb:Nat.blt m cur.length=true:=by rw[Nat.blt_eq];exact hmc
  have hrow:i6 (bL tV cur) m=tV.row (gL tV cur m):=P1 tV hmc
  have sp:∀ (v:V3) (x1 x2 x3:Int),J1 (tV.row v) 0 [i x1,i x2,i x3]=tV.row ⟨x1,x2,x3⟩:=fun _ _ _ _=>rfl
  have rl:∀ v:V3,Nat.ble (0+3) (len (tV.row v))=true:=fun _=>rfl
  simp only[A4,D6,Int.toNat_natCast,l5,j7,Ad8 hjc,Yc2 hjc,Bd5 _ _ hX,o5 hj (show n≤4611686018427387904 by omega),hWm]
  rw[btD (k8 hj),bt (f8 hj)]
  simp only[Nat.zero_add,hrow,Y1,hb,sp,rb6,f8 (show m < n by omega),hg]
  have ht:=ab4 tV (show j < l.length by omega)
  have hd1:cur.drop (j+1)=l.drop (j+1):=jc0 h3 1
  cases hk:kv X (gL tV l j) with
  | true =>
   refine .nx ⟨(m+1,cur.set m (gL tV l j)),rfl,⟨by rw[List.length_set];exact h1,?_,?_,by omega,by show m+1≤n;omega⟩,by omega⟩
   ·show (cur.set m (gL tV l j)).take (m+1)=_
    rw[ht,List.filter_append,List.take_succ_eq_append_getElem (by rw[List.length_set];exact hmc),List.getElem_set_self,List.take_set_of_le (Nat.le_refl _),h2,List.filter_cons,hk,if_pos rfl,List.filter_nil]
   ·show (cur.set m (gL tV l j)).drop (j+1)=_
    rw[List.drop_set_of_lt (by omega),hd1]
  | false =>
   refine .nx ⟨(m,cur),rfl,⟨h1,?_,hd1,by omega,h5⟩,by omega⟩
   show cur.take m=_
   rw[ht,List.filter_append,h2,List.filter_cons,hk,if_neg (by simp),List.filter_nil,List.append_nil]
 ·obtain⟨m,cur⟩:=x
  obtain⟨hx,hjn⟩:=hx
  have e:j=n:=by omega
  subst e
  refine⟨1,?_,rfl,m,cur,rfl,hx⟩
  simp only[A4,D6]
  rw[bfD (by omega)]
theorem ce1 (l : List V3) (n : Nat) (hnl : n ≤ l.length) (X : List Pln) (hl : l.length ≤ 1000000000) (hX : OkF X) :
  ∃ m r,X6 ⟨n,bL tV l,X⟩=⟨1,m,bL tV r,X⟩∧m≤r.length∧r.take m=(l.take n).filter (kv X):=by
 have hlen:(l.take n).length=n:=by rw[List.length_take];omega
 unfold X6 E2
 simp only[l5,j7,Ve1 l n X hnl hl hX]
 cases ha:(l.take n).any fun p=>!kv X p with
 | false =>
  refine⟨n,l,rfl,hnl,?_⟩
  symm
  rw[List.filter_eq_self]
  intro p hp
  have:=List.any_eq_false.1 ha p hp
  simpa using this
 | true =>
  have hf:=bf6 ha
  have hk:kv X (gL tV (l.take n) ((l.take n).findIdx fun p=>!kv X p))=false:=by
   have:=List.findIdx_getElem (xs:=l.take n) (p:=fun p=>!kv X p) (w:=hf)
   rw[Ua0 tV hf]
   simpa using this
  have ht:=ic9 (fun p=>!kv X p) (l.take n)
  simp only[Bool.not_not] at ht
  generalize hF:(l.take n).findIdx (fun p=>!kv X p)=F at *
  rw[hlen] at hf
  rw[Yc4 tV l hf] at hk
  rw[List.take_take,Nat.min_eq_left (by omega)] at ht
  have hW:W ((F:Int)+1)=((F+1:Nat):Int):=o5 hf (by omega)
  have hne:((F:Int)==-1)=false:=by rw[beq_eq_false_iff_ne];omega
  obtain⟨t,s,e1,rfl,m,cur,e2,e3⟩:=Bd6 l n hnl X hl hX F (F+1) l ⟨rfl,by rw[ab4 tV (show F < l.length by omega),List.filter_append,ht,List.filter_cons,hk,if_neg (by simp),List.filter_nil,List.append_nil],rfl,by omega,by omega⟩ (by omega)
  have hm:m≤n:=e3.lm
  have hin:inB (m:Int) (n+1)=true:=f8 (by omega)
  simp only[if_true,hW,hne,e1,e2,Int.toNat_natCast,hin,Nat.zero_add,Nat.sub_zero]
  refine⟨m,cur.take m++(List.replicate (n - m) ⟨0,0,0⟩++cur.drop (m+(n - m))),?_,?_,?_⟩
  ·rw[Rd0,Rd1,Yc3,sa7,sa7]
   rfl
  ·rw[List.length_append,List.length_append,List.length_take,List.length_replicate,e3.len];omega
  ·rw[List.take_append_of_le_length (by rw[List.length_take,e3.len];omega),List.take_take,Nat.min_self,e3.t]
noncomputable def vf4 (F:List Pln) (l:List V3):List V3:=(dis l).filter (kv F)
theorem Bd7 (a:V3) (l:List V3) (hl:l.length≤1000000):∃ m r,ya2 (a,l)=⟨1,m,bL tV r⟩∧m≤r.length∧r.take m=dis (a::l)∧r.length≤1000000000:=by
 obtain⟨m,r,k1,k2,k3,k4⟩:=kc3 a l hl
 have hok:okL tV (l.length+1) (fun k=>tV.row (gL tV (a::l) k))=true:=Va2 tV (f:=fun k=>gL tV (a::l) k) fun _ _=>rfl
 have hr:=Rd3 (a::l) (by simp only[List.length_cons];omega) []
 rw[List.append_nil] at hr
 unfold ya2 ca0
 simp only[ee8,ee9,qd6 a l hl,hok,k1,o0,Nat.beq_refl,hr]
 exact⟨m,r,rfl,k2,k3,by omega⟩
end Go.Ev.Ce
namespace Go.Ev.Ce
open Go Go.Ev Go.Ev.L Go.Proofs Go.Sort
theorem re7 (l:List V3) (a c k:Nat) (s:List Pln) (p:Pln):p∈Tb8 l a c s k↔p∈s∨((K0 (gL tV l k) (gL tV l c) (gL tV l a)).2=true∧(p=(K0 (gL tV l k) (gL tV l c) (gL tV l a)).1∨p=sa3 (K0 (gL tV l k) (gL tV l c) (gL tV l a)).1)):=by
 unfold Tb8
 generalize K0 (gL tV l k) (gL tV l c) (gL tV l a)=T
 cases h2:T.2 with
 | false=>simp
 | true=>simp only[if_true,Ge4,true_and,or_assoc]
theorem lf5 (l:List V3) (p:Pln):p∈G0 l↔∃ a,a < l.length∧∃ c,c < a∧∃ k,k < c∧((K0 (gL tV l k) (gL tV l c) (gL tV l a)).2=true∧(p=(K0 (gL tV l k) (gL tV l c) (gL tV l a)).1∨p=sa3 (K0 (gL tV l k) (gL tV l c) (gL tV l a)).1)):=by
 have h:p∈G0 l↔p∈[]∨_:=ib6 (fun o a p=>ib6 (fun o c p=>ib6 (fun o k p=>re7 l a c k o p) o p c) o p a) [] p l.length
 rw[h]
 simp only[List.not_mem_nil,false_or]
theorem Bd8 {f:List Pln→Nat→List Pln} (h:∀ o k,o.Nodup→(f o k).Nodup) {o:List Pln} (ho:o.Nodup):∀ n,((List.range n).foldl f o).Nodup
 | 0=>ho
 | n+1=>by rw[H4];exact h _ _ (Bd8 h ho n)
theorem Ge6 (l:List V3):(G0 l).Nodup:=Bd8 (fun o a ho=>Bd8 (fun o c ho=>Bd8 (fun o k ho=>by
 show (Tb8 l a c o k).Nodup
 unfold Tb8
 split
 ·exact Yc7 (Yc7 ho)
 ·exact ho) ho c) ho a) List.nodup_nil l.length
theorem Ve3 {l:List V3} (hl:l.all inV=true) (p:Pln):p∈fil l (G0 l)↔Qd9 l p:=by
 have hin:=List.all_eq_true.1 hl
 have hb:(!bey l p)=hold p l:=rfl
 unfold fil
 rw[List.mem_filter,lf5,hb]
 constructor
 ·rintro⟨⟨a,ha,c,hc,k,hk,h1,h2⟩,h3⟩
  have ma:=gLm ha
  have mc:=gLm (show c < l.length by omega)
  have mk:=gLm (show k < l.length by omega)
  have ht:=(Sa1 h1).2
  rcases h2 with rfl | rfl
  ·exact Ad6 mk mc ma ht ((ub6 ht.ok hl).1 h3)
  ·exact Yc1 mk mc ma ht ((ub6 (jc6 ht.ok) hl).1 h3)
 ·intro h
  obtain⟨u,w,x,hu,hw,hx,h3,t1,t2,t3⟩:=h.on
  obtain⟨a,ha,c,hc,k,hk,hn,hall⟩:=kf8 hu hw hx h3
  obtain⟨i1,i2,i3⟩:=hall (fun v=>inV v=true) (hin u hu) (hin w hw) (hin x hx)
  obtain⟨e1,e2,e3⟩:=hall (fun v=>dot p.n v=p.b) t1 t2 t3
  have h2:=kc0 i3 i2 i1 (Fe1 hn).2.2.1
  exact⟨⟨a,ha,c,hc,k,hk,h2,Qd8 (Sa1 h2).2 h.ok e3 e2 e1⟩,(ub6 h.ok hl).2 h.hd⟩
theorem rd3 {l r:List V3} (h:∀ v,v∈r↔v∈l) {p:Pln} (hp:Qd9 l p):Qd9 r p:=by
 obtain⟨⟨hd,u,w,x,hu,hw,hx,e⟩,ok⟩:=hp
 exact⟨⟨fun v hv=>hd v ((h v).1 hv),u,w,x,(h u).2 hu,(h w).2 hw,(h x).2 hx,e⟩,ok⟩
theorem ce2 {l:List Pln} (h:l.Nodup):Ya0 (Sb0 l):=by
 have h1:=Ad1 l
 have h2:(Sb0 l).Nodup:=(Xc4 l).nodup_iff.2 h
 have h3:=h1.and h2
 refine h3.imp fun {x y} ⟨k1,k2⟩=>?_
 rw[Oa9] at k1
 have k1:¬ LtP y x:=by simpa using k1
 rcases ie4 x y with h | h | h
 ·exact h
 ·exact absurd h k2
 ·exact absurd h k1
theorem Ve4 {l:List V3} (hl:l.all inV=true):(dis l).all inV=true:=List.all_eq_true.2 fun v hv=>List.all_eq_true.1 hl v ((kc2 l v).1 hv)
theorem Sd0 {l:List V3} (hl:l.all inV=true):Sb0 (fil (dis l) (G0 (dis l)))=F0 l:=by
 refine qd2 (ce2 ((Ge6 (dis l)).filter _)) (kf6 l) fun p=>?_
 rw[(Xc4 _).mem_iff,Ve3 (Ve4 hl),je1 hl]
 exact⟨rd3 fun v=>(kc2 l v).symm,rd3 (kc2 l)⟩
theorem vf5 {l:List V3} (hl:l.all inV=true) (h4:Sol l):F0 l≠[]:=fun e=>by
 have h:=re0 h4 (Te7 hl (c:=[]) fun p hp=>by rw[← je1 hl,e] at hp;exact hp) (x:=⟨100,0,0,1⟩) ⟨by show (0:Int) < 1;omega,fun p hp=>by cases hp⟩ (h:=⟨⟨1,0,0⟩,24⟩) fun v hv=>by
  obtain⟨⟨a1,a2⟩,_,_⟩:=(Ab3 v).1 (List.all_eq_true.1 hl v hv)
  simp only[dot]
  omega
 simp only[rmZ] at h
 omega
theorem re8 {l:List V3} (h48:l.length≤48) (hl:l.all inV=true) (h4:Sol l):qb7 l=0:=by
 have hin:=List.all_eq_true.1 hl
 unfold qb7
 rw[if_neg (by omega),if_neg (by rw[← List.not_all_eq_any_not,hl];simp)]
 have h1:(ixs l.length).any (sp1 l)=true:=by
  obtain⟨a,c,k,v,ha,hc,hk,hv,hd⟩:=h4
  obtain⟨i',hi,j',hj,k',hk',hn,hall⟩:=kf8 ha hc hk (be3 hd)
  obtain⟨i1,i2,i3⟩:=hall (fun v=>inV v=true) (hin _ ha) (hin _ hc) (hin _ hk)
  have ht:=kc0 i3 i2 i1 (Fe1 hn).2.2.1
  have mem:∀ {n m:Nat},m < n→((m:Nat):Int)∈ixs n:=fun {n m} h=>List.mem_map.2 ⟨m,List.mem_range.2 h,rfl⟩
  refine List.any_eq_true.2 ⟨_,mem hi,?_⟩
  unfold sp1
  rw[Int.toNat_natCast]
  refine List.any_eq_true.2 ⟨_,mem hj,?_⟩
  unfold sp2
  rw[Int.toNat_natCast]
  refine List.any_eq_true.2 ⟨gL tV l k',?_,ht⟩
  rw[← Yc4 tV l hk']
  exact Uc5 tV (by rw[List.length_take];omega)
 have h2:Tb7 l=false:=by
  unfold Tb7
  rw[if_pos h1]
  obtain⟨hi,k1⟩:=Pb0 h1
  have k1:(ixs (iF l)).any (sp2 l (iF l))=true:=k1
  obtain⟨hj,k2⟩:=Pb0 k1
  have k2:(l.take (jF l)).any (fun v=>(K0 v (gL tV l (jF l)) (gL tV l (iF l))).2)=true:=k2
  have hj:jF l < iF l:=hj
  have hi:iF l < l.length:=hi
  have hk:=Bd0 k2
  have hk2:=List.findIdx_getElem (xs:=l.take (jF l)) (p:=fun v=>(K0 v (gL tV l (jF l)) (gL tV l (iF l))).2) (w:=hk)
  rw[← Ua0 tV hk,Yc4 tV l (by rw[List.length_take] at hk;omega)] at hk2
  have hok:okp (plF l)=true:=(Sa1 hk2).2.ok
  obtain⟨v,hv,hne⟩:=h4.off (Ee8 hok) (plF l).b
  rw[Bool.not_eq_false',List.any_eq_true]
  refine⟨v,hv,?_⟩
  have:sa4 (plF l) v≠0:=fun e=>hne ((qd3 hok (hin v hv)).1 e)
  simpa using this
 rw[h2]
 rfl
theorem Ve5 (l r:List Pln) (n:Nat) (hn:n=l.length):(two (r1L tP) r1I).rd (.tup [.sl 0 0 n 0,i 0],[⟨73,4,bL tP (l++r),true,false,0⟩])=some (l,0):=by
 subst hn
 have h:(r1L tP).rd [⟨73,4,bL tP (l++r),true,false,0⟩] (.sl 0 0 l.length 0)=some l:=by
  show Bool.rec (motive:=fun _=>Option (List Pln)) none (some (slR tP (bL tP (l++r)) 0 l.length)) (Bool.and true (okS tP (bL tP (l++r)) 0 l.length))=_
  rw[De5 _ _ (by rw[List.length_append];omega),De6 _ _ (by rw[List.length_append];omega),List.take_left']
  ·rfl
  ·rfl
 simp only[two,h]
 rfl
theorem re9 (a:V3) (l:List V3) (h48:(a::l).length≤48) (hl:(a::l).all inV=true) (h4:Sol (a::l)):Rd (two (r1L tP) r1I) (ma0 (a,l)) (fun r=>r=(F0 (a::l),0)):=by
 have hc:=re8 h48 hl h4
 have hdl:=je4 (a::l)
 have hll:l.length≤1000000:=by simp only[List.length_cons] at h48;omega
 obtain⟨j,e⟩:=lf4 (dis (a::l)) (by omega)
 have hf:=Sd0 hl
 have hne:fil (dis (a::l)) (G0 (dis (a::l)))≠[]:=fun e=>by
  rw[e] at hf
  have h0:Sb0 []=[]:=qe2
  rw[h0] at hf
  exact vf5 hl h4 hf.symm
 have hok:okL tV (l.length+1) (fun k=>tV.row (gL tV (a::l) k))=true:=Va2 tV (f:=fun k=>gL tV (a::l) k) fun _ _=>rfl
 have hlen:(fil (dis (a::l)) (G0 (dis (a::l)))).length≤1000000:=by
  have h1:=Bd2 (dis (a::l)) (G0 (dis (a::l)))
  have h2:(G0 (dis (a::l))).length≤_:=Bd3 (dis (a::l)) (by omega) _ (Nat.le_refl _)
  omega
 unfold ma0
 simp only[l5,aa1,j7,ee8,ee9,hok,Yc6 (a::l) (by omega),Yc5 (a::l) (by omega),hc,be5 a l hll,be6 a l hll,e]
 generalize fil (dis (a::l)) (G0 (dis (a::l)))=O at *
 cases O with
 | nil=>exact absurd rfl hne
 | cons q o =>
  have hr:(Bool.and (Nat.ble (q::o).length room) (Bool.and (Nat.ble (q::o).length (len (bL tP (q::o)))) (okS tP (bL tP (q::o)) 0 (q::o).length)))=true:=by
   rw[nb5,Y1,Bool.and_eq_true,Bool.and_eq_true,Nat.ble_eq,Nat.ble_eq]
   refine⟨by unfold room;omega,Nat.le_refl _,rfl⟩
  simp only[phP,hr,cb9,Se5,sa7,hf]
  exact⟨_,(F0 (a::l),0),rfl,Ve5 _ _ _ (by rw[← hf,Ob2]),rfl⟩
end Go.Ev.Ce
namespace Go.Ev.Ce
open Go Go.Ev Go.Ev.L Go.Proofs
structure B8 (v:V3):Prop where
 x:Sm 8 v.x
 y:Sm 8 v.y
 z:Sm 8 v.z
structure Mp (l:List V3):Prop where
 l4:4≤l.length
 l8:l.length≤8
 bd:∀ v∈l,Sm 11 v.x∧Sm 11 v.y∧Sm 11 v.z
 nf:nf0 l=true
theorem Mp.inV {l:List V3} (h:Mp l):l.all inV=true:=List.all_eq_true.2 fun v hv=>by
 obtain⟨h1,h2,h3⟩:=h.bd v hv
 exact (Ab3 v).2 ⟨h1.mono (by omega),h2.mono (by omega),h3.mono (by omega)⟩
end Go.Ev.Ce
namespace Go.Ev.Ce
open Go Go.Ev Go.Ev.L Go.Proofs
theorem rd4 {l:List V3} (h:qb7 l=0):l.length≤48∧l.all inV=true∧Sol l:=by
 unfold qb7 at h
 split at h
 ·cases h
 rename_i h48
 split at h
 ·cases h
 rename_i hin
 split at h
 ·cases h
 rename_i hf
 have hl:l.all inV=true:=by
  rw[List.all_eq_true]
  intro v hv
  cases hi:inV v with
  | true=>rfl
  | false=>exact absurd (List.any_eq_true.2 ⟨v,hv,by rw[hi];rfl⟩) hin
 have hin2:=List.all_eq_true.1 hl
 refine⟨by omega,hl,?_⟩
 have hf:Tb7 l=false:=Bool.eq_false_iff.2 hf
 unfold Tb7 at hf
 split at hf
 ·rename_i h1
  obtain⟨hi,k1⟩:=Pb0 h1
  have k1:(ixs (iF l)).any (sp2 l (iF l))=true:=k1
  obtain⟨hj,k2⟩:=Pb0 k1
  have k2:(l.take (jF l)).any (fun v=>(K0 v (gL tV l (jF l)) (gL tV l (iF l))).2)=true:=k2
  have hj:jF l < iF l:=hj
  have hi:iF l < l.length:=hi
  have hk:=Bd0 k2
  have hk2:=List.findIdx_getElem (xs:=l.take (jF l)) (p:=fun v=>(K0 v (gL tV l (jF l)) (gL tV l (iF l))).2) (w:=hk)
  rw[List.length_take] at hk
  rw[← Ua0 tV (by rw[List.length_take];exact hk),Yc4 tV l (by omega)] at hk2
  have ht:=(Sa1 hk2).2
  rw[Bool.not_eq_false',List.any_eq_true] at hf
  obtain⟨v,hv,hne⟩:=hf
  have hne:sa4 (plF l) v≠0:=bne_iff_ne.1 hne
  have ht:Thr (gL tV l (kF l)) (gL tV l (jF l)) (gL tV l (iF l)) (plF l):=ht
  have hkl:kF l < l.length:=by
   have:kF l < min (jF l) l.length:=hk
   omega
  have hoff:dot (plF l).n v≠(plF l).b:=fun e=>hne ((qd3 ht.ok (hin2 v hv)).2 e)
  refine⟨_,_,_,v,gLm hkl,gLm (show jF l < l.length by omega),gLm hi,hv,fun h0=>hoff ?_⟩
  obtain⟨ok,⟨g,hg,e1,e2,e3⟩,o⟩:=ht
  have e:g*(dot (plF l).n v - (plF l).b)=dot (N3 (gL tV l (kF l)) (gL tV l (jF l)) (gL tV l (iF l))) (V1 v (gL tV l (kF l))):=by
   have e1:g*(plF l).n.x=(N3 (gL tV l (kF l)) (gL tV l (jF l)) (gL tV l (iF l))).x:=e1
   have e2:g*(plF l).n.y=(N3 (gL tV l (kF l)) (gL tV l (jF l)) (gL tV l (iF l))).y:=e2
   have e3:g*(plF l).n.z=(N3 (gL tV l (kF l)) (gL tV l (jF l)) (gL tV l (iF l))).z:=e3
   rw[o]
   simp only[dot]
   rw[← e1,← e2,← e3]
   simp only[V1]
   grind
  rw[h0] at e
  have:=(Int.mul_eq_zero.1 e).resolve_left (by omega)
  omega
 ·cases hf
noncomputable def Lb0 (l:List V3):List Pln×Int:=if qb7 l=0 then (F0 l,0) else ([],qb7 l)
noncomputable def Fc5 (l:List V3):List V3×Int:=if qb7 l=0 then (vf4 (F0 l) l,0) else ([],qb7 l)
theorem Ge7 {l:List V3} (h48:l.length≤48) (hl:l.all inV=true):(F0 l).length≤1000000:=by
 have h1:=Bd2 (dis l) (G0 (dis l))
 have hd:=je4 l
 have h2:(G0 (dis l)).length≤_:=Bd3 (dis l) (by omega) _ (Nat.le_refl _)
 rw[← Sd0 hl,Ob2]
 omega
theorem Yc9 (a:V3) (l:List V3) (hl:l.length≤900000):Rd (two (r1L tP) r1I) (ma0 (a,l)) (fun r=>r=Lb0 (a::l)):=by
 by_cases h:qb7 (a::l)=0
 ·obtain⟨h1,h2,h3⟩:=rd4 h
  unfold Lb0
  rw[if_pos h]
  exact re9 a l h1 h2 h3
 ·have hll:(a::l).length≤1000000:=by simp only[List.length_cons];omega
  have hne:(qb7 (a::l) != 0)=true:=bne_iff_ne.2 h
  unfold Lb0 ma0
  rw[if_neg h]
  simp only[l5,aa1,j7,Yc6 (a::l) hll,Yc5 (a::l) hll,hne,o0]
  exact⟨_,([],qb7 (a::l)),rfl,rfl,rfl⟩
theorem Lb1:qb7 []=11:=by
 unfold qb7 Tb7
 rfl
theorem lf6 {f:Nat} {A B:Sum} (hA:g8 prog G f A) (hB:g8 prog G f B):g8 prog G f (fun args blks=>match args,blks with
 | [.v (.slice none 0 0)],[]=>A args blks
 | _,_=>B args blks):=by
 intro args blks r out he
 simp only at he
 split at he
 ·exact hA _ _ r out he
 ·exact hB _ _ r out he
theorem Ge8:Ra4 ()=Lb0 []∧Ra5 ()=true:=by
 have h:Ca0 ()=some (.tup [.v (.slice none 0 0),i 11],[]):=by
  unfold Ca0
  simp only[Yc6 [] (by simp),Yc5 [] (by simp),Lb1]
  rfl
 unfold Ra4 Ra5 Lb0
 rw[h,Lb1]
 exact⟨rfl,rfl⟩
theorem kc4 (a:V3) (l:List V3) (hl:l.length≤900000):Rd (two (r1L tV) r1I) (va9 (a,l)) (fun r=>r=Fc5 (a::l)):=by
 have hok:okL tV (l.length+1) (fun k=>tV.row (gL tV (a::l) k))=true:=Va2 tV (f:=fun k=>gL tV (a::l) k) fun _ _=>rfl
 have hp:zb9 (a,l)=Lb0 (a::l):=(Yc9 a l hl).p
 have hq:Ab0 (a,l)=true:=(Yc9 a l hl).g
 unfold Fc5
 unfold va9
 simp only[l5,aa1,j7,ee8,ee9,hok,hp,hq,o0]
 unfold Lb0
 by_cases h:qb7 (a::l)=0
 ·obtain⟨h1,h2,h3⟩:=rd4 h
  have hF:OkF (F0 (a::l)):=⟨Ge7 h1 h2,fun p hp=>(kf7 hp).ok⟩
  obtain⟨m,r,e1,e2,e3,e4⟩:=Bd7 a l (by omega)
  obtain⟨m',r',k1,k2,k3⟩:=ce1 r m e2 (F0 (a::l)) e4 hF
  rw[if_pos h,if_pos h]
  simp only[e1,k1]
  refine⟨_,(r'.take m',0),rfl,?_,by rw[k3,e3];rfl⟩
  have h:(r1L tV).rd [⟨27,3,bL tV r',true,false,0⟩] (.sl 0 0 m' 0)=some (r'.take m'):=by
   show Bool.rec (motive:=fun _=>Option (List V3)) none (some (slR tV (bL tV r') 0 m')) (Bool.and true (okS tV (bL tV r') 0 m'))=_
   rw[qd5 _ _ k2,uc1 _ _ k2]
   rfl
  simp only[two,h]
  rfl
 ·have hne:(qb7 (a::l) != 0)=true:=bne_iff_ne.2 h
  rw[if_neg h,if_neg h]
  simp only[hne,o0]
  exact⟨_,([],qb7 (a::l)),rfl,rfl,rfl⟩
noncomputable def Ea2 (l:List V3):List V3×Int:=Fc5 l
noncomputable def Ea3 (l:List V3):Bool:=decide (1≤l.length∧l.length≤900000)
noncomputable def Cb7:Sum:=Q5 (fa0 tV) fun l=>.guard (Ea3 l) (.ret ((two (r1L tV) r1I).enc (Ea2 l),[]))
noncomputable def Cb8:Sum:=fun args blks=>match args,blks with
 | [.v (.slice none 0 0)],[]=>Cb5 args blks
 | _,_=>Cb7 args blks
theorem vf6:Ea0 ()=Fc5 []∧Ea1 ()=true:=by
 have h:oa8 ()=some (.tup [.v (.slice none 0 0),i 11],[]):=by
  unfold oa8
  simp only[Ge8.1,Ge8.2,Lb0,Lb1]
  rfl
 unfold Ea0 Ea1 Fc5
 rw[h,Lb1]
 exact⟨rfl,rfl⟩
theorem uc2:g8 prog G 35 Cb7:=by
 refine hf4 (zd3 Ec3 fun a r hr=>?_) (zd3 ub2 fun a r hr=>?_) (zd3 sc6 fun a r hr=>?_)
 ·obtain⟨p,c⟩:=a
  obtain⟨hg,hr⟩:=DT.run_guard_some hr
  have hl:c.length≤900000:=by
   have:=(of_decide_eq_true hg).2
   simp only[List.length_cons] at this
   omega
  have hp:Jb8 (p,c)=Fc5 (p::c):=(kc4 p c hl).p
  have hq:Jb9 (p,c)=true:=(kc4 p c hl).g
  rw[hp,hq]
  exact hr
 ·obtain⟨hg,hr⟩:=DT.run_guard_some hr
  exact absurd (of_decide_eq_true hg).1 (by simp)
 ·obtain⟨hg,hr⟩:=DT.run_guard_some hr
  exact absurd (of_decide_eq_true hg).1 (by simp)
theorem uc3:g8 prog G 35 Cb8:=lf6 ub2 uc2
end Go.Ev.Ce
section
namespace Go.Ev.Ce
open Go Go.Ev Go.Ev.L Go.Proofs
set_option maxRecDepth 100000
structure Ea4 where
 d9:List V3
 G4:List V3
noncomputable def Pa8:List (Nat×Sum):=[(34,xc1)]
theorem kc5:i7 prog G Pa8:=⟨wd9,trivial⟩
structure A7 where
 G4:List V3
 Z3:List V3
 T0:Int
 n7:Int
 Bb2:List V3
 Dd9:Int
 u7:Int
 u9:Int
 v7:Int
structure n5 where
 ph:Nat
 Ca5:Int
 ns7:Nat
 eh0:List (List b7)
 eh1:List (List b7)
 Ma5:Int
 Ma6:Int
 Ma7:Int
noncomputable def Qb4 (p:A7) (s:n5):St:=⟨(.unk::((eL tV p.G4)::((.fn 34 [])::(ra 4 ((.v (.slice none 0 0))::((.ptr 0 0 0 0)::(.unk::((.ptr 1 0 0 0)::(ra 4 ((eL tV p.Z3)::((i p.T0)::((i p.n7)::(ra 3 ((eL tV p.Bb2)::((i p.Dd9)::((i s.Ca5)::(ra 20 []))))))))))))))))),[⟨153,0,[],true,false,0⟩,⟨0,3,[[(i p.u7),(i p.u9),(i p.v7)]],true,false,0⟩]⟩
noncomputable def Qb5 (p:A7) (s:n5):St:=⟨(.unk::((eL tV p.G4)::((.fn 34 [])::(ra 4 ((.sl 0 0 s.ns7 0)::((.ptr 1 0 0 0)::(.unk::((.ptr 2 0 0 0)::(ra 4 ((eL tV p.Z3)::((i p.T0)::((i p.n7)::(ra 3 ((eL tV p.Bb2)::((i p.Dd9)::((i s.Ca5)::(ra 20 []))))))))))))))))),[⟨27,3,s.eh0,true,false,0⟩,⟨153,0,s.eh1,true,false,0⟩,⟨0,3,[[(i s.Ma5),(i s.Ma6),(i s.Ma7)]],true,false,0⟩]⟩
noncomputable def Zb1 (p:A7) (s:n5):St:=(sel (Nat.beq s.ph 1) (Qb5 p s) (Qb4 p s))
noncomputable def I1 {α:Type} (k:n5→α) (e:Nat→α) (z:α) (p:A7) (s:n5):α:=let t1:=(C6 (⟨p.u7,p.u9,p.v7⟩:V3) (gL tV p.Bb2 s.Ca5.toNat));(sl (decide (s.Ca5 < p.Dd9)) (sl (inB s.Ca5 (List.length p.Bb2)) (sl (!(Fa5 3 [(0,(.int .i64)),(1,(.int .i64)),(2,(.int .i64))] [(i t1.x),(i t1.y),(i t1.z)] [])) (k ⟨1,(W (s.Ca5+1)),1,[[(i t1.x),(i t1.y),(i t1.z)]],(U1 [(0,(.int .i64)),(1,(.int .i64)),(2,(.int .i64))] [(i t1.x),(i t1.y),(i t1.z)] [(i t1.x),(i t1.y),(i t1.z),(b true)] []),p.u7,p.u9,p.v7⟩) (k ⟨0,(W (s.Ca5+1)),0,[],[],0,0,0⟩)) z) (e 1))
noncomputable def I4 {α:Type} (k:n5→α) (e:Nat→α) (z:α) (p:A7) (s:n5):α:=let t1:=(C6 (⟨s.Ma5,s.Ma6,s.Ma7⟩:V3) (gL tV p.Bb2 s.Ca5.toNat));(sl (decide (s.Ca5 < p.Dd9)) (sl (inB s.Ca5 (List.length p.Bb2)) (sl (!(Fa5 3 [(0,(.int .i64)),(1,(.int .i64)),(2,(.int .i64))] [(i t1.x),(i t1.y),(i t1.z)] s.eh1)) (sl (Nat.beq s.ns7 (len s.eh0)&&Nat.ble ((s.ns7+1)*24) room) (k ⟨1,(W (s.Ca5+1)),(s.ns7+1),(app s.eh0 [[(i t1.x),(i t1.y),(i t1.z)]]),(U1 [(0,(.int .i64)),(1,(.int .i64)),(2,(.int .i64))] [(i t1.x),(i t1.y),(i t1.z)] [(i t1.x),(i t1.y),(i t1.z),(b true)] s.eh1),s.Ma5,s.Ma6,s.Ma7⟩) z) (k ⟨1,(W (s.Ca5+1)),s.ns7,s.eh0,s.eh1,s.Ma5,s.Ma6,s.Ma7⟩)) z) (e 2))
noncomputable def F6 (p:A7) (s:n5):Stp n5:=(sel (Nat.beq s.ph 1) (I4 .next .exit .fail p s) (I1 .next .exit .fail p s))
noncomputable def La9:Lo A7 n5:=⟨En Pa8,0,ff9,[1,1,1,0,1,4,4,1,1,0,4,1,1,4,4],[1,2,7,8,10,15,16,17,21,22,23],.p,[⟨((.s (.o .unk))::((.s (.c 3 (nL tV)))::((.s (.o (.fn 34)))::(ru2 4 ((.s (.o .nil))::((.s (.o (.ptr 0 0 0 0)))::((.s (.o .unk))::((.s (.o (.ptr 1 0 0 0)))::(ru2 4 ((.s (.c 3 (nL tV)))::((.s (.o (.int .i64)))::((.s (.o (.int .i64)))::(ru2 3 ((.s (.c 3 (nL tV)))::((.s (.o (.int .i64)))::((.s (.o (.int .i64)))::(ru2 20 []))))))))))))))))),[⟨153,0,true,(some [])⟩,⟨0,3,true,(some [[(.o (.int .i64)),(.o (.int .i64)),(.o (.int .i64))]])⟩],fun a H=>(⟨(rL tV (slT a 1)),(rL tV (slT a 15)),(toI (slT a 16)),(toI (slT a 17)),(rL tV (slT a 21)),(toI (slT a 22)),(toI (slT (rwT (elT H 1) 0) 0)),(toI (slT (rwT (elT H 1) 0) 1)),(toI (slT (rwT (elT H 1) 0) 2))⟩,⟨0,(toI (slT a 23)),0,[],[],0,0,0⟩)⟩,⟨((.s (.o .unk))::((.s (.c 3 (nL tV)))::((.s (.o (.fn 34)))::(ru2 4 ((.s (.o (.sl 0 0 (some 0) none)))::((.s (.o (.ptr 1 0 0 0)))::((.s (.o .unk))::((.s (.o (.ptr 2 0 0 0)))::(ru2 4 ((.s (.c 3 (nL tV)))::((.s (.o (.int .i64)))::((.s (.o (.int .i64)))::(ru2 3 ((.s (.c 3 (nL tV)))::((.s (.o (.int .i64)))::((.s (.o (.int .i64)))::(ru2 20 []))))))))))))))))),[⟨27,3,true,none⟩,⟨153,0,true,none⟩,⟨0,3,true,(some [[(.o (.int .i64)),(.o (.int .i64)),(.o (.int .i64))]])⟩],fun a H=>(⟨(rL tV (slT a 1)),(rL tV (slT a 15)),(toI (slT a 16)),(toI (slT a 17)),(rL tV (slT a 21)),(toI (slT a 22)),0,0,0⟩,⟨1,(toI (slT a 23)),(slN (slT a 7)),(elT H 0),(elT H 1),(toI (slT (rwT (elT H 2) 0) 0)),(toI (slT (rwT (elT H 2) 0) 1)),(toI (slT (rwT (elT H 2) 0) 2))⟩)⟩],F6,[(some 2,fun p s=>⟨(.unk::((eL tV p.G4)::((.fn 34 [])::(ra 4 ((.v (.slice none 0 0))::((.ptr 0 0 0 0)::(.unk::((.ptr 1 0 0 0)::(ra 4 ((eL tV p.Z3)::((i p.T0)::((i p.n7)::(ra 3 ((eL tV p.Bb2)::((i p.Dd9)::((i s.Ca5)::((b (decide (s.Ca5 < p.Dd9)))::(ra 19 [])))))))))))))))))),[⟨153,0,[],true,false,0⟩,⟨0,3,[[(i p.u7),(i p.u9),(i p.v7)]],true,false,0⟩]⟩),(some 2,fun p s=>⟨(.unk::((eL tV p.G4)::((.fn 34 [])::(ra 4 ((.sl 0 0 s.ns7 0)::((.ptr 1 0 0 0)::(.unk::((.ptr 2 0 0 0)::(ra 4 ((eL tV p.Z3)::((i p.T0)::((i p.n7)::(ra 3 ((eL tV p.Bb2)::((i p.Dd9)::((i s.Ca5)::((b (decide (s.Ca5 < p.Dd9)))::(ra 19 [])))))))))))))))))),[⟨27,3,s.eh0,true,false,0⟩,⟨153,0,s.eh1,true,false,0⟩,⟨0,3,[[(i s.Ma5),(i s.Ma6),(i s.Ma7)]],true,false,0⟩]⟩)],Zb1⟩
theorem Zb2:La9.OkM:=Lo.okM [] (by kernel_rfl) .nil rfl (.cons (fun a H=>by kernel_rfl) (.cons (fun a H=>by kernel_rfl) .nil)) fun p s=>(.sel (Nat.beq s.ph 1) (.of @I4 (fun F _ _ _ _ _=>by unfold I4;(repeat' apply k9 (f:=F))<;>rfl) (by kernel_rfl)) (.of @I1 (fun F _ _ _ _ _=>by unfold I1;(repeat' apply k9 (f:=F))<;>rfl) (by kernel_rfl)))
structure I9 where
 T0:Int
structure p8 where
 ph:Nat
 G4:List V3
 Z3:List V3
 n7:Int
 ns7:Nat
 eh0:List (List b7)
 eh1:List (List b7)
noncomputable def Qb6 (p:I9) (s:p8):St:=⟨(.unk::((eL tV s.G4)::((.fn 34 [])::(ra 4 ((.v (.slice none 0 0))::((.ptr 0 0 0 0)::(ra 6 ((eL tV s.Z3)::((i p.T0)::((i s.n7)::(ra 26 []))))))))))),[⟨153,0,[],true,false,0⟩]⟩
noncomputable def Qb7 (p:I9) (s:p8):St:=⟨(.unk::((eL tV s.G4)::((.fn 34 [])::(ra 4 ((.sl 0 0 s.ns7 0)::((.ptr 1 0 0 0)::(ra 6 ((eL tV s.Z3)::((i p.T0)::((i s.n7)::(ra 26 []))))))))))),[⟨27,3,s.eh0,true,false,0⟩,⟨153,0,s.eh1,true,false,0⟩]⟩
noncomputable def Zb3 (p:I9) (s:p8):St:=(sel (Nat.beq s.ph 1) (Qb7 p s) (Qb6 p s))
noncomputable def I5 {α:Type} (k:p8→α) (e:Nat→α) (z:α) (p:I9) (s:p8):α:=let t1:=(lp (F6 (⟨(rt tV s.G4),(rt tV s.Z3),p.T0,s.n7,(rt tV s.G4),(↑(List.length s.G4):Int),(gL tV s.Z3 s.n7.toNat).x,(gL tV s.Z3 s.n7.toNat).y,(gL tV s.Z3 s.n7.toNat).z⟩:A7)) (⟨0,0,0,[],[],0,0,0⟩:n5));(sl (decide (s.n7 < p.T0)) (sl (inB s.n7 (List.length s.Z3)) (sl ((cnE tV s.G4)&&((cnE tV s.Z3)&&((cnE tV s.G4)&&true))) (sl (Nat.beq t1.1 1) (k ⟨0,(rt tV s.G4),(rt tV s.Z3),(W (s.n7+1)),0,[],[]⟩) (sl (Nat.beq t1.1 2) (k ⟨1,(rt tV s.G4),(rt tV s.Z3),(W (s.n7+1)),t1.2.ns7,t1.2.eh0,t1.2.eh1⟩) z)) z) z) (e 1))
noncomputable def I6 {α:Type} (k:p8→α) (e:Nat→α) (z:α) (p:I9) (s:p8):α:=let t1:=(lp (F6 (⟨(rt tV s.G4),(rt tV s.Z3),p.T0,s.n7,(rt tV s.G4),(↑(List.length s.G4):Int),0,0,0⟩:A7)) (⟨1,0,s.ns7,s.eh0,s.eh1,(gL tV s.Z3 s.n7.toNat).x,(gL tV s.Z3 s.n7.toNat).y,(gL tV s.Z3 s.n7.toNat).z⟩:n5));(sl (decide (s.n7 < p.T0)) (sl (inB s.n7 (List.length s.Z3)) (sl ((cnE tV s.G4)&&((cnE tV s.Z3)&&((cnE tV s.G4)&&true))) (sl (Nat.beq t1.1 1) (k ⟨0,(rt tV s.G4),(rt tV s.Z3),(W (s.n7+1)),0,[],[]⟩) (sl (Nat.beq t1.1 2) (k ⟨1,(rt tV s.G4),(rt tV s.Z3),(W (s.n7+1)),t1.2.ns7,t1.2.eh0,t1.2.eh1⟩) z)) z) z) (e 2))
noncomputable def da0 (p:I9) (s:p8):Stp p8:=(sel (Nat.beq s.ph 1) (I6 .next .exit .fail p s) (I5 .next .exit .fail p s))
noncomputable def Ma0:Lo I9 p8:=⟨En Pa8,0,ff9,[1,1,1,0,1,4,4],[1,2,7,8,15,16,17],(.s .p (.s .p (.s (.b (.s .p (.s .p (.b (.u La9.lsM))))) .p))),[⟨((.s (.o .unk))::((.s (.c 3 (nL tV)))::((.s (.o (.fn 34)))::(ru2 4 ((.s (.o .nil))::((.s (.o (.ptr 0 0 0 0)))::(ru2 6 ((.s (.c 3 (nL tV)))::((.s (.o (.int .i64)))::((.s (.o (.int .i64)))::(ru2 26 []))))))))))),[⟨153,0,true,(some [])⟩],fun a H=>(⟨(toI (slT a 16))⟩,⟨0,(rL tV (slT a 1)),(rL tV (slT a 15)),(toI (slT a 17)),0,[],[]⟩)⟩,⟨((.s (.o .unk))::((.s (.c 3 (nL tV)))::((.s (.o (.fn 34)))::(ru2 4 ((.s (.o (.sl 0 0 (some 0) none)))::((.s (.o (.ptr 1 0 0 0)))::(ru2 6 ((.s (.c 3 (nL tV)))::((.s (.o (.int .i64)))::((.s (.o (.int .i64)))::(ru2 26 []))))))))))),[⟨27,3,true,none⟩,⟨153,0,true,none⟩],fun a H=>(⟨(toI (slT a 16))⟩,⟨1,(rL tV (slT a 1)),(rL tV (slT a 15)),(toI (slT a 17)),(slN (slT a 7)),(elT H 0),(elT H 1)⟩)⟩],da0,[(some 0,fun p s=>⟨(.unk::((eL tV s.G4)::((.fn 34 [])::(ra 4 ((.v (.slice none 0 0))::((.ptr 0 0 0 0)::(ra 6 ((eL tV s.Z3)::((i p.T0)::((i s.n7)::((b (decide (s.n7 < p.T0)))::(ra 25 [])))))))))))),[⟨153,0,[],true,false,0⟩]⟩),(some 0,fun p s=>⟨(.unk::((eL tV s.G4)::((.fn 34 [])::(ra 4 ((.sl 0 0 s.ns7 0)::((.ptr 1 0 0 0)::(ra 6 ((eL tV s.Z3)::((i p.T0)::((i s.n7)::((b (decide (s.n7 < p.T0)))::(ra 25 [])))))))))))),[⟨27,3,s.eh0,true,false,0⟩,⟨153,0,s.eh1,true,false,0⟩]⟩)],Zb3⟩
theorem Zb4:Ma0.OkM:=Lo.okM [La9.prM] (by kernel_rfl) (.cons Zb2 .nil) rfl (.cons (fun a H=>by kernel_rfl) (.cons (fun a H=>by kernel_rfl) .nil)) fun p s=>(.sel (Nat.beq s.ph 1) (.of @I6 (fun F _ _ _ _ _=>by unfold I6;(repeat' apply k9 (f:=F))<;>rfl) (by kernel_rfl)) (.of @I5 (fun F _ _ _ _ _=>by unfold I5;(repeat' apply k9 (f:=F))<;>rfl) (by kernel_rfl)))
structure Ea5 where
 alt:Nat
 ns0:Nat
 eh0:List (List b7)
noncomputable def ea8 {α:Type} (kk:Ea5→α) (x:Ea4):α:=let t1:=(lp (da0 (⟨(↑(List.length x.d9):Int)⟩:I9)) (⟨0,(rt tV x.G4),(rt tV x.d9),0,0,[],[]⟩:p8));(sl ((cnE tV x.G4)&&((cnE tV x.d9)&&true)) (sl (Nat.beq t1.1 1) (kk ⟨1,0,[]⟩) (sl (Nat.beq t1.1 2) (kk ⟨2,t1.2.ns7,t1.2.eh0⟩) (kk ⟨0,0,[]⟩))) (kk ⟨0,0,[]⟩))
noncomputable def Xa7 (x:Ea4):Ea5:=ea8 (fun r=>r) x
noncomputable def Pa9 (x:Ea4) (r:Ea5):DT (b7×List b8):=(.ite (Nat.beq r.alt 1) (.ret ((.v (.slice none 0 0)),[])) (.ite (Nat.beq r.alt 2) (.ret ((.sl 0 0 r.ns0 0),[⟨27,3,r.eh0,true,false,0⟩])) .fail))
theorem Fc6 {α β:Type} (F:α→β) (kk:Ea5→α) (x:Ea4):F (ea8 kk x)=ea8 (fun r=>F (kk r)) x:=by unfold ea8;(repeat' apply k9 (f:=F))<;>rfl
noncomputable def Cb9:Sum:=nb6 ⟨[(.s (.c 3 (nL tV))),(.s (.c 3 (nL tV))),(.s (.o (.fn 34)))],[],fun a H=>(⟨(rL tV (slT a 0)),(rL tV (slT a 1))⟩,())⟩ (fun x=>Pa9 x (Xa7 x))
theorem uc4:g8 prog G 79 Cb9:=V5 (enc:=fun x=>⟨[(eL tV x.d9),(eL tV x.G4),(.fn 34 [])],[]⟩) (fun a H=>by kernel_rfl) (bd b79 kc5) fun x=>Ld1 (.s .p (.s .p (.s .p (.s (.s .p (.b (.u Ma0.lsM))) .p)))) [Ma0.prM] (by kernel_rfl) (.cons Zb4 .nil) (Eq.trans (b:=ea8 (fun r=>(Pa9 x r).run) x) (by kernel_rfl) (Fc6 (fun r=>(Pa9 x r).run) (fun r=>r) x).symm)
noncomputable def ce3:List (Nat×Sum):=[(79,Cb9),(35,Cb8)]
theorem Sd1:i7 prog G ce3:=⟨uc4,uc3,trivial⟩
noncomputable def ub7 (x:List V3) (y:List V3):Option (b7×List b8):=let t1:=(Xa7 ⟨(rt tV x),(rt tV y)⟩);let t2:=(Ea0 ());let t3:=(Ea2 (slR tV t1.eh0 0 t1.ns0));(sl (decide ((if (↑(List.length y):Int) > (↑(List.length x):Int) then (↑(List.length y):Int) else (↑(List.length x):Int)) > 48)) (some ((.tup [(.v (.slice none 0 0)),(i 2)]),[])) (sl ((cnE tV x)&&((cnE tV y)&&true)) (sl (Nat.beq t1.alt 1) (sl (Ea1 ()) (some ((.tup [(eL tV t2.1),(i t2.2)]),[])) none) (sl (Nat.beq t1.alt 2) (sl (okS tV t1.eh0 0 t1.ns0) (sl (Ea3 (slR tV t1.eh0 0 t1.ns0)) (some ((.tup [(eL tV t3.1),(i t3.2)]),[])) none) none) none)) none))
noncomputable def bb5 (x:List V3) (y:List V3):List V3×Int:=C9 (two (r1L tV) r1I) (ub7 x y)
noncomputable def bb6 (x:List V3) (y:List V3):Bool:=okO (two (r1L tV) r1I) (ub7 x y)
noncomputable def rd5:Sum:=Z9 (fa0 tV) (fa0 tV) (fun x y=>.guard (bb6 x y) (.ret ((two (r1L tV) r1I).enc (bb5 x y),[])))
theorem ce4:g8 prog G 28 rd5:=Ia3 (bd b28 Sd1) (two (r1L tV) r1I) (o:=ub7) fun x y=>p5 (by kernel_rfl)
noncomputable def Lb2:List (Nat×Sum):=[(83,Sa9)]
theorem Fc7:i7 prog G Lb2:=⟨Ya8,trivial⟩
structure pa1 where
 d9:List V3
 Ed0:List V3
 Td8:Int
 c9:Int
 c7:Int
 d7:Int
structure Q4 where
 is6:Int
 kd0:Int
noncomputable def uc5 (p:pa1) (s:Q4):St:=⟨((eL tV p.d9)::(.unk::(.unk::((.ptr 0 0 0 0)::(.unk::(.unk::((i s.is6)::(ra 3 ((eL tV p.Ed0)::((i p.Td8)::((i s.kd0)::(ra 20 [])))))))))))),[⟨0,3,[[(i p.c9),(i p.c7),(i p.d7)]],true,false,0⟩]⟩
noncomputable def ha3 {α:Type} (k:Q4→α) (e:Nat→α) (z:α) (p:pa1) (s:Q4):α:=let t1:=(y8 (gL tV p.Ed0 s.kd0.toNat) (⟨p.c9,p.c7,p.d7⟩:V3));(sl (decide (s.kd0 < p.Td8)) (sl (inB s.kd0 (List.length p.Ed0)) (sl (s.kd0==0) (k ⟨t1,(W (s.kd0+1))⟩) (sl (decide (t1 > s.is6)) (k ⟨t1,(W (s.kd0+1))⟩) (k ⟨s.is6,(W (s.kd0+1))⟩))) z) (e 1))
noncomputable def ca1 (p:pa1) (s:Q4):Stp Q4:=ha3 .next .exit .fail p s
noncomputable def Xa8:Lo pa1 Q4:=⟨En Lb2,0,pf1,[1,1,0,1,4,4],[0,3,6,10,11,12],.p,[⟨((.s (.c 3 (nL tV)))::((.s (.o .unk))::((.s (.o .unk))::((.s (.o (.ptr 0 0 0 0)))::((.s (.o .unk))::((.s (.o .unk))::((.s (.o (.int .i64)))::(ru2 3 ((.s (.c 3 (nL tV)))::((.s (.o (.int .i64)))::((.s (.o (.int .i64)))::(ru2 20 [])))))))))))),[⟨0,3,true,(some [[(.o (.int .i64)),(.o (.int .i64)),(.o (.int .i64))]])⟩],fun a H=>(⟨(rL tV (slT a 0)),(rL tV (slT a 10)),(toI (slT a 11)),(toI (slT (rwT (elT H 0) 0) 0)),(toI (slT (rwT (elT H 0) 0) 1)),(toI (slT (rwT (elT H 0) 0) 2))⟩,⟨(toI (slT a 6)),(toI (slT a 12))⟩)⟩],ca1,[(some 0,fun p s=>⟨((eL tV p.d9)::(.unk::(.unk::((.ptr 0 0 0 0)::(.unk::(.unk::((i s.is6)::(ra 3 ((eL tV p.Ed0)::((i p.Td8)::((i s.kd0)::((b (decide (s.kd0 < p.Td8)))::(ra 19 []))))))))))))),[⟨0,3,[[(i p.c9),(i p.c7),(i p.d7)]],true,false,0⟩]⟩)],uc5⟩
theorem uc6:Xa8.Ok:=Lo.ok [] (by kernel_rfl) .nil rfl (.cons (fun a H=>by kernel_rfl) .nil) fun p s=>(.of @ha3 (fun F _ _ _ _ _=>by unfold ha3;(repeat' apply k9 (f:=F))<;>rfl) (by kernel_rfl))
noncomputable def Ca2 (x:List V3) (y:V3):Option (b7×List b8):=let t1:=(lp (ca1 (⟨(rt tV x),(rt tV x),(↑(List.length x):Int),y.x,y.y,y.z⟩:pa1)) (⟨0,0⟩:Q4));(sl ((cnE tV x)&&((cnE tV x)&&true)) (sl (Nat.beq t1.1 1) (some ((.tup [(i t1.2.is6),(b (decide ((↑(List.length (rt tV x)):Int) > 0)))]),[])) none) none)
noncomputable def Ca3 (x:List V3) (y:V3):Int×Bool:=C9 (two r1I r1B) (Ca2 x y)
noncomputable def Ca4 (x:List V3) (y:V3):Bool:=okO (two r1I r1B) (Ca2 x y)
noncomputable def Tb9:Sum:=Z9 (fa0 tV) (B0 tV) (fun x y=>.guard (Ca4 x y) (.ret ((two r1I r1B).enc (Ca3 x y),[])))
theorem Zc0:g8 prog G 31 Tb9:=Ia3 (bd b31 Fc7) (two r1I r1B) (o:=Ca2) fun x y=>sa8 (.s .p (.s .p (.s (.s .p (.b (.u Xa8.ls))) .p))) [Xa8.pr] (by kernel_rfl) (.cons uc6 .nil) (by kernel_rfl)
end Go.Ev.Ce
end
section
namespace Go.Ev.Ce
open Go Go.Ev Go.Ev.L Go.Proofs
set_option maxRecDepth 100000
structure Ve6 where
 O8:Int
 O9:Int
 P0:Int
 ad7:Int
 c9:Int
 c7:Int
 d7:Int
structure Ve7 where
 alt:Nat
 bs0:Bool
structure cd4 where
 d8:List Pln
 c9:Int
 c7:Int
 d7:Int
structure Jc8 where
 d8:List Pln
 is7:Int
 c9:Int
 c7:Int
 d7:Int
structure Jc9 where
 is8:Int
structure cd5 where
 alt:Nat
 is0:Int
structure Fc8 where
 d8:List Pln
 c9:Int
 c7:Int
 d7:Int
structure Fc9 where
 alt:Nat
 bs0:Bool
end Go.Ev.Ce
end
section
namespace Go.Ev.Ce
open Go Go.Ev Go.Ev.L Go.Proofs
set_option maxRecDepth 100000
noncomputable def Bd9:List (Nat×Sum):=[(184,eb1)]
theorem jd4:i7 prog G Bd9:=⟨Bb7,trivial⟩
noncomputable def Ha3 (x:V3) (y:V3):Option (b7×List b8):=let t1:=(M9 x.x);let t2:=(M9 x.y);let t3:=(M9 x.z);(sl (E3 x.x) (sl (E3 x.y) (sl (E3 x.z) (some ((i (W ((W ((W (t1*y.x))+(W (t2*y.y))))+(W (t3*y.z))))),[])) none) none) none)
noncomputable def wa0 (x:V3) (y:V3):Int:=C9 (one r1I) (Ha3 x y)
noncomputable def Ua3 (x:V3) (y:V3):Bool:=okO (one r1I) (Ha3 x y)
noncomputable def yc8:Sum:=Z9 (B0 tV) (B0 tV) (fun x y=>.guard (Ua3 x y) (.ret ((one r1I).enc (wa0 x y),[])))
theorem Cd0:g8 prog G 134 yc8:=Ia3 (bd Cf2 jd4) (one r1I) (o:=Ha3) fun x y=>p5 (by kernel_rfl)
noncomputable def Sd2:List (Nat×Sum):=[(156,lb2)]
theorem Cd1:i7 prog G Sd2:=⟨xb8,trivial⟩
noncomputable def ib7 (x:Pln) (y:Int):Option (b7×List b8):=let t1:=(ta2 x);let t2:=(ta2 (⟨x.n,(W (x.b+y))⟩:Pln));(sl (ta3 x) (sl (!t1) (some ((.tup [(.agg [(i 0),(i 0),(i 0),(i 0)]),(b false)]),[])) (sl (decide (y < (-4194304))) (some ((.tup [(.agg [(i 0),(i 0),(i 0),(i 0)]),(b false)]),[])) (sl (decide (y > 4194304)) (some ((.tup [(.agg [(i 0),(i 0),(i 0),(i 0)]),(b false)]),[])) (sl (ta3 (⟨x.n,(W (x.b+y))⟩:Pln)) (sl (!t2) (some ((.tup [(.agg [(i 0),(i 0),(i 0),(i 0)]),(b false)]),[])) (some ((.tup [(.agg [(i x.n.x),(i x.n.y),(i x.n.z),(i (W (x.b+y)))]),(b true)]),[]))) none)))) none)
noncomputable def ib8 (x:Pln) (y:Int):Pln×Bool:=C9 (two r1P r1B) (ib7 x y)
noncomputable def ib9 (x:Pln) (y:Int):Bool:=okO (two r1P r1B) (ib7 x y)
noncomputable def Zc1:Sum:=Z9 (B0 tP) cI (fun x y=>.guard (ib9 x y) (.ret ((two r1P r1B).enc (ib8 x y),[])))
theorem Sd3:g8 prog G 133 Zc1:=Ia3 (bd Cf1 Cd1) (two r1P r1B) (o:=ib7) fun x y=>p5 (by kernel_rfl)
noncomputable def Cd2:List (Nat×Sum):=[]
theorem jd5:i7 prog G Cd2:=trivial
noncomputable def Ua4 (x:V3):Option (b7×List b8):=(sl (decide (x.x≥0)) (sl (decide (x.x≤12)) (sl (decide (x.y≥0)) (sl (decide (x.y≤12)) (sl (decide (x.z≥0)) (some ((b (decide (x.z≤12))),[])) (some ((b false),[]))) (some ((b false),[]))) (some ((b false),[]))) (some ((b false),[]))) (some ((b false),[])))
noncomputable def mb5 (x:V3):Bool:=C9 (one r1B) (Ua4 x)
noncomputable def mb6 (x:V3):Bool:=okO (one r1B) (Ua4 x)
noncomputable def yc9:Sum:=Q5 (B0 tV) (fun x=>.guard (mb6 x) (.ret ((one r1B).enc (mb5 x),[])))
theorem Cd3:g8 prog G 132 yc9:=ya9 (bd Cf0 jd5) (one r1B) (o:=Ua4) fun x=>p5 (by kernel_rfl)
noncomputable def Ub0:List (Nat×Sum):=[(132,yc9),(134,yc8),(133,Zc1)]
theorem Zc2:i7 prog G Ub0:=⟨Cd3,Cd0,Sd3,trivial⟩
structure U9 where
 d8:List Pln
 is2:Int
 c9:Int
 c7:Int
 d7:Int
structure o9 where
 ph:Nat
 is9:Int
 ns8:Nat
 eh1:List (List b7)
noncomputable def uc7 (p:U9) (s:o9):St:=⟨((eL tP p.d8)::(.unk::((i p.is2)::(.unk::((.ptr 0 0 0 0)::(ra 3 ((.v (.slice none 0 0))::((i s.is9)::(ra 35 []))))))))),[⟨0,3,[[(i p.c9),(i p.c7),(i p.d7)]],true,false,0⟩]⟩
noncomputable def uc8 (p:U9) (s:o9):St:=⟨((eL tP p.d8)::(.unk::((i p.is2)::(.unk::((.ptr 0 0 0 0)::(ra 3 ((.sl 1 0 s.ns8 0)::((i s.is9)::(ra 35 []))))))))),[⟨0,3,[[(i p.c9),(i p.c7),(i p.d7)]],true,false,0⟩,⟨73,4,s.eh1,true,false,0⟩]⟩
noncomputable def Gc0 (p:U9) (s:o9):St:=(sel (Nat.beq s.ph 1) (uc8 p s) (uc7 p s))
noncomputable def S8 {α:Type} (k:o9→α) (e:Nat→α) (z:α) (p:U9) (s:o9):α:=let t1:=(wa0 (gL tP p.d8 s.is9.toNat).n (⟨p.c9,p.c7,p.d7⟩:V3));let t2:=(ib8 (gL tP p.d8 s.is9.toNat) (W (p.is2*t1)));(sl (decide (s.is9 < (↑(List.length p.d8):Int))) (sl (inB s.is9 (List.length p.d8)) (sl (inB s.is9 (List.length p.d8)) (sl (Ua3 (gL tP p.d8 s.is9.toNat).n (⟨p.c9,p.c7,p.d7⟩:V3)) (sl (ib9 (gL tP p.d8 s.is9.toNat) (W (p.is2*t1))) (sl (!t2.2) (e 1) (k ⟨1,(W (s.is9+1)),1,[[(i t2.1.n.x),(i t2.1.n.y),(i t2.1.n.z),(i t2.1.b)]]⟩)) z) z) z) z) (e 2))
noncomputable def S9 {α:Type} (k:o9→α) (e:Nat→α) (z:α) (p:U9) (s:o9):α:=let t1:=(wa0 (gL tP p.d8 s.is9.toNat).n (⟨p.c9,p.c7,p.d7⟩:V3));let t2:=(ib8 (gL tP p.d8 s.is9.toNat) (W (p.is2*t1)));(sl (decide (s.is9 < (↑(List.length p.d8):Int))) (sl (inB s.is9 (List.length p.d8)) (sl (inB s.is9 (List.length p.d8)) (sl (Ua3 (gL tP p.d8 s.is9.toNat).n (⟨p.c9,p.c7,p.d7⟩:V3)) (sl (ib9 (gL tP p.d8 s.is9.toNat) (W (p.is2*t1))) (sl (!t2.2) (e 1) (sl (Nat.beq s.ns8 (len s.eh1)&&Nat.ble ((s.ns8+1)*32) room) (k ⟨1,(W (s.is9+1)),(s.ns8+1),(app s.eh1 [[(i t2.1.n.x),(i t2.1.n.y),(i t2.1.n.z),(i t2.1.b)]])⟩) z)) z) z) z) z) (e 3))
noncomputable def Ea6 (p:U9) (s:o9):Stp o9:=(sel (Nat.beq s.ph 1) (S9 .next .exit .fail p s) (S8 .next .exit .fail p s))
noncomputable def jb0:Lo U9 o9:=⟨En Ub0,0,pf2,[1,1,1,0,1,4,4],[0,2,4,8,9],.p,[⟨((.s (.c 4 (nL tP)))::((.s (.o .unk))::((.s (.o (.int .i64)))::((.s (.o .unk))::((.s (.o (.ptr 0 0 0 0)))::(ru2 3 ((.s (.o .nil))::((.s (.o (.int .i64)))::(ru2 35 []))))))))),[⟨0,3,true,(some [[(.o (.int .i64)),(.o (.int .i64)),(.o (.int .i64))]])⟩],fun a H=>(⟨(rL tP (slT a 0)),(toI (slT a 2)),(toI (slT (rwT (elT H 0) 0) 0)),(toI (slT (rwT (elT H 0) 0) 1)),(toI (slT (rwT (elT H 0) 0) 2))⟩,⟨0,(toI (slT a 9)),0,[]⟩)⟩,⟨((.s (.c 4 (nL tP)))::((.s (.o .unk))::((.s (.o (.int .i64)))::((.s (.o .unk))::((.s (.o (.ptr 0 0 0 0)))::(ru2 3 ((.s (.o (.sl 1 0 (some 0) none)))::((.s (.o (.int .i64)))::(ru2 35 []))))))))),[⟨0,3,true,(some [[(.o (.int .i64)),(.o (.int .i64)),(.o (.int .i64))]])⟩,⟨73,4,true,none⟩],fun a H=>(⟨(rL tP (slT a 0)),(toI (slT a 2)),(toI (slT (rwT (elT H 0) 0) 0)),(toI (slT (rwT (elT H 0) 0) 1)),(toI (slT (rwT (elT H 0) 0) 2))⟩,⟨1,(toI (slT a 9)),(slN (slT a 8)),(elT H 1)⟩)⟩],Ea6,[(none,fun p s=>⟨[(.tup [(.v (.slice none 0 0)),(b false)])],[]⟩),(some 0,fun p s=>⟨((eL tP p.d8)::(.unk::((i p.is2)::(.unk::((.ptr 0 0 0 0)::(ra 3 ((.v (.slice none 0 0))::((i s.is9)::(ra 5 ((i s.is9)::((eL tP p.d8)::((i (↑(List.length p.d8):Int))::((b (decide (s.is9 < (↑(List.length p.d8):Int))))::(ra 26 [])))))))))))))),[⟨0,3,[[(i p.c9),(i p.c7),(i p.d7)]],true,false,0⟩]⟩),(some 0,fun p s=>⟨((eL tP p.d8)::(.unk::((i p.is2)::(.unk::((.ptr 0 0 0 0)::(ra 3 ((.sl 1 0 s.ns8 0)::((i s.is9)::(ra 5 ((i s.is9)::((eL tP p.d8)::((i (↑(List.length p.d8):Int))::((b (decide (s.is9 < (↑(List.length p.d8):Int))))::(ra 26 [])))))))))))))),[⟨0,3,[[(i p.c9),(i p.c7),(i p.d7)]],true,false,0⟩,⟨73,4,s.eh1,true,false,0⟩]⟩)],Gc0⟩
theorem Gc1:jb0.Ok:=Lo.ok [] (by kernel_rfl) .nil rfl (.cons (fun a H=>by kernel_rfl) (.cons (fun a H=>by kernel_rfl) .nil)) fun p s=>(.sel (Nat.beq s.ph 1) (.of @S9 (fun F _ _ _ _ _=>by unfold S9;(repeat' apply k9 (f:=F))<;>rfl) (by kernel_rfl)) (.of @S8 (fun F _ _ _ _ _=>by unfold S8;(repeat' apply k9 (f:=F))<;>rfl) (by kernel_rfl)))
noncomputable def Ma1 (x:List Pln) (y:V3) (z:Int):Option (b7×List b8):=let t1:=(mb5 y);let t2:=(lp (Ea6 (⟨(rt tP x),z,y.x,y.y,y.z⟩:U9)) (⟨0,0,0,[]⟩:o9));(sl (mb6 y) (sl (!t1) (some ((.tup [(.v (.slice none 0 0)),(b false)]),[])) (sl ((cnE tP x)&&true) (sl (Nat.beq t2.1 1) (some ((.tup [(.v (.slice none 0 0)),(b false)]),[])) (sl (Nat.beq t2.1 2) (some ((.tup [(.v (.slice none 0 0)),(b true)]),[])) (sl (Nat.beq t2.1 3) (some ((.tup [(.sl 0 0 t2.2.ns8 0),(b true)]),[⟨73,4,t2.2.eh1,true,false,0⟩])) none))) none)) none)
noncomputable def Ma2 (x:List Pln) (y:V3) (z:Int):List Pln×Bool:=C9 (two (r1L tP) r1B) (Ma1 x y z)
noncomputable def Ma3 (x:List Pln) (y:V3) (z:Int):Bool:=okO (two (r1L tP) r1B) (Ma1 x y z)
noncomputable def Ab6:Sum:=Nc5 (fa0 tP) (B0 tV) cI (fun x y z=>.guard (Ma3 x y z) (.ret ((two (r1L tP) r1B).enc (Ma2 x y z),[])))
theorem Ub1:g8 prog G 76 Ab6:=Me8 (bd b76 Zc2) (two (r1L tP) r1B) (o:=Ma1) fun x y z=>sa8 (.s .p (.s .p (.s .p (.s (.s .p (.b (.u jb0.ls))) .p)))) [jb0.pr] (by kernel_rfl) (.cons Gc1 .nil) (by kernel_rfl)
noncomputable def Sd4:List (Nat×Sum):=[(76,Ab6)]
theorem Cd4:i7 prog G Sd4:=⟨Ub1,trivial⟩
noncomputable def jb1 (x:List Pln) (y:V3):Option (b7×List b8):=let t1:=(Ma2 (rt tP x) y 1);(sl (okE tP x) (sl (Ma3 (rt tP x) y 1) (some ((.tup [(eL tP t1.1),(b t1.2)]),[])) none) none)
noncomputable def Ab7 (x:List Pln) (y:V3):List Pln×Bool:=C9 (two (r1L tP) r1B) (jb1 x y)
noncomputable def Ab8 (x:List Pln) (y:V3):Bool:=okO (two (r1L tP) r1B) (jb1 x y)
noncomputable def Zc3:Sum:=Z9 (fa0 tP) (B0 tV) (fun x y=>.guard (Ab8 x y) (.ret ((two (r1L tP) r1B).enc (Ab7 x y),[])))
theorem Sd5:g8 prog G 20 Zc3:=Ia3 (bd b20 Cd4) (two (r1L tP) r1B) (o:=jb1) fun x y=>p5 (by kernel_rfl)
noncomputable def jd6:List (Nat×Sum):=[(76,Ab6)]
theorem Zc4:i7 prog G jd6:=⟨Ub1,trivial⟩
noncomputable def Ma4 (x:List Pln) (y:V3):Option (b7×List b8):=let t1:=(Ma2 (rt tP x) y (-1));(sl (okE tP x) (sl (Ma3 (rt tP x) y (-1)) (some ((.tup [(eL tP t1.1),(b t1.2)]),[])) none) none)
noncomputable def ab6 (x:List Pln) (y:V3):List Pln×Bool:=C9 (two (r1L tP) r1B) (Ma4 x y)
noncomputable def ab7 (x:List Pln) (y:V3):Bool:=okO (two (r1L tP) r1B) (Ma4 x y)
noncomputable def kc6:Sum:=Z9 (fa0 tP) (B0 tV) (fun x y=>.guard (ab7 x y) (.ret ((two (r1L tP) r1B).enc (ab6 x y),[])))
theorem jd7:g8 prog G 22 kc6:=Ia3 (bd b22 Zc4) (two (r1L tP) r1B) (o:=Ma4) fun x y=>p5 (by kernel_rfl)
structure Ke2 where
 d9:List V3
 c9:Int
 c7:Int
 d7:Int
structure Ke3 where
 is5:Int
structure bf7 where
 d9:List V3
 c9:Int
 c7:Int
 d7:Int
structure bf8 where
 is5:Int
structure Ge9 where
 d8:List Pln
 c9:Int
 c7:Int
 d7:Int
structure He0 where
 ph:Nat
 is6:Int
 ns5:Nat
 eh1:List (List b7)
structure He1 where
 ns5:Nat
 is7:Int
 is8:Int
 eh0:List (List b7)
structure He2 where
 ph:Nat
 is9:Int
structure He3 where
 is7:Int
structure He4 where
 ph:Nat
 ns5:Nat
 is8:Int
 eh0:List (List b7)
structure He5 where
structure He6 where
 ph:Nat
 is7:Int
 ns5:Nat
 eh0:List (List b7)
structure te5 where
 d9:List V3
 cf6:List Pln
structure te6 where
 ph:Nat
 is7:Int
 If1:List V3
structure bf9 where
 d9:List V3
 G4:List V3
 is7:Int
structure cf0 where
 ph:Nat
 is8:Int
 ns6:Nat
 eh0:List (List b7)
structure cf1 where
structure cf2 where
 ph:Nat
 d9:List V3
 G4:List V3
 is7:Int
 ns6:Nat
 eh0:List (List b7)
structure te7 where
 d9:List V3
 c9:Int
 c7:Int
 d7:Int
structure te8 where
 is6:Int
 is7:Int
noncomputable def Db0:List (Nat×Sum):=[]
theorem uc9:i7 prog G Db0:=trivial
structure ka9 where
 d9:List V3
 G4:List V3
structure H5 where
 is5:Int
noncomputable def kc7 (p:ka9) (s:H5):St:=⟨((eL tV p.d9)::((eL tV p.G4)::(ra 3 ((i s.is5)::(ra 20 []))))),[]⟩
noncomputable def da1 {α:Type} (k:H5→α) (e:Nat→α) (z:α) (p:ka9) (s:H5):α:=(sl (decide (s.is5 < (↑(List.length p.d9):Int))) (sl (inB s.is5 (List.length p.d9)) (sl (inB s.is5 (List.length p.G4)) (sl (!(((gL tV p.d9 s.is5.toNat).x==(gL tV p.G4 s.is5.toNat).x)&&(((gL tV p.d9 s.is5.toNat).y==(gL tV p.G4 s.is5.toNat).y)&&(((gL tV p.d9 s.is5.toNat).z==(gL tV p.G4 s.is5.toNat).z)&&true)))) (e 1) (k ⟨(W (s.is5+1))⟩)) z) z) (e 2))
noncomputable def ha4 (p:ka9) (s:H5):Stp H5:=da1 .next .exit .fail p s
noncomputable def Qa0:Lo ka9 H5:=⟨En Db0,0,pf0,[1,1,0,1,4,4],[0,1,5],.p,[⟨((.s (.c 3 (nL tV)))::((.s (.c 3 (nL tV)))::(ru2 3 ((.s (.o (.int .i64)))::(ru2 20 []))))),[],fun a H=>(⟨(rL tV (slT a 0)),(rL tV (slT a 1))⟩,⟨(toI (slT a 5))⟩)⟩],ha4,[(none,fun p s=>⟨[(b false)],[]⟩),(some 0,fun p s=>⟨((eL tV p.d9)::((eL tV p.G4)::(ra 3 ((i s.is5)::(ra 5 ((i s.is5)::((eL tV p.d9)::((i (↑(List.length p.d9):Int))::((b (decide (s.is5 < (↑(List.length p.d9):Int))))::(ra 11 [])))))))))),[]⟩)],kc7⟩
theorem kc8:Qa0.Ok:=Lo.ok [] (by kernel_rfl) .nil rfl (.cons (fun a H=>by kernel_rfl) .nil) fun p s=>(.of @da1 (fun F _ _ _ _ _=>by unfold da1;(repeat' apply k9 (f:=F))<;>rfl) (by kernel_rfl))
noncomputable def wa1 (x:List V3) (y:List V3):Option (b7×List b8):=let t1:=(lp (ha4 (⟨(rt tV x),(rt tV y)⟩:ka9)) (⟨0⟩:H5));(sl ((↑(List.length x):Int) != (↑(List.length y):Int)) (some ((b false),[])) (sl ((cnE tV x)&&((cnE tV y)&&true)) (sl (Nat.beq t1.1 1) (some ((b false),[])) (sl (Nat.beq t1.1 2) (some ((b true),[])) none)) none))
noncomputable def wa2 (x:List V3) (y:List V3):Bool:=C9 (one r1B) (wa1 x y)
noncomputable def wa3 (x:List V3) (y:List V3):Bool:=okO (one r1B) (wa1 x y)
noncomputable def Lb3:Sum:=Z9 (fa0 tV) (fa0 tV) (fun x y=>.guard (wa3 x y) (.ret ((one r1B).enc (wa2 x y),[])))
theorem Gc2:g8 prog G 30 Lb3:=Ia3 (bd b30 uc9) (one r1B) (o:=wa1) fun x y=>sa8 (.s .p (.s .p (.s (.s .p (.b (.u Qa0.ls))) .p))) [Qa0.pr] (by kernel_rfl) (.cons kc8 .nil) (by kernel_rfl)
structure Ke4 where
 d9:List V3
 c9:Int
 c7:Int
 d7:Int
structure Ke5 where
 ph:Nat
 is6:Int
 ns5:Nat
 eh1:List (List b7)
structure te9 where
 c9:Int
 c7:Int
 d7:Int
structure ue0 where
 ph:Nat
 is4:Int
 ns3:Nat
 eh1:List (List b7)
end Go.Ev.Ce
end
namespace Go.Ev
open Go Go.ChangeShapes Go.RowKit
structure Zc5 (w w':World):Prop where
 os:w'.os=w.os
 output:w'.output=w.output
 size:w.heap.size≤w'.heap.size
 block:∀ k,k < w.heap.size→w'.heap[k]?=w.heap[k]?
theorem Zc5.kept {w w':World} (h:Zc5 w w') (may:MemPlace→Prop):w.keptBut w' may:=by
 refine⟨h.os,h.output,fun i hi=>?_⟩
 rw[h.block i hi]
 cases w.heap[i]? with
 | none=>rfl
 | some o=>cases o<;>first | exact⟨rfl,rfl,rfl,fun _ _=>rfl⟩ | exact .inr ⟨rfl,rfl⟩ | rfl
theorem Zc5.frozen {w w':World} (h:Zc5 w w') (b off:Nat) (hb:b < w.heap.size):w'.frozen? ⟨b,off,none⟩=w.frozen? ⟨b,off,none⟩:=by
 simp only[World.frozen?,h.block b hb]
theorem Zc5.cell {w w':World} (h:Zc5 w w') (b off:Nat) (hb:b < w.heap.size):w'.cell? ⟨b,off,none⟩=w.cell? ⟨b,off,none⟩:=by
 simp only[World.cell?,h.block b hb]
theorem Zc5.same {w w':World} (h:Zc5 w w') (p:MemPlace) (hp:p.block < w.heap.size):w.sameAt w' p:=by
 cases p with
 | cell b off=>exact h.cell b off hp
 | map b=>exact h.block b hp
theorem Lb4 {α β:Type} {f:α→Option β}:∀ {l:List α} {r:List β},l.mapM f=some r→r.length=l.length∧∀ (j:Nat) y,r[j]?=some y→∃ x,l[j]?=some x∧f x=some y
 | [],r,h=>by
  have:r=[]:=by simpa using h.symm
  subst this;simp
 | x::l,r,h=>by
  rw[List.mapM_cons] at h
  obtain⟨y,h1,h2⟩:=Option.bind_eq_some_iff.1 h
  obtain⟨r',h3,h4⟩:=Option.bind_eq_some_iff.1 h2
  have:r=y::r':=by simpa using h4.symm
  subst this
  obtain⟨g1,g2⟩:=Lb4 h3
  refine⟨by simp[g1],fun j z hz=>?_⟩
  cases j with
  | zero=>simp at hz;subst hz;exact⟨x,rfl,h1⟩
  | succ j=>simpa using g2 j z (by simpa using hz)
section
variable {D:Type} {enc:TypeId×Value→D} {P:Program}
theorem Ub2 {T : TypeId → Prop} (K : Kids P T) (hsz : ∀ {t e : TypeId}, T t → P.underlying t = some (.slice e) → 0 < P.cellsOf e) {w w' : World} {sp : Nat → Bool} (hs : Zc5 w w') :
  ∀ {ts:List TypeId} {vs:List Value} {ds:List (DataW D)} {ps:List MemPlace},(∀ t∈ts,T t)→DataW.TrodAll enc P w 0 (fun _=>true) true ts vs ds ps→(∀ p∈ps,p.block < w.heap.size)→(∀ p∈ps,sp p.block=true)→DataW.TrodAll enc P w' 0 sp true ts vs ds ps
 | [],[],[],_,_,h,_,_=>h
 | t::ts,v::vs,d::ds,ps,ht,h,hlt,hsp=>by
  obtain⟨p,q,⟨fuel,h1⟩,h2,rfl⟩:=h
  refine⟨p,q,⟨fuel,?_⟩,Ub2 K hsz hs (fun t h=>ht t (by simp[h])) h2 (fun x hx=>hlt x (by simp[hx])) (fun x hx=>hsp x (by simp[hx])),rfl⟩
  exact DataW.trod_stays K hsz (fun h=>by cases h) (ht t (by simp)) h1 (fun x hx=>hs.same x (hlt x (by simp at hx ⊢;exact .inl hx))) (fun x hx=>hsp x (by simp at hx ⊢;exact .inl hx))
 | [],_::_,_,_,_,h,_,_=>h.elim
 | [],[],_::_,_,_,h,_,_=>h.elim
 | _::_,[],_,_,_,h,_,_=>h.elim
 | _::_,_::_,[],_,_,h,_,_=>h.elim
theorem He7 {T : TypeId → Prop} (K : Kids P T) (hsz : ∀ {t e : TypeId}, T t → P.underlying t = some (.slice e) → 0 < P.cellsOf e) {f : Func} {s : ChangeSpec} {apart fresh handsOn again : Bool} {W W' : World} {args : Array Value} {ds gs : List (DataW D)} {before : List MemPlace} {tb : TypeId}
  (hT:∀ t∈f.params.toList,T t) (hW:DataW.Whole enc P f.params.toList s.vars apart W args.toList ds gs before) (hv:s.vars=[]) (hr:f.resultTypes=#[tb]) (hb:P.underlying tb=some .bool)
  (h1:(s.fn D ds).results=[.lit (.bool true)]) (h2:(s.fn D ds).args=ds) (h3:(s.fn D ds).vars=[]) (hs:Zc5 W W') :
  s.post enc P f apart fresh handsOn again W args (.bool true) W':=by
 have hlt:=hW.lt
 obtain⟨pa,pv,hA,hV,hps,hz,hn⟩:=id hW
 rw[hv] at hV
 have hpv:gs=[]∧pv=[]:=by
  cases gs with
  | nil=>exact⟨rfl,hV⟩
  | cons=>exact hV.elim
 obtain⟨rfl,rfl⟩:=hpv
 rw[← List.append_nil ds] at h1 h3
 have h2:(s.fn D (ds++[])).args=ds:=by rw[List.append_nil];exact h2
 have hpa:before=pa:=by rw[hps];simp
 subst hpa
 have hagain:∀ sp:Nat→Bool,(∀ p∈before,sp p.block=true)→DataW.TrodAll enc P W' 0 sp true f.params.toList args.toList ds before:=fun sp h=>Ub2 K hsz hs hT hA hlt h
 have hres:∀ (b:Nat) (sp:Nat→Bool) (hd:Bool),DataW.TrodAll enc P W' b sp hd f.resultTypes.toList ((Value.bool true).resultList f.resultTypes.size) [.lit (.bool true)] []:=fun b sp hd=>by
  rw[hr]
  exact⟨[],[],⟨1,by simp[DataW.trod,hb,Value.cells,Value.resultList]⟩,rfl,rfl⟩
 have hvars:∀ sp:Nat→Bool,DataW.TrodVars enc P W' sp s.vars ([]:List (DataW D)) []:=fun sp=>by rw[hv];exact rfl
 have hok:∀ (j:Nat) (t:TypeId) (r:Value),f.resultTypes[j]?=some t→((Value.bool true).resultList f.resultTypes.size)[j]?=some r→Value.okWide P W' .any 0 t r:=by
  rw[hr]
  intro j t r h4 h5
  cases j with
  | zero =>
   simp at h4
   subst h4
   have:r=.bool true:=by simpa [Value.resultList] using h5.symm
   subst this
   exact okWide_bool_mk hb _
  | succ j=>simp at h4
 have hag:DataW.TrodAll enc P W' 0 (fun _=>true) true (f.resultTypes.toList++f.params.toList) ((Value.bool true).resultList f.resultTypes.size++args.toList) (.lit (.bool true)::ds) before:=by
  have:=hagain (fun _=>true) (fun _ _=>rfl)
  rw[hr]
  exact⟨[],before,⟨1,by simp[DataW.trod,hb,Value.cells,Value.resultList]⟩,this,rfl⟩
 refine⟨ds,[],before,[],before,[],hW,?_,?_,?_,hs.kept _,fun _=>?_⟩
 ·rw[h1];exact hres _ _ _
 ·rw[h2];exact hagain _ fun p hp=>by simpa using hlt p hp
 ·rw[h3];exact hvars _
 ·refine⟨hok,.lit (.bool true)::ds,[],before,⟨before,[],hag,hvars _,by simp,?_,?_⟩,?_⟩
  ·intro b off hp
   rw[hs.frozen b off (hlt _ hp)]
   exact hz b off (by simpa using hp)
  ·intro ha;simpa using hn ha
  ·intro p hp _;exact hp
variable {w:World} {base:Nat} {spare:Nat→Bool} {held:Bool}
def jd8 (w:World):Fz:=fun b o=>(w.cell? ⟨b,o,none⟩).isSome
theorem lf7 {fuel : Nat} {t : TypeId} {k : IntKind} {cs : List Value} {x : DataW D × List MemPlace} (ht : P.underlying t = some (.int k)) (h : DataW.trod enc P w base spare held fuel t cs = some x) :
  ∃ n,cs=[.int k n]∧(Lit.int k n).wf=true∧x.1=.lit (.int k n):=by
 cases fuel with
 | zero=>cases h
 | succ fuel =>
  match cs,h with
  | [],h=>simp[DataW.trod,ht] at h
  | [v],h =>
   cases v with
   | int k' n =>
    simp only[DataW.trod,ht] at h
    split at h
    ·rename_i hk
     obtain⟨rfl,hw⟩:=hk
     injection h with h;subst h
     exact⟨n,rfl,hw,rfl⟩
    ·cases h
   | _=>simp[DataW.trod,ht] at h
  | a::b::r,h=>simp[DataW.trod,ht] at h
theorem Ve8 {fuel : Nat} {t : TypeId} {cs : List Value} {x : DataW D × List MemPlace} (ht : P.underlying t = some .bool) (h : DataW.trod enc P w base spare held fuel t cs = some x) :
  ∃ n,cs=[.bool n]∧x.1=.lit (.bool n):=by
 cases fuel with
 | zero=>cases h
 | succ fuel =>
  match cs,h with
  | [],h=>simp[DataW.trod,ht] at h
  | [v],h =>
   cases v with
   | bool n =>
    simp only[DataW.trod,ht] at h
    injection h with h;subst h
    exact⟨n,rfl,rfl⟩
   | _=>simp[DataW.trod,ht] at h
  | a::b::r,h=>simp[DataW.trod,ht] at h
theorem He8 {fuel : Nat} {t e : TypeId} {n : Nat} {cs : List Value} {x : DataW D × List MemPlace} (ht : P.underlying t = some (.array n e)) (h : DataW.trod enc P w base spare held fuel t cs = some x) :
  cs.length=P.cellsOf t∧∃ (fuel':Nat) (xs:List (DataW D×List MemPlace)),xs.length=n∧x.1=.agg (xs.map (·.1))∧∀ (j:Nat) y,xs[j]?=some y→DataW.trod enc P w base spare held fuel' e ((cs.drop (j*P.cellsOf e)).take (P.cellsOf e))=some y:=by
 cases fuel with
 | zero=>cases h
 | succ fuel =>
  unfold DataW.trod at h
  rw[ht] at h
  simp only at h
  split at h
  ·rename_i hl
   obtain⟨xs,h1,h2⟩:=Option.map_eq_some_iff.1 h
   have hx:=Lb4 h1
   exact⟨hl,fuel,xs,by simpa using hx.1,by rw[← h2],fun j y hy=>by
    obtain⟨a,ha,hb⟩:=hx.2 j y hy
    have:j < n:=by
     have:=(List.getElem?_eq_some_iff.1 hy).1
     rw[hx.1] at this;simpa using this
    rw[List.getElem?_range this] at ha
    injection ha with ha
    subst ha
    exact hb⟩
  ·cases h
theorem se0 {fuel : Nat} {t : TypeId} {fs : Array Field} {cs : List Value} {x : DataW D × List MemPlace} (ht : P.underlying t = some (.struct fs)) (h : DataW.trod enc P w base spare held fuel t cs = some x) :
  cs.length=P.cellsOf t∧∃ (fuel':Nat) (xs:List (DataW D×List MemPlace)),xs.length=fs.size∧x.1=.agg (xs.map (·.1))∧∀ (j:Nat) f,fs[j]?=some f→∃ y,xs[j]?=some y∧DataW.trod enc P w base spare held fuel' f.type ((cs.drop f.offset).take (P.cellsOf f.type))=some y:=by
 cases fuel with
 | zero=>cases h
 | succ fuel =>
  unfold DataW.trod at h
  rw[ht] at h
  simp only at h
  split at h
  ·rename_i hl
   obtain⟨xs,h1,h2⟩:=Option.map_eq_some_iff.1 h
   have hx:=Lb4 h1
   refine⟨hl,fuel,xs,by simpa using hx.1,by rw[← h2],fun j f hf=>?_⟩
   have hj:j < xs.length:=by
    rw[hx.1];simpa using (Array.getElem?_eq_some_iff.1 hf).1
   obtain⟨a,ha,hb⟩:=hx.2 j _ (List.getElem?_eq_getElem hj)
   have:a=f:=by
    have:fs.toList[j]?=some f:=by simpa using hf
    exact Option.some.inj (ha.symm.trans this)
   subst this
   exact⟨_,List.getElem?_eq_getElem hj,hb⟩
  ·cases h
theorem He9 {fuel : Nat} {t e : TypeId} {cs : List Value} {x : DataW D × List MemPlace} (ht : P.underlying t = some (.slice e)) (h : DataW.trod enc P w base spare held fuel t cs = some x) :
  cs=[.slice none 0 0]∨∃ (a:Addr) (n cap fuel':Nat),cs=[.slice (some a) n cap]∧n≤cap∧cap≤maxLen∧∀ j,j < n→∃ row y,w.cells? base (a.add (j*P.cellsOf e)) (P.cellsOf e)=some row∧DataW.trod enc P w base spare held fuel' e row=some y:=by
 cases fuel with
 | zero=>cases h
 | succ fuel =>
  match cs,h with
  | [],h=>simp[DataW.trod,ht] at h
  | [v],h =>
   cases v with
   | slice a len cap =>
    cases a with
    | none =>
     simp only[DataW.trod,ht] at h
     split at h<;>first | (rename_i e1;cases e1;done) | skip
     all_goals first | exact .inl rfl | (simp_all;done) | skip
    | some a =>
     refine .inr ?_
     simp only[DataW.trod,ht] at h
     split at h
     ·rename_i hc
      obtain⟨elems,h1,h2⟩:=Option.bind_eq_some_iff.1 h
      have hx:=Lb4 h1
      refine⟨a,len,cap,fuel,rfl,hc.2.1,hc.2.2,fun j hj=>?_⟩
      have hj':j < elems.length:=by rw[hx.1];simpa using hj
      obtain⟨i,hi,hb⟩:=hx.2 j _ (List.getElem?_eq_getElem hj')
      rw[List.getElem?_range hj] at hi
      injection hi with hi
      subst hi
      obtain⟨row,r1,r2⟩:=Option.bind_eq_some_iff.1 hb
      exact⟨row,_,r1,r2⟩
     ·cases h
   | _=>simp[DataW.trod,ht] at h
  | a::b::r,h=>simp[DataW.trod,ht] at h
theorem je8:∀ (d:Nat) (t:TypeId) (l:List (Nat×CK)),U2 P d t=some l→∀ (fuel:Nat) (cs:List Value) (x:DataW D×List MemPlace),DataW.trod enc P w base spare held fuel t cs=some x→∀ p∈l,xa0 cs.toArray p
 | 0,_,_,h,_,_,_,_=>by cases h
 | d+1,t,l,h,fuel,cs,x,hx=>by
  have hpart:∀ {off n:Nat} {e:TypeId} {l':List (Nat×CK)} {fuel':Nat} {y:DataW D×List MemPlace},Eb6 off n (U2 P d e)=some l'→DataW.trod enc P w base spare held fuel' e ((cs.drop off).take n)=some y→∀ p∈l',xa0 cs.toArray p:=fun {off n e l' fuel' y} h1 h2 p hp=>by
   obtain⟨l2,g1,g2,rfl⟩:=Fa6 h1
   obtain⟨q,hq,rfl⟩:=List.mem_map.1 hp
   have:=je8 d e l2 g1 fuel' _ y h2 q hq
   have hlt:=g2 q hq
   unfold xa0 at this ⊢
   simp only[List.getElem?_toArray,List.getElem?_take,hlt,if_true,List.getElem?_drop] at this ⊢
   exact this
  have hcat:∀ {α:Type} (f:α→Option (List (Nat×CK))) (xs:List α) (l:List (Nat×CK)),ha7 (xs.map f)=some l→∀ p∈l,∃ a∈xs,∃ l',f a=some l'∧p∈l':=fun {α} f xs=>by
   induction xs with
   | nil=>intro l h;simp only[List.map_nil,ha7] at h;injection h with h;subst h;simp
   | cons a xs ih =>
    intro l h p hp
    simp only[List.map_cons,ha7] at h
    cases h1:f a with
    | none=>simp[h1] at h
    | some l1 =>
    cases h2:ha7 (xs.map f) with
    | none=>simp[h1,h2] at h
    | some l2 =>
    simp only[h1,h2] at h
    injection h with h;subst h
    rcases List.mem_append.1 hp with hp | hp
    ·exact⟨a,by simp,l1,h1,hp⟩
    ·obtain⟨b,hb,r⟩:=ih l2 h2 p hp
     exact⟨b,by simp[hb],r⟩
  unfold U2 at h
  cases hu:P.underlying t with
  | none=>simp[hu] at h
  | some u =>
  cases u with
  | int k =>
   simp only[hu] at h;injection h with h;subst h
   obtain⟨n,rfl,_,_⟩:=lf7 hu hx
   intro p hp;simp at hp;subst hp;exact⟨n,rfl⟩
  | bool =>
   simp only[hu] at h;injection h with h;subst h
   obtain⟨n,rfl,_⟩:=Ve8 hu hx
   intro p hp;simp at hp;subst hp;exact⟨n,rfl⟩
  | struct fs =>
   simp only[hu] at h
   split at h
   ·cases h
   obtain⟨_,fuel',xs,_,_,hxs⟩:=se0 hu hx
   intro p hp
   obtain⟨f,hf,l',h1,h2⟩:=hcat _ _ _ h p hp
   split at h1
   ·cases h1
   obtain⟨j,hj⟩:=List.getElem?_of_mem hf
   obtain⟨y,_,hy⟩:=hxs j f (by simpa using hj)
   have hc:P.cellsOf f.type=szT P f.type:=by
    unfold Program.cellsOf szT
    cases P.info? f.type<;>rfl
   rw[hc] at hy
   exact hpart h1 hy p h2
  | array n e =>
   simp only[hu] at h
   split at h
   case isFalse=>cases h
   obtain⟨_,fuel',xs,hn,_,hxs⟩:=He8 hu hx
   intro p hp
   obtain⟨j,hj,l',h1,h2⟩:=hcat _ _ _ h p hp
   have hj':j < xs.length:=by rw[hn];simpa using hj
   have hy:=hxs j _ (List.getElem?_eq_getElem hj')
   have hc:P.cellsOf e=szT P e:=by
    unfold Program.cellsOf szT
    cases P.info? e<;>rfl
   rw[hc] at hy
   exact hpart h1 hy p h2
  | _=>simp[hu] at h
def ea0 (k:IntKind) (es:Nat) (g:Nat→Int):List b7:=(List.range es).map fun c=>.v (.int k (g c))
def ya8 (k:IntKind) (es:Nat):List (Nat×CK):=(List.range es).map fun c=>(c,.int k)
theorem je9 {d : Nat} {t : TypeId} {k : IntKind} {es : Nat} (hf : U2 P d t = some (ya8 k es)) {fuel : Nat} {cs : List Value} {x : DataW D × List MemPlace} (hx : DataW.trod enc P w base spare held fuel t cs = some x) (hl : cs.length = es) :
  ∃ g:Nat→Int,∀ c,c < es→cs[c]?=some (.int k (g c)):=by
 have h:=je8 d t _ hf fuel cs x hx
 have h':∀ c,∃ n:Int,c < es→cs[c]?=some (.int k n):=fun c=>by
  by_cases hc:c < es
  ·have:=h (c,.int k) (List.mem_map.2 ⟨c,by simpa using hc,rfl⟩)
   obtain⟨n,hn⟩:=this
   exact⟨n,fun _=>by simpa using hn⟩
  ·exact⟨0,fun h=>absurd h hc⟩
 exact⟨fun c=>Classical.choose (h' c),fun c hc=>Classical.choose_spec (h' c) hc⟩
theorem Ie0 {F:Fz} {w:World} (k:IntKind) (n:Int):X8 F w (.v (.int k n)) (.int k n):=.v _ rfl
theorem Zc6 {k:IntKind} {es:Nat} {g:Nat→Int} {c:Nat} {x:b7} (h:(ea0 k es g)[c]?=some x):c < es∧x=.v (.int k (g c)):=by
 unfold ea0 at h
 obtain⟨h1,h2⟩:=Ha9 h
 exact⟨h1,h2.symm⟩
theorem jd9 {t e : TypeId} {k : IntKind} {es d : Nat} (ht : P.underlying t = some (.slice e)) (hf : U2 P d e = some (ya8 k es)) (hes : P.cellsOf e = es) (h0 : 0 < es) {fuel : Nat} {cs : List Value} {x : DataW D × List MemPlace} (hx : DataW.trod enc P w 0 spare held fuel t cs = some x) :
  ∃ (v:Value) (n:Nat) (g:Nat→Nat→Int),cs=[v]∧n≤maxLen∧X8 (jd8 w) w (.tree es n fun j=>ea0 k es (g j)) v:=by
 rcases He9 ht hx with rfl | ⟨a,n,cap,fuel',rfl,hn,hc,hel⟩
 ·exact⟨_,0,fun _ _=>0,rfl,Nat.zero_le _,.nil _ _⟩
 ·rw[hes] at hel
  have hcell:∀ j,j < n→∃ g:Nat→Int,∀ c,c < es→w.cell? ((a.add (j*es)).add c)=some (.int k (g c)):=fun j hj=>by
   obtain⟨row,y,h1,h2⟩:=hel j hj
   unfold World.cells? at h1
   split at h1
   ·obtain⟨l1,l2⟩:=Lb4 h1
    have hl:row.length=es:=by simpa using l1
    obtain⟨g,hg⟩:=je9 hf h2 hl
    refine⟨g,fun c hc=>?_⟩
    obtain⟨i,hi,hi2⟩:=l2 c _ (hg c hc)
    rw[List.getElem?_range hc] at hi
    injection hi with hi
    subst hi
    exact hi2
   ·cases h1
  have hg:∀ j,∃ g:Nat→Int,j < n→∀ c,c < es→w.cell? ((a.add (j*es)).add c)=some (.int k (g c)):=fun j=>by
   by_cases hj:j < n
   ·obtain⟨g,hg⟩:=hcell j hj
    exact⟨g,fun _=>hg⟩
   ·exact⟨fun _=>0,fun h=>absurd h hj⟩
  obtain⟨g,hg⟩:=Classical.axiomOfChoice hg
  have hspot:0 < n→a.spot=none:=fun hn=>by
   have:=hg 0 hn 0 h0
   simpa [Addr.add] using World.cell?_spot this
  have hw:∀ j c,j < n→c < es→w.cell? ⟨a.block,a.off+(j*es+c),none⟩=some (.int k (g j c)):=fun j c hj hc=>by
   have:=hg j hj c hc
   rw[U3 (hspot (by omega)),U3 rfl] at this
   simpa [Nat.add_assoc] using this
  refine⟨_,n,g,rfl,Nat.le_trans hn hc,.tree es n _ a cap (fun j c=>.int k (g j c)) hspot hn (fun i hi=>by simp[ea0]) (fun i c hi hc=>?_) hw fun i c hi hc=>?_⟩
  ·unfold jd8
   rw[hw i c hi hc]
   rfl
  ·have:=(Zc6 (List.getElem?_eq_getElem hc)).2
   rw[this]
   exact Ie0 _ _
theorem se1 (w:World):s8 (fun k=>w.heap.size≤k) (fun _=>⟨0,0,0⟩) [] (jd8 w) w :=
 ⟨fun id b h=>by simp at h,fun id id' b b' h=>by simp at h,fun _ _ h=>h,fun _ h=>h⟩
theorem se2 {G : Nat → List Value} {f : FuncId} {S : Sum} (hS : g8 P G f S) {aargs : List b7} {args : List Value} (hrun : ∃ out, (S aargs []).run = some (b true, out)) (hl : aargs.length = args.length)
  (ha:∀ (i:Nat) x x',aargs[i]?=some x→args[i]?=some x'→Z4 (fun _=>⟨0,0,0⟩) [] (jd8 w) w x x') (hG:∀ g (c:Nat) x,(G g)[c]?=some x→x.oneCell'=true∧w.cell? ⟨g,c,none⟩=some x) :
  Calls P f args.toArray w fun e w'=>e=.returned (.bool true)∧Zc5 w w':=by
 obtain⟨out,hrun⟩:=hrun
 obtain⟨_,hc⟩:=hS aargs [] (b true) out hrun (fun k=>w.heap.size≤k) (fun _=>⟨0,0,0⟩) (jd8 w) w args (se1 w) hl (fun i x x' h1 h2=>.val (ha i x x' h1 h2)) (fun g c x hx=>by
  obtain⟨h1,h2⟩:=hG g c x hx
  exact⟨h1,by unfold jd8;rw[h2];rfl,h2⟩)
 refine hc.mono fun e w' ⟨r',he,ρ',F',hA,hH,hW⟩=>?_
 have:=aa8 hW
 subst this
 exact⟨he,hA.ext.os,hA.ext.output,hA.ext.size,fun k hk=>hA.ext.block k hk (by omega)⟩
theorem Cd5 {ρ : Rho} {H : List b8} {F : Fz} {t : TypeId} {k : IntKind} {es d : Nat} {v : Value} {dd : DataW D} {pp : List MemPlace} {bs : Nat} {r : Reach} (hag : agT P t = true) (hf : U2 P d t = some (ya8 k es)) (hes : P.cellsOf t = es)
  (hok:Value.okWide P w r bs t v) (h:DataW.Trod enc P w base spare held t v dd pp):∃ g:Nat→Int,Z4 ρ H F w (.agg (ea0 k es g)) v:=by
 have hv:∃ cs:Array Value,v=.agg cs∧cs.size=P.cellsOf t:=by
  unfold agT at hag
  unfold Value.okWide at hok
  split at hag
  ·rename_i fs hu;rw[hu] at hok;obtain⟨cs,h1,h2,_⟩:=hok;exact⟨cs,h1,h2⟩
  ·rename_i n e hu;rw[hu] at hok;obtain⟨cs,h1,h2,_⟩:=hok;exact⟨cs,h1,h2⟩
  ·cases hag
 obtain⟨cs,rfl,hsz⟩:=hv
 obtain⟨fuel,hx⟩:=h
 have hx:DataW.trod enc P w base spare held fuel t cs.toList=some (dd,pp):=hx
 obtain⟨g,hg⟩:=je9 hf hx (by simpa [hes] using hsz)
 refine⟨g,.agg _ _ (by simp[ea0,hsz,hes]) fun c x x' h1 h2=>?_⟩
 obtain⟨hc,rfl⟩:=Zc6 h1
 have:=hg c hc
 have h3:some x'=some (.int k (g c)):=by rw[← h2];simpa using this
 injection h3 with h3
 subst h3
 exact .v _
theorem rd6 {ρ : Rho} {H : List b8} {t e : TypeId} {k : IntKind} {es d : Nat} {v : Value} {dd : DataW D} {pp : List MemPlace} {bs : Nat} {r : Reach} (ht : P.underlying t = some (.slice e)) (hf : U2 P d e = some (ya8 k es)) (hes : P.cellsOf e = es) (h0 : 0 < es)
  (hok:Value.okWide P w r bs t v) (h:DataW.Trod enc P w 0 spare held t v dd pp):∃ (n:Nat) (g:Nat→Nat→Int),n≤maxLen∧Z4 ρ H (jd8 w) w (.tree es n fun j=>ea0 k es (g j)) v:=by
 obtain⟨fuel,hx⟩:=h
 obtain⟨v',n,g,h1,h2,h3⟩:=jd9 ht hf hes h0 hx
 have hv:v.cells=#[v]:=by
  unfold Value.okWide at hok
  rw[ht] at hok
  cases v with
  | agg cs=>exfalso;simp[Cell.okWide,Cell.ok,ht] at hok
  | _=>rfl
 rw[hv] at h1
 have:v=v':=by simpa using h1
 subst this
 exact⟨n,g,h2,.cell (.mem h3)⟩
end
end Go.Ev
namespace Go.Ev.L
open Go Go.Ev
theorem Ie1 {α : Type} (t : Ty α) (n : Nat) (g : Nat → Nat → Int) (f : (Nat → Int) → α) (h : ∀ j, ea0 .i64 t.es (g j) = t.row (f (g j))) :
  ∃ l,(fa0 t).dec (.tree t.es n fun j=>ea0 .i64 t.es (g j))=some l∧(fa0 t).grd (.tree t.es n fun j=>ea0 .i64 t.es (g j))=true:=by
 refine⟨lsL t n fun j=>ea0 .i64 t.es (g j),?_,Va2 t (f:=fun k=>f (g k)) fun k _=>h k⟩
 show Bool.rec (motive:=fun _=>Option (List α)) none (some (lsL t n fun j=>ea0 .i64 t.es (g j))) (Nat.beq t.es t.es)=_
 rw[Nat.beq_refl]
end Go.Ev.L
namespace Go.Ev.L
open Go Go.Ev
def Rdg {α:Type} (c:Cod α) (x:b7) (a:α):Prop:=c.dec x=some a∧c.grd x=true
theorem Sd6 {α:Type} (t:Ty α) (n:Nat) (g:Nat→Nat→Int) (f:(Nat→Int)→α) (h:∀ j,ea0 .i64 t.es (g j)=t.row (f (g j))):∃ l,Rdg (fa0 t) (.tree t.es n fun j=>ea0 .i64 t.es (g j)) l:=Ie1 t n g f h
theorem Ie2 (n:Nat) (g:Nat→Nat→Int):∃ l,Rdg (fa0 tI) (.tree 1 n fun j=>ea0 .i64 1 (g j)) l:=Sd6 tI n g (fun g=>g 0) fun _=>rfl
theorem ke0 {α:Type} (t:Ty α) {cs:List b7} (h:t.ok cs=true):∃ a,Rdg (B0 t) (.agg cs) a:=⟨t.rd cs,by
 show Bool.rec (motive:=fun _=>Option α) none (some (t.rd cs)) (t.ok cs)=_
 rw[h],rfl⟩
section
variable {α β γ δ ε:Type} {c:Cod α} {d:Cod β} {e:Cod γ} {f:Cod δ} {c5:Cod ε} {x y z w v:b7} {a:α} {b':β} {g:γ} {j:δ} {m:ε} {r:b7×List b8}
theorem Gf7 {k:α→β→γ→δ→ε→DT (b7×List b8)} (h1:Rdg c x a) (h2:Rdg d y b') (h3:Rdg e z g) (h4:Rdg f w j) (h5:Rdg c5 v m) (h:(k a b' g j m).run=some r):(Id1 c d e f c5 k [x,y,z,w,v] []).run=some r:=by
 unfold Id1
 simp only[h1.1,h1.2,h2.1,h2.2,h3.1,h3.2,h4.1,h4.2,h5.1,h5.2]
 exact h
end
theorem lf8 {g p:Bool} (hg:g=true) (hp:p=true):(DT.guard g (.ret ((one r1B).enc p,([]:List b8)))).run=some (b true,([]:List b8)):=by subst hg;subst hp;rfl
end Go.Ev.L
namespace Go.Ev.Ce
open Go Go.Ev Go.Ev.L Go.Proofs
structure B3 where
 b0:Int
 b1:Int
 b2:Int
def okB:List b7→Bool
 | [.v (.int .u8 _),.v (.int .u8 _),.v (.int .u8 _)]=>true
 | _=>false
def rdB:List b7→B3
 | [.v (.int .u8 x),.v (.int .u8 y),.v (.int .u8 z)]=>⟨x,y,z⟩
 | _=>⟨0,0,0⟩
noncomputable def tW:Ty B3 where
 es:=3
 row x:=[.v (.int .u8 x.b0),.v (.int .u8 x.b1),.v (.int .u8 x.b2)]
 rd:=rdB
 ok:=okB
 cks:=List.replicate 3 (.int .u8)
 d:=⟨0,0,0⟩
 h0 _:=rfl
 h1 _:=rfl
 h2 _:=rfl
 h3 r h:=by
  unfold okB at h
  split at h
  ·exact .refl _
  ·cases h
 h4 _:=rfl
 h5 _:=rfl
structure B2 where
 d0:Int
 d1:Int
structure LL where
 u:List Int
 v:List Int
end Go.Ev.Ce
section
namespace Go.Ev.Ce
open Go Go.Ev Go.Ev.L Go.Proofs
set_option maxRecDepth 100000
noncomputable def Zc7:List (Nat×Sum):=[]
theorem Gc3:i7 prog G Zc7:=trivial
noncomputable def qb8  : Option (b7×List b8):=(some ((.sl 0 0 4 0),[⟨27,3,[[(i 0),(i 0),(i 0)],[(i 1),(i 0),(i 0)],[(i 0),(i 1),(i 0)],[(i 0),(i 0),(i 1)]],true,false,0⟩]))
noncomputable def Sa2  : List V3:=C9 (one (r1L tV)) qb8
noncomputable def qa8  : Bool:=okO (one (r1L tV)) qb8
noncomputable def Ub3:Sum:=Hd7  (.guard qa8 (.ret ((one (r1L tV)).enc Sa2,[])))
theorem Zc8:g8 prog G 67 Ub3:=nf9 (bd b67 Gc3) (one (r1L tV)) (o:=qb8) (p5 (by kernel_rfl))
noncomputable def Zc9:List (Nat×Sum):=[]
theorem Gc4:i7 prog G Zc9:=trivial
noncomputable def Ub4 (x:B3):V3:=(⟨(W (Int.tmod x.b0 4)),(W (Int.tmod x.b1 4)),(W (Int.tmod x.b2 4))⟩:V3)
noncomputable def Ub5:Sum:=Q5 (B0 tW) (fun x=>.ret ((one r1V).enc (Ub4 x),[]))
theorem ad1:g8 prog G 18 Ub5:=kb8 (bd b18 Gc4) fun x=>p5 (by kernel_rfl)
structure ue1 where
 Na0:List Pln
 is8:Int
 c9:Int
 c7:Int
 d7:Int
structure ue2 where
 is9:Int
noncomputable def Gc5:List (Nat×Sum):=[(19,Yb7),(21,Ab2),(23,Yb0),(67,Ub3),(28,rd5),(30,Lb3),(31,Tb9)]
theorem vc0:i7 prog G Gc5:=⟨yc3,Tb6,xc9,Zc8,ce4,Gc2,Zc0,trivial⟩
noncomputable def wa4  : Option (b7×List b8):=let t1:=(Fa2 [(⟨(⟨1,1,1⟩:V3),3⟩:Pln),(⟨(⟨(-1),0,0⟩:V3),0⟩:Pln)] (⟨1,0,2⟩:V3));let t2:=(ma3 [(⟨(⟨1,1,1⟩:V3),3⟩:Pln),(⟨(⟨(-1),0,0⟩:V3),0⟩:Pln)] (⟨1,0,2⟩:V3));let t3:=(ia1 (rt tP t1.1) [(⟨(⟨1,1,1⟩:V3),6⟩:Pln),(⟨(⟨(-1),0,0⟩:V3),1⟩:Pln)]);let t4:=(ia1 (rt tP t2.1) [(⟨(⟨1,1,1⟩:V3),0⟩:Pln),(⟨(⟨(-1),0,0⟩:V3),(-1)⟩:Pln)]);let t5:=(Fa2 [(⟨(⟨1,1,1⟩:V3),3⟩:Pln),(⟨(⟨(-1),0,0⟩:V3),0⟩:Pln)] (⟨13,0,0⟩:V3));let t6:=(ma3 [(⟨(⟨1,1,1⟩:V3),3⟩:Pln),(⟨(⟨(-1),0,0⟩:V3),0⟩:Pln)] (⟨0,(-1),0⟩:V3));let t7:=(Fa2 [(⟨(⟨1,0,0⟩:V3),2097152⟩:Pln)] (⟨1,0,0⟩:V3));let t8:=Sa2;let t9:=(bb5 (rt tV t8) [(⟨0,0,0⟩:V3),(⟨2,0,0⟩:V3)]);let t10:=(wa2 (rt tV t9.1) [(⟨0,0,0⟩:V3),(⟨0,0,1⟩:V3),(⟨0,1,0⟩:V3),(⟨2,0,1⟩:V3),(⟨2,1,0⟩:V3),(⟨3,0,0⟩:V3)]);let t11:=(bb5 (rt tV t8) []);let t12:=(bb5 (rt tV t8) [(⟨24,0,0⟩:V3)]);let t13:=(Ca3 (rt tV t8) (⟨3,(-1),2⟩:V3));let t14:=(Ca3 [] (⟨3,0,0⟩:V3));(sl (Fa3 [(⟨(⟨1,1,1⟩:V3),3⟩:Pln),(⟨(⟨(-1),0,0⟩:V3),0⟩:Pln)] (⟨1,0,2⟩:V3)) (sl (ma4 [(⟨(⟨1,1,1⟩:V3),3⟩:Pln),(⟨(⟨(-1),0,0⟩:V3),0⟩:Pln)] (⟨1,0,2⟩:V3)) (sl (!t1.2) (some ((b false),[])) (sl (!t2.2) (some ((b false),[])) (sl (okE tP t1.1) (sl (ia2 (rt tP t1.1) [(⟨(⟨1,1,1⟩:V3),6⟩:Pln),(⟨(⟨(-1),0,0⟩:V3),1⟩:Pln)]) (sl (!t3) (some ((b false),[])) (sl (okE tP t2.1) (sl (ia2 (rt tP t2.1) [(⟨(⟨1,1,1⟩:V3),0⟩:Pln),(⟨(⟨(-1),0,0⟩:V3),(-1)⟩:Pln)]) (sl (!t4) (some ((b false),[])) (sl (Fa3 [(⟨(⟨1,1,1⟩:V3),3⟩:Pln),(⟨(⟨(-1),0,0⟩:V3),0⟩:Pln)] (⟨13,0,0⟩:V3)) (sl (ma4 [(⟨(⟨1,1,1⟩:V3),3⟩:Pln),(⟨(⟨(-1),0,0⟩:V3),0⟩:Pln)] (⟨0,(-1),0⟩:V3)) (sl (Fa3 [(⟨(⟨1,0,0⟩:V3),2097152⟩:Pln)] (⟨1,0,0⟩:V3)) (sl qa8 (sl (okE tV t8) (sl (bb6 (rt tV t8) [(⟨0,0,0⟩:V3),(⟨2,0,0⟩:V3)]) (sl t5.2 (some ((b false),[])) (sl t6.2 (some ((b false),[])) (sl t7.2 (some ((b false),[])) (sl (t9.2 != 0) (some ((b false),[])) (sl (okE tV t9.1) (sl (wa3 (rt tV t9.1) [(⟨0,0,0⟩:V3),(⟨0,0,1⟩:V3),(⟨0,1,0⟩:V3),(⟨2,0,1⟩:V3),(⟨2,1,0⟩:V3),(⟨3,0,0⟩:V3)]) (sl (!t10) (some ((b false),[])) (sl qa8 (sl (okE tV t8) (sl (bb6 (rt tV t8) []) (sl qa8 (sl (okE tV t8) (sl (bb6 (rt tV t8) [(⟨24,0,0⟩:V3)]) (sl qa8 (sl (okE tV t8) (sl (Ca4 (rt tV t8) (⟨3,(-1),2⟩:V3)) (sl (Ca4 [] (⟨3,0,0⟩:V3)) (sl (t11.2==11) (sl (t12.2==3) (sl (t13.1==3) (sl t13.2 (some ((b (!t14.2)),[])) (some ((b false),[]))) (some ((b false),[]))) (some ((b false),[]))) (some ((b false),[]))) none) none) none) none) none) none) none) none) none) none)) none) none))))) none) none) none) none) none) none)) none) none)) none) none))) none) none)
noncomputable def wa5  : Bool:=C9 (one r1B) wa4
noncomputable def wa6  : Bool:=okO (one r1B) wa4
noncomputable def Lb5:Sum:=Hd7  (.guard wa6 (.ret ((one r1B).enc wa5,[])))
theorem Gc6:g8 prog G 15 Lb5:=nf9 (bd b15 vc0) (one r1B) (o:=wa4) (p5 (by kernel_rfl))
end Go.Ev.Ce
end
section
namespace Go.Ev.Ce
open Go Go.Ev Go.Ev.L Go.Proofs
set_option maxRecDepth 100000
noncomputable def Fa4:List (Nat×Sum):=[(15,Lb5),(16,Sc8),(17,pd2),(18,Ub5),(19,Yb7),(20,Zc3),(21,Ab2),(22,kc6),(23,Yb0)]
theorem Qb8:i7 prog G Fa4:=⟨Gc6,Nd9,ae0,ad1,yc3,Sd5,Tb6,jd7,xc9,trivial⟩
structure P2 where
 se8:Bool
 vb1:Nat
 vb2:Nat→List b7
 Zb6:Int
 c9:Int
 c7:Int
 d7:Int
 u7:Int
 u9:Int
 v7:Int
 X7:List Pln
 ca3:List Pln
 Na4:Nat
 Na5:Nat→List b7
 ja5:Int
 ja6:Int
 ja7:Int
 ma5:Int
 ma6:Int
 ma7:Int
 ma8:Int
structure z6 where
 Db5:Int
noncomputable def Lb6 (p:P2) (s:z6):St:=⟨(ra 8 ((.ptr 0 0 0 0)::((.ptr 1 0 0 0)::(.unk::((b p.se8)::(.unk::(.unk::((.tree 4 p.vb1 p.vb2)::(ra 24 ((.sl 2 0 3 0)::((i 3)::((i p.Zb6)::(ra 10 ((.sl 3 0 3 0)::((i 3)::((i s.Db5)::(ra 67 []))))))))))))))))),[⟨0,3,[[(.v (.int .u8 p.c9)),(.v (.int .u8 p.c7)),(.v (.int .u8 p.d7))]],true,false,0⟩,⟨0,3,[[(i p.u7),(i p.u9),(i p.v7)]],true,false,0⟩,⟨24,1,[[(eL tP p.X7)],[(eL tP p.ca3)],[(.tree 4 p.Na4 p.Na5)]],true,false,0⟩,⟨27,3,[[(i p.ja5),(i p.ja6),(i p.ja7)],[(i p.ma5),(i p.ma6),(i p.ma7)],[(i 12),(i p.ma8),(i 12)]],true,false,0⟩]⟩
noncomputable def R3 {α:Type} (k:z6→α) (e:Nat→α) (z:α) (p:P2) (s:z6):α:=let t1:=(Fa2 (lsL tP p.vb1 p.vb2) (rdR tV [[(i p.ja5),(i p.ja6),(i p.ja7)],[(i p.ma5),(i p.ma6),(i p.ma7)],[(i 12),(i p.ma8),(i 12)]] (0+s.Db5.toNat)));let t2:=(Ab7 (lsL tP p.vb1 p.vb2) (rdR tV [[(i p.ja5),(i p.ja6),(i p.ja7)],[(i p.ma5),(i p.ma6),(i p.ma7)],[(i 12),(i p.ma8),(i 12)]] (0+s.Db5.toNat)));let t3:=(ma3 (lsL tP p.vb1 p.vb2) (rdR tV [[(i p.ja5),(i p.ja6),(i p.ja7)],[(i p.ma5),(i p.ma6),(i p.ma7)],[(i 12),(i p.ma8),(i 12)]] (0+s.Db5.toNat)));let t4:=(ab6 (lsL tP p.vb1 p.vb2) (rdR tV [[(i p.ja5),(i p.ja6),(i p.ja7)],[(i p.ma5),(i p.ma6),(i p.ma7)],[(i 12),(i p.ma8),(i 12)]] (0+s.Db5.toNat)));let t5:=(ia1 (rt tP t1.1) (rt tP t2.1));let t6:=(ia1 (rt tP t3.1) (rt tP t4.1));let t7:=(ma3 (rt tP t1.1) (rdR tV [[(i p.ja5),(i p.ja6),(i p.ja7)],[(i p.ma5),(i p.ma6),(i p.ma7)],[(i 12),(i p.ma8),(i 12)]] (0+s.Db5.toNat)));let t8:=(ia1 (rt tP t7.1) (lsL tP p.vb1 p.vb2));(sl (decide (s.Db5 < 3)) (sl (inB s.Db5 3) (sl (ldR tV [[(i p.ja5),(i p.ja6),(i p.ja7)],[(i p.ma5),(i p.ma6),(i p.ma7)],[(i 12),(i p.ma8),(i 12)]] (0+s.Db5.toNat)) (sl (okL tP p.vb1 p.vb2) (sl (Fa3 (lsL tP p.vb1 p.vb2) (rdR tV [[(i p.ja5),(i p.ja6),(i p.ja7)],[(i p.ma5),(i p.ma6),(i p.ma7)],[(i 12),(i p.ma8),(i 12)]] (0+s.Db5.toNat))) (sl (okL tP p.vb1 p.vb2) (sl (Ab8 (lsL tP p.vb1 p.vb2) (rdR tV [[(i p.ja5),(i p.ja6),(i p.ja7)],[(i p.ma5),(i p.ma6),(i p.ma7)],[(i 12),(i p.ma8),(i 12)]] (0+s.Db5.toNat))) (sl (okL tP p.vb1 p.vb2) (sl (ma4 (lsL tP p.vb1 p.vb2) (rdR tV [[(i p.ja5),(i p.ja6),(i p.ja7)],[(i p.ma5),(i p.ma6),(i p.ma7)],[(i 12),(i p.ma8),(i 12)]] (0+s.Db5.toNat))) (sl (okL tP p.vb1 p.vb2) (sl (ab7 (lsL tP p.vb1 p.vb2) (rdR tV [[(i p.ja5),(i p.ja6),(i p.ja7)],[(i p.ma5),(i p.ma6),(i p.ma7)],[(i 12),(i p.ma8),(i 12)]] (0+s.Db5.toNat))) (sl (!(t1.2==t2.2)) (e 1) (sl (!(t3.2==t4.2)) (e 1) (sl (okE tP t1.1) (sl (okE tP t2.1) (sl (ia2 (rt tP t1.1) (rt tP t2.1)) (sl (!t5) (e 1) (sl (okE tP t3.1) (sl (okE tP t4.1) (sl (ia2 (rt tP t3.1) (rt tP t4.1)) (sl (!t6) (e 1) (sl (okE tP t1.1) (sl (ma4 (rt tP t1.1) (rdR tV [[(i p.ja5),(i p.ja6),(i p.ja7)],[(i p.ma5),(i p.ma6),(i p.ma7)],[(i 12),(i p.ma8),(i 12)]] (0+s.Db5.toNat))) (sl t1.2 (sl (!t7.2) (e 1) (sl (okE tP t7.1) (sl (okL tP p.vb1 p.vb2) (sl (ia2 (rt tP t7.1) (lsL tP p.vb1 p.vb2)) (sl (!t8) (e 1) (k ⟨(W (s.Db5+1))⟩)) z) z) z)) (k ⟨(W (s.Db5+1))⟩)) z) z)) z) z) z)) z) z) z))) z) z) z) z) z) z) z) z) z) z) (e 2))
noncomputable def L8 (p:P2) (s:z6):Stp z6:=R3 .next .exit .fail p s
noncomputable def za2:Lo P2 z6:=⟨En Fa4,0,pf3,[1,1,1,0,1,4,4,1,1,0,4,1,1,4,4],[8,9,11,14,39,40,41,52,53,54],.p,[⟨(ru2 8 ((.s (.o (.ptr 0 0 0 0)))::((.s (.o (.ptr 1 0 0 0)))::((.s (.o .unk))::((.s (.o .bool))::((.s (.o .unk))::((.s (.o .unk))::((.s (.o (.tree 4)))::(ru2 24 ((.s (.o (.sl 2 0 (some 0) (some 3))))::((.s (.o (.lit .i64 3)))::((.s (.o (.int .i64)))::(ru2 10 ((.s (.o (.sl 3 0 (some 0) (some 3))))::((.s (.o (.lit .i64 3)))::((.s (.o (.int .i64)))::(ru2 67 []))))))))))))))))),[⟨0,3,true,(some [[(.o (.int .u8)),(.o (.int .u8)),(.o (.int .u8))]])⟩,⟨0,3,true,(some [[(.o (.int .i64)),(.o (.int .i64)),(.o (.int .i64))]])⟩,⟨24,1,true,(some [[(.c 4 (nL tP))],[(.c 4 (nL tP))],[(.o (.tree 4))]])⟩,⟨27,3,true,(some [[(.o (.int .i64)),(.o (.int .i64)),(.o (.int .i64))],[(.o (.int .i64)),(.o (.int .i64)),(.o (.int .i64))],[(.o (.lit .i64 12)),(.o (.int .i64)),(.o (.lit .i64 12))]])⟩],fun a H=>(⟨(toB (slT a 11)),(toN (slT a 14)),(toG (slT a 14)),(toI (slT a 41)),(toI (slT (rwT (elT H 0) 0) 0)),(toI (slT (rwT (elT H 0) 0) 1)),(toI (slT (rwT (elT H 0) 0) 2)),(toI (slT (rwT (elT H 1) 0) 0)),(toI (slT (rwT (elT H 1) 0) 1)),(toI (slT (rwT (elT H 1) 0) 2)),(rL tP (slT (rwT (elT H 2) 0) 0)),(rL tP (slT (rwT (elT H 2) 1) 0)),(toN (slT (rwT (elT H 2) 2) 0)),(toG (slT (rwT (elT H 2) 2) 0)),(toI (slT (rwT (elT H 3) 0) 0)),(toI (slT (rwT (elT H 3) 0) 1)),(toI (slT (rwT (elT H 3) 0) 2)),(toI (slT (rwT (elT H 3) 1) 0)),(toI (slT (rwT (elT H 3) 1) 1)),(toI (slT (rwT (elT H 3) 1) 2)),(toI (slT (rwT (elT H 3) 2) 1))⟩,⟨(toI (slT a 54))⟩)⟩],L8,[(none,fun p s=>⟨[(b false)],[]⟩),(some 2,fun p s=>⟨(ra 8 ((.ptr 0 0 0 0)::((.ptr 1 0 0 0)::(.unk::((b p.se8)::(.unk::(.unk::((.tree 4 p.vb1 p.vb2)::(ra 24 ((.sl 2 0 3 0)::((i 3)::((i p.Zb6)::(ra 10 ((.sl 3 0 3 0)::((i 3)::((i s.Db5)::((b (decide (s.Db5 < 3)))::(ra 66 [])))))))))))))))))),[⟨0,3,[[(.v (.int .u8 p.c9)),(.v (.int .u8 p.c7)),(.v (.int .u8 p.d7))]],true,false,0⟩,⟨0,3,[[(i p.u7),(i p.u9),(i p.v7)]],true,false,0⟩,⟨24,1,[[(eL tP p.X7)],[(eL tP p.ca3)],[(.tree 4 p.Na4 p.Na5)]],true,false,0⟩,⟨27,3,[[(i p.ja5),(i p.ja6),(i p.ja7)],[(i p.ma5),(i p.ma6),(i p.ma7)],[(i 12),(i p.ma8),(i 12)]],true,false,0⟩]⟩)],Lb6⟩
theorem Lb7:za2.Ok:=Lo.ok [] (by kernel_rfl) .nil rfl (.cons (fun a H=>by kernel_rfl) .nil) fun p s=>(.of @R3 (fun F _ _ _ _ _=>by unfold R3;(repeat' apply k9 (f:=F))<;>rfl) (by kernel_rfl))
structure Z8 where
 se8:Bool
 c9:Int
 c7:Int
 d7:Int
 u7:Int
 u9:Int
 v7:Int
 Na4:Nat
 Na5:Nat→List b7
structure z7 where
 Zb6:Int
 X7:List Pln
 ca3:List Pln
noncomputable def Lb8 (p:Z8) (s:z7):St:=⟨(ra 8 ((.ptr 0 0 0 0)::((.ptr 1 0 0 0)::(.unk::((b p.se8)::(ra 27 ((.sl 2 0 3 0)::((i 3)::((i s.Zb6)::(ra 80 [])))))))))),[⟨0,3,[[(.v (.int .u8 p.c9)),(.v (.int .u8 p.c7)),(.v (.int .u8 p.d7))]],true,false,0⟩,⟨0,3,[[(i p.u7),(i p.u9),(i p.v7)]],true,false,0⟩,⟨24,1,[[(eL tP s.X7)],[(eL tP s.ca3)],[(.tree 4 p.Na4 p.Na5)]],true,false,0⟩]⟩
noncomputable def R4 {α:Type} (k:z7→α) (e:Nat→α) (z:α) (p:Z8) (s:z7):α:=let t1:=(Ub4 (⟨p.c9,p.c7,p.d7⟩:B3));let t2:=(lp (L8 (⟨p.se8,(toN (hdA (g9 (i6 [[(eL tP s.X7)],[(eL tP s.ca3)],[(.tree 4 p.Na4 p.Na5)]] (0+s.Zb6.toNat)) 0))),(toG (hdA (g9 (i6 [[(eL tP s.X7)],[(eL tP s.ca3)],[(.tree 4 p.Na4 p.Na5)]] (0+s.Zb6.toNat)) 0))),s.Zb6,p.c9,p.c7,p.d7,p.u7,p.u9,p.v7,(rt tP s.X7),(rt tP s.ca3),p.Na4,p.Na5,t1.x,t1.y,t1.z,p.u7,p.u9,p.v7,t1.y⟩:P2)) (⟨0⟩:z6));(sl (decide (s.Zb6 < 3)) (sl (inB s.Zb6 3) (sl (((Nat.blt (0+s.Zb6.toNat) (len [[(eL tP s.X7)],[(eL tP s.ca3)],[(.tree 4 p.Na4 p.Na5)]]))&&(Nat.ble (0+1) (len (i6 [[(eL tP s.X7)],[(eL tP s.ca3)],[(.tree 4 p.Na4 p.Na5)]] (0+s.Zb6.toNat)))))&&(L9 [(CK.sl 4)] (g9 (i6 [[(eL tP s.X7)],[(eL tP s.ca3)],[(.tree 4 p.Na4 p.Na5)]] (0+s.Zb6.toNat)) 0))) (sl ((cnE tP s.X7)&&((cnE tP s.ca3)&&true)) (sl (Nat.beq t2.1 1) (e 1) (sl (Nat.beq t2.1 2) (k ⟨(W (s.Zb6+1)),(rt tP s.X7),(rt tP s.ca3)⟩) z)) z) z) z) (e 2))
noncomputable def V0 (p:Z8) (s:z7):Stp z7:=R4 .next .exit .fail p s
noncomputable def za3:Lo Z8 z7:=⟨En Fa4,0,pf3,[1,1,1,0,1,4,4],[8,9,11,39,40,41],(.s .p (.s .p (.s (.b (.s .p (.s .p (.b (.u za2.ls))))) .p))),[⟨(ru2 8 ((.s (.o (.ptr 0 0 0 0)))::((.s (.o (.ptr 1 0 0 0)))::((.s (.o .unk))::((.s (.o .bool))::(ru2 27 ((.s (.o (.sl 2 0 (some 0) (some 3))))::((.s (.o (.lit .i64 3)))::((.s (.o (.int .i64)))::(ru2 80 [])))))))))),[⟨0,3,true,(some [[(.o (.int .u8)),(.o (.int .u8)),(.o (.int .u8))]])⟩,⟨0,3,true,(some [[(.o (.int .i64)),(.o (.int .i64)),(.o (.int .i64))]])⟩,⟨24,1,true,(some [[(.c 4 (nL tP))],[(.c 4 (nL tP))],[(.o (.tree 4))]])⟩],fun a H=>(⟨(toB (slT a 11)),(toI (slT (rwT (elT H 0) 0) 0)),(toI (slT (rwT (elT H 0) 0) 1)),(toI (slT (rwT (elT H 0) 0) 2)),(toI (slT (rwT (elT H 1) 0) 0)),(toI (slT (rwT (elT H 1) 0) 1)),(toI (slT (rwT (elT H 1) 0) 2)),(toN (slT (rwT (elT H 2) 2) 0)),(toG (slT (rwT (elT H 2) 2) 0))⟩,⟨(toI (slT a 41)),(rL tP (slT (rwT (elT H 2) 0) 0)),(rL tP (slT (rwT (elT H 2) 1) 0))⟩)⟩],V0,[(none,fun p s=>⟨[(b false)],[]⟩),(some 0,fun p s=>⟨(ra 8 ((.ptr 0 0 0 0)::((.ptr 1 0 0 0)::(.unk::((b p.se8)::(ra 27 ((.sl 2 0 3 0)::((i 3)::((i s.Zb6)::((b (decide (s.Zb6 < 3)))::(ra 79 []))))))))))),[⟨0,3,[[(.v (.int .u8 p.c9)),(.v (.int .u8 p.c7)),(.v (.int .u8 p.d7))]],true,false,0⟩,⟨0,3,[[(i p.u7),(i p.u9),(i p.v7)]],true,false,0⟩,⟨24,1,[[(eL tP s.X7)],[(eL tP s.ca3)],[(.tree 4 p.Na4 p.Na5)]],true,false,0⟩]⟩)],Lb8⟩
theorem Lb9:za3.Ok:=Lo.ok [za2.pr] (by kernel_rfl) (.cons Lb7 .nil) rfl (.cons (fun a H=>by kernel_rfl) .nil) fun p s=>(.of @R4 (fun F _ _ _ _ _=>by unfold R4;(repeat' apply k9 (f:=F))<;>rfl) (by kernel_rfl))
noncomputable def ha5 (x:List Int) (y:V3) (z:List Pln) (w:B3) (v:V3):Option (b7×List b8):=let t1:=wa5;let t2:=(L0 (rt tI x));let t3:=(Ga4 (rt tP t2) y);let t4:=(lp (V0 (⟨t1,w.b0,w.b1,w.b2,v.x,v.y,v.z,((if 8 < (↑(List.length z):Int) then 8 else (↑(List.length z):Int)).toNat - 0),(fun k=>(fun k=>(tP).row (gL tP z k)) (0+k))⟩:Z8)) (⟨0,(rt tP t2),(rt tP t3)⟩:z7));(sl wa6 (sl (okE tI x) (sl (Xb9 (rt tI x)) (sl (okE tP t2) (sl (pc8 (rt tP t2) y) (sl (inB (if 8 < (↑(List.length z):Int) then 8 else (↑(List.length z):Int)) ((List.length z)+1)) (sl ((cnE tP t2)&&((cnE tP t3)&&true)) (sl (Nat.beq t4.1 1) (some ((b false),[])) (sl (Nat.beq t4.1 2) (some ((b t1),[])) none)) none) none) none) none) none) none) none)
noncomputable def sa1 (x:List Int) (y:V3) (z:List Pln) (w:B3) (v:V3):Bool:=C9 (one r1B) (ha5 x y z w v)
noncomputable def sa2 (x:List Int) (y:V3) (z:List Pln) (w:B3) (v:V3):Bool:=okO (one r1B) (ha5 x y z w v)
noncomputable def kc9:Sum:=Id1 (fa0 tI) (B0 tV) (fa0 tP) (B0 tW) (B0 tV) (fun x y z w v=>.guard (sa2 x y z w v) (.ret ((one r1B).enc (sa1 x y z w v),[])))
theorem Zb5:g8 prog G 3 kc9:=xf2 (bd b3 Qb8) (one r1B) (o:=ha5) fun x y z w v=>sa8 (.s .p (.s .p (.s .p (.s (.s .p (.b (.u za3.ls))) .p)))) [za3.pr] (by kernel_rfl) (.cons Lb9 .nil) (by kernel_rfl)
end Go.Ev.Ce
end
