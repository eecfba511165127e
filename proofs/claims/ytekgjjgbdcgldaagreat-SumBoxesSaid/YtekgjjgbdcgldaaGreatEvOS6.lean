/- Own work. -/
import Derived.Test.YtekgjjgbdcgldaaGreatEvJ1
import Derived.ChangeStays
import Derived.ChangeSame
import Derived.OpenShut
import Derived.RowKit
set_option linter.all false
def Qka:=@List.any_eq_true
def Qkb:=@List.length_append
def Qkc:=@List.length_take
def Qkd:=@Nat.lt_irrefl
def Qke:=@Nat.zero_add
def Qkf:=@List.all_eq_true
def Qkg:=@Bool.false_eq_true
def Qkh:=@Nat.zero_le
def Qki:=@List.append_nil
def Qkj:=@List.mem_range
def Qkk:=@Nat.le_refl
def Qkl:=@List.getElem?_eq_getElem
def Qkm:=@List.drop_zero
def Qkn:=@Int.mul_eq_zero
def Qko:=@List.mem_iff_getElem
def Qkp:=@Bool.and_eq_true
def Qkq:=@Nat.beq_refl
def Qkr:=@Option.bind_eq_some_iff
def Qks:=@Bool.and_true
def Qkt:=@List.length_set
def Qku:=@List.filter_append
def Qkv:=@List.mem_filter
def Qkw:=@List.take_append_of_le_length
def Qkx:=@List.findIdx_getElem
def Qky:=@List.filter_cons
def Qkz:=@List.getD_eq_getElem?_getD
def Qkaa:=@List.getElem?_range
def Qkab:=@Nat.lt_or_gt_of_ne
def Qkac:=@Bool.and_self
def Qkad:=@List.take_succ_eq_append_getElem
def Qkae:=@Bool.not_eq_true
def Qkaf:=@List.findIdx_lt_length_of_exists
def Qkag:=@List.length_filter_le
def Qkah:=@List.pairwise_cons
def Qkai:=@List.getElem?_take
def Qkaj:=@List.mem_singleton
def Qkak:=@List.mem_cons
def Qkal:=@List.drop_eq_getElem_cons
def Qkam:=@Nat.ble_eq
def Qkan:=@List.length_drop
def Qkao:=@List.mem_append
def Qkap:=@List.drop_eq_nil_of_le
def Qkaq:=@Option.map_eq_some_iff
def Qkar:=@List.getElem_set_self
def Qkas:=@List.take_take
def Qkat:=@List.length_replicate
def Qkau:=@Go.Ev.Ce.V3.ext'
namespace Go.Ev.Ce
open Go Go.Ev Go.Ev.L Go.Proofs
theorem je1{l:List V3}(hf:nf0 l=true):Sol l:=(Bf1 hf).h
theorem if5{v:V3}(h:g3 v=0):v=⟨0,0,0⟩:=by
 unfold g3 at h;have h:Nat.gcd (Nat.gcd v.x.natAbs v.y.natAbs) v.z.natAbs=0:=by omega
 rw[Nat.gcd_eq_zero_iff,Nat.gcd_eq_zero_iff] at h;exact Qkau (by show v.x=0;omega) (by show v.y=0;omega) (by show v.z=0;omega)
theorem lb3{a c k:V3}(ha:inV a=true)(hc:inV c=true)(hk:inV k=true)(h:N3 a c k≠⟨0,0,0⟩):(G5 a c k).2=true:=by
 unfold G5;rw[ha,hc,hk];simp only[Qkac,if_true];rw[if_neg (λh0=>h (if5 h0):¬ g3 (c8 (sub c a) (sub k a))=0)]
theorem yd9{a c k:V3}{p:Pln}(h:Thr a c k p):N3 a c k≠⟨0,0,0⟩:=λe=>by
 obtain⟨ok,⟨g,hg,e1,e2,e3⟩,_⟩:=h;have e':c8 (sub c a) (sub k a)=⟨0,0,0⟩:=e;rw[e'] at e1 e2 e3;have z:∀{x:Int},g*x=0->x=0:=λh=>(Qkn.1 h).resolve_left (by omega)
 exact Ab7 ok (Qkau (z e1) (z e2) (z e3))
theorem Jd0{a c k:V3}{p:Pln}(h:Thr a c k p):dot p.n a=p.b/\dot p.n c=p.b/\dot p.n k=p.b:=by
 obtain⟨ok,⟨g,hg,e1,e2,e3⟩,o⟩:=h;have z:∀{x y:Int},g*(x-y)=0->x=y:=λh=>by have:=(Qkn.1 h).resolve_left (by omega);omega
 refine⟨o.symm,?_,?_⟩
 ·rw[o];apply z
  have:g*(dot p.n c-dot p.n a)=(g*p.n.x)*(c.x-a.x)+(g*p.n.y)*(c.y-a.y)+(g*p.n.z)*(c.z-a.z):=by simp only[dot];grind
  rw[this,e1,e2,e3];simp only[c8,sub];grind
 ·rw[o];apply z
  have:g*(dot p.n k-dot p.n a)=(g*p.n.x)*(k.x-a.x)+(g*p.n.y)*(k.y-a.y)+(g*p.n.z)*(k.z-a.z):=by simp only[dot];grind
  rw[this,e1,e2,e3];simp only[c8,sub];grind
theorem jc0(p:Pln)(v:V3):dot (ma0 p).n v=(ma0 p).b↔dot p.n v=p.b:=by
 rw[Cc6];show -dot p.n v=-p.b↔_;omega
theorem fc2{a c k:V3}{p q:Pln}(h:Thr a c k q)(hp:okp p=true)(t1:dot p.n a=p.b)(t2:dot p.n c=p.b)(t3:dot p.n k=p.b):p=q\/p=ma0 q:=by
 obtain⟨s1,s2,s3⟩:=Jd0 h;obtain⟨ok,⟨g,hg,e1,e2,e3⟩,o⟩:=h;have d1:dot p.n (sub c a)=0:=by simp only[dot,sub] at *;grind
 have d2:dot p.n (sub k a)=0:=by simp only[dot,sub] at *;grind
 have hc:c8 q.n p.n=⟨0,0,0⟩:=by
  have z:∀{x:Int},g*x=0->x=0:=λh=>(Qkn.1 h).resolve_left (by omega)
  generalize sub c a=u at *
  generalize sub k a=w at *
  refine Qkau (z ?_) (z ?_) (z ?_)
  ·have:g*(c8 q.n p.n).x=(g*q.n.y)*p.n.z-(g*q.n.z)*p.n.y:=by simp only[c8];grind
   rw[this,e2,e3]
   have:(c8 u w).y*p.n.z-(c8 u w).z*p.n.y=w.x*dot p.n u-u.x*dot p.n w:=by simp only[c8,dot];grind
   rw[this,d1,d2];simp
  ·have:g*(c8 q.n p.n).y=(g*q.n.z)*p.n.x-(g*q.n.x)*p.n.z:=by simp only[c8];grind
   rw[this,e1,e3]
   have:(c8 u w).z*p.n.x-(c8 u w).x*p.n.z=w.y*dot p.n u-u.y*dot p.n w:=by simp only[c8,dot];grind
   rw[this,d1,d2];simp
  ·have:g*(c8 q.n p.n).z=(g*q.n.x)*p.n.y-(g*q.n.y)*p.n.x:=by simp only[c8];grind
   rw[this,e1,e2]
   have:(c8 u w).x*p.n.y-(c8 u w).y*p.n.x=w.z*dot p.n u-u.z*dot p.n w:=by simp only[c8,dot];grind
   rw[this,d1,d2];simp
 obtain⟨pn,pb⟩:=p;obtain⟨qn,qb⟩:=q
 rcases Qe7 (ie9 ok) (ie9 hp) hc with e|e
 ·left
  simp only at e o t1 s1 t2 t3
  subst e;rw[<- t1,s1]
 ·right
  simp only at e o t1 s1 t2 t3
  subst e;rw[<- t1];simp only[dot,neg,ma0] at s1 ⊢;simp only[Pln.mk.injEq,true_and]
  grind
structure db9(l:List V3)(p:Pln):Prop extends Fac l p.n p.b where
 ok:okp p=true
theorem ld2{l:List V3}{p:Pln}{u w x:V3}(hu:u∈l)(hw:w∈l)(hx:x∈l)(h:Thr u w x p)(hh:∀v∈l,dot (ma0 p).n v<=(ma0 p).b):db9 l (ma0 p):=by
 obtain⟨s1,s2,s3⟩:=Jd0 h;exact⟨⟨hh,u,w,x,hu,hw,hx,yd9 h,(jc0 p u).2 s1,(jc0 p w).2 s2,(jc0 p x).2 s3⟩,Cc4 h.ok⟩
theorem Jd1{l:List V3}{p:Pln}{u w x:V3}(hu:u∈l)(hw:w∈l)(hx:x∈l)(h:Thr u w x p)(hh:∀v∈l,dot p.n v<=p.b):db9 l p:=by
 obtain⟨s1,s2,s3⟩:=Jd0 h;exact⟨⟨hh,u,w,x,hu,hw,hx,yd9 h,s1,s2,s3⟩,h.ok⟩
theorem Qe9{u w x:V3}(h:N3 u w x≠⟨0,0,0⟩):N3 w u x≠⟨0,0,0⟩/\N3 u x w≠⟨0,0,0⟩/\N3 x w u≠⟨0,0,0⟩/\N3 w x u≠⟨0,0,0⟩/\N3 x u w≠⟨0,0,0⟩:=by
 have e1:N3 w u x=neg (N3 u w x):=Qkau (by simp only[N3,c8,C3,neg];grind) (by simp only[N3,c8,C3,neg];grind) (by simp only[N3,c8,C3,neg];grind)
 have e2:N3 u x w=neg (N3 u w x):=Qkau (by simp only[N3,c8,C3,neg];grind) (by simp only[N3,c8,C3,neg];grind) (by simp only[N3,c8,C3,neg];grind)
 have e3:N3 x w u=neg (N3 u w x):=Qkau (by simp only[N3,c8,C3,neg];grind) (by simp only[N3,c8,C3,neg];grind) (by simp only[N3,c8,C3,neg];grind)
 have e4:N3 w x u=N3 u w x:=Qkau (by simp only[N3,c8,C3];grind) (by simp only[N3,c8,C3];grind) (by simp only[N3,c8,C3];grind)
 have e5:N3 x u w=N3 u w x:=Qkau (by simp only[N3,c8,C3];grind) (by simp only[N3,c8,C3];grind) (by simp only[N3,c8,C3];grind)
 rw[e1,e2,e3,e4,e5];exact⟨Id5 h,Id5 h,Id5 h,h,h⟩
theorem sf2{u w x:V3}(h:N3 u w x≠⟨0,0,0⟩):u≠w/\u≠x/\w≠x:=by
 refine⟨λe=>h ?_,λe=>h ?_,λe=>h ?_⟩<;>subst e<;>refine Qkau ?_ ?_ ?_<;>simp only[N3,c8,C3]<;>grind
theorem if6 {l : List V3} {u w x : V3} (hu : u ∈ l) (hw : w ∈ l) (hx : x ∈ l) (h : N3 u w x ≠ ⟨0, 0, 0⟩) :
  ∃a,a<l.length/\∃c,c<a/\∃k,k<c/\N3 (gL tV l a) (gL tV l c) (gL tV l k)≠⟨0,0,0⟩/\∀f:V3->Prop,f u->f w->f x->f (gL tV l a)/\f (gL tV l c)/\f (gL tV l k):=by
 obtain⟨i,hi,rfl⟩:=Qko.1 hu;obtain⟨j,hj,rfl⟩:=Qko.1 hw;obtain⟨k,hk,rfl⟩:=Qko.1 hx;obtain⟨n1,n2,n3⟩:=sf2 h;obtain⟨s1,s2,s3,s4,s5⟩:=Qe9 h;have d1:i≠j:=λe=>n1 (by subst e;rfl)
 have d2:i≠k:=λe=>n2 (by subst e;rfl)
 have d3:j≠k:=λe=>n3 (by subst e;rfl)
 rw[<- pb5 tV hi,<- pb5 tV hj,<- pb5 tV hk] at *
 rcases Qkab d1 with h1|h1<;>rcases Qkab d2 with h2|h2<;>rcases Qkab d3 with h3|h3
 ·exact⟨k,hk,j,h3,i,h1,s3,λf a b c=>⟨c,b,a⟩⟩
 ·exact⟨j,hj,k,h3,i,h2,s4,λf a b c=>⟨b,c,a⟩⟩
 ·omega
 ·exact⟨j,hj,i,h1,k,h2,s1,λf a b c=>⟨b,a,c⟩⟩
 ·exact⟨k,hk,i,h2,j,h1,s5,λf a b c=>⟨c,a,b⟩⟩
 ·omega
 ·exact⟨i,hi,k,h2,j,h3,s2,λf a b c=>⟨a,c,b⟩⟩
 ·exact⟨i,hi,j,h1,k,h3,h,λf a b c=>⟨a,b,c⟩⟩
theorem ea4{l:List V3}(hl:l.all inV=true)(p:Pln):p∈F0 l↔db9 l p:=by
 have hin:=Qkf.1 hl;constructor
 ·intro hp;obtain⟨a,ha,c,hc,k,hk,h1,h2⟩:=(je0 l p).1 hp;have ma:=gLm ha;have mc:=gLm (show c<l.length by omega)
  have mk:=gLm (show k<l.length by omega)
  have ht:=(xa7 h1).2
  rcases h2 with⟨rfl,h3⟩|⟨rfl,h3⟩
  ·exact Jd1 ma mc mk ht ((Ab8 ht.ok hl).1 h3)
  ·exact ld2 ma mc mk ht ((Ab8 (Cc4 ht.ok) hl).1 h3)
 ·intro h;obtain⟨u,w,x,hu,hw,hx,h3,t1,t2,t3⟩:=h.on;obtain⟨a,ha,c,hc,k,hk,hn,hall⟩:=if6 hu hw hx h3;obtain⟨i1,i2,i3⟩:=hall (λv=>inV v=true) (hin u hu) (hin w hw) (hin x hx)
  obtain⟨e1,e2,e3⟩:=hall (λv=>dot p.n v=p.b) t1 t2 t3
  have h2:=lb3 i1 i2 i3 hn;refine (je0 l p).2 ⟨a,ha,c,hc,k,hk,h2,?_⟩;have hh:=(Ab8 h.ok hl).2 h.hd
  rcases fc2 (xa7 h2).2 h.ok e1 e2 e3 with e|e
  ·exact .inl ⟨e,hh⟩
  ·exact .inr ⟨e,hh⟩
theorem re1{n:V3}(h:n≠⟨0,0,0⟩):0<dot n n:=by
 have sq:∀a:Int,0<=a*a:=λa=>by
  by_cases h:0<=a
  ·exact Int.mul_nonneg h h
  ·have:=Int.mul_nonneg (show 0<=-a by omega) (show 0<=-a by omega)
   rw[Int.neg_mul_neg] at this;exact this
 have z:∀{a:Int},a*a=0->a=0:=λh=>(Qkn.1 h).elim id id
 have s1:=sq n.x;have s2:=sq n.y;have s3:=sq n.z;by_cases h0:0<dot n n
 ·exact h0
 ·exfalso;simp only[dot] at h0;exact h (Qkau (z (by omega)) (z (by omega)) (z (by omega)))
theorem re2{l:List V3}(hl:l.all inV=true){c:List Pln}(hc:∀p,db9 l p->p∈c):Bf6 l c:=λn b hn hf=>by
 have hin:=Qkf.1 hl;obtain⟨u,w,x,hu,hw,hx,h3,t1,t2,t3⟩:=hf.on;have h2:=lb3 (hin u hu) (hin w hw) (hin x hx) h3;have ht:=(xa7 h2).2;generalize (G5 u w x).1=q at ht;obtain⟨s1,s2,s3⟩:=Jd0 ht;have hnn:=re1 hn;have d1:dot n (C3 w u)=0:=by simp only[dot,C3] at *;grind
 have d2:dot n (C3 x u)=0:=by simp only[dot,C3] at *;grind
 -- the normals are parallel
 have par:dot n n*q.n.x=dot q.n n*n.x/\dot n n*q.n.y=dot q.n n*n.y/\dot n n*q.n.z=dot q.n n*n.z:=by
  obtain⟨ok,⟨g,hg,e1,e2,e3⟩,o⟩:=ht;have z:∀{x y:Int},g*(x-y)=0->x=y:=λh=>by have:=(Qkn.1 h).resolve_left (by omega);omega
  have eg:g*dot q.n n=(c8 (C3 w u) (C3 x u)).x*n.x+(c8 (C3 w u) (C3 x u)).y*n.y+(c8 (C3 w u) (C3 x u)).z*n.z:=by
   have:g*dot q.n n=(g*q.n.x)*n.x+(g*q.n.y)*n.y+(g*q.n.z)*n.z:=by simp only[dot];grind
   rw[this,e1,e2,e3];rfl
  have e1:g*q.n.x=(c8 (C3 w u) (C3 x u)).x:=e1;have e2:g*q.n.y=(c8 (C3 w u) (C3 x u)).y:=e2;have e3:g*q.n.z=(c8 (C3 w u) (C3 x u)).z:=e3;generalize C3 w u=p at *
  generalize C3 x u=r at *
  refine⟨z ?_,z ?_,z ?_⟩
  ·have:g*(dot n n*q.n.x-dot q.n n*n.x)=dot n n*(g*q.n.x)-(g*dot q.n n)*n.x:=by grind
   rw[this,e1,eg]
   have:dot n n*(c8 p r).x-((c8 p r).x*n.x+(c8 p r).y*n.y+(c8 p r).z*n.z)*n.x=(n.y*r.z-n.z*r.y)*dot n p-(n.y*p.z-n.z*p.y)*dot n r:=by simp only[dot,c8];grind
   rw[this,d1,d2];simp
  ·have:g*(dot n n*q.n.y-dot q.n n*n.y)=dot n n*(g*q.n.y)-(g*dot q.n n)*n.y:=by grind
   rw[this,e2,eg]
   have:dot n n*(c8 p r).y-((c8 p r).x*n.x+(c8 p r).y*n.y+(c8 p r).z*n.z)*n.y=(n.z*r.x-n.x*r.z)*dot n p-(n.z*p.x-n.x*p.z)*dot n r:=by simp only[dot,c8];grind
   rw[this,d1,d2];simp
  ·have:g*(dot n n*q.n.z-dot q.n n*n.z)=dot n n*(g*q.n.z)-(g*dot q.n n)*n.z:=by grind
   rw[this,e3,eg]
   have:dot n n*(c8 p r).z-((c8 p r).x*n.x+(c8 p r).y*n.y+(c8 p r).z*n.z)*n.z=(n.x*r.y-n.y*r.x)*dot n p-(n.x*p.y-n.y*p.x)*dot n r:=by simp only[dot,c8];grind
   rw[this,d1,d2];simp
 have fin:∀r:Pln,Thr u w x q->(r=q\/r=ma0 q)->0<dot r.n n->(dot n n*r.n.x=dot r.n n*n.x/\dot n n*r.n.y=dot r.n n*n.y/\dot n n*r.n.z=dot r.n n*n.z)->∃s t:Int,0<s/\0<t/\∃q∈c,t*q.n.x=s*n.x/\t*q.n.y=s*n.y/\t*q.n.z=s*n.z/\t*q.b=s*b:=λr ht hr hp ⟨p1,p2,p3⟩=>by
  have hru:dot r.n u=r.b:=by
   rcases hr with rfl|rfl
   ·exact s1
   ·exact (jc0 q u).2 s1
  have ed:∀v,dot n n*dot r.n v=dot r.n n*dot n v:=λv=>by
   have:dot n n*dot r.n v=(dot n n*r.n.x)*v.x+(dot n n*r.n.y)*v.y+(dot n n*r.n.z)*v.z:=by
    generalize dot n n=t;simp only[dot];grind
   rw[this,p1,p2,p3];generalize dot r.n n=s;simp only[dot];grind
  have eb:dot n n*r.b=dot r.n n*b:=by rw[<- hru,ed,t1]
  have hd:∀v∈l,dot r.n v<=r.b:=λv hv=>by
   have h1:=Int.mul_le_mul_of_nonneg_left (hf.hd v hv) (Int.le_of_lt hp);rw[<- ed,<- eb] at h1;exact Int.le_of_mul_le_mul_left h1 hnn
  have hF:db9 l r:=by
   rcases hr with rfl|rfl
   ·exact Jd1 hu hw hx ht hd
   ·exact ld2 hu hw hx ht hd
  exact⟨dot r.n n,dot n n,hp,hnn,r,hc r hF,p1,p2,p3,eb⟩
 by_cases h0:0<dot q.n n
 ·exact fin q ht (.inl rfl) h0 par
 ·refine fin (ma0 q) ht (.inr rfl) ?_ ?_
  ·rw[Cc6]
   have:dot q.n n≠0:=λe=>by
    obtain⟨p1,p2,p3⟩:=par;rw[e] at p1 p2 p3;simp only[Int.zero_mul] at p1 p2 p3;have z:∀{x:Int},dot n n*x=0->x=0:=λh=>(Qkn.1 h).resolve_left (by omega)
    exact Ab7 ht.ok (Qkau (z p1) (z p2) (z p3))
   omega
  ·rw[Cc6];obtain⟨p1,p2,p3⟩:=par;show dot n n*-q.n.x=_/\dot n n*-q.n.y=_/\dot n n*-q.n.z=_;rw[Int.mul_neg,Int.mul_neg,Int.mul_neg,p1,p2,p3,Int.neg_mul,Int.neg_mul,Int.neg_mul];exact⟨rfl,rfl,rfl⟩
end Go.Ev.Ce
namespace Go.Ev.Ce
open Go Go.Ev Go.Ev.L Go.Proofs Go.Sort
def eqV(x y:V3):Bool:=x.x==y.x&&(x.y==y.y&&(x.z==y.z&&true))
theorem Dc0(x y:V3):eqV x y=true↔x=y:=by
 unfold eqV;simp only[Qks,Qkp,beq_iff_eq];refine⟨λ⟨h1,h2,h3⟩=>Qkau h1 h2 h3,λh=>by subst h;exact⟨rfl,rfl,rfl⟩⟩
theorem Jd2{l:List V3}{j:Nat}(h:j<l.length):ldR tV (bL tV l) (0+j)=true:=by rw[Qke];exact fe8 tV h
theorem ld3{l:List V3}{j:Nat}(h:j<l.length):rdR tV (bL tV l) (0+j)=gL tV l j:=by rw[Qke];exact fe7 tV h
theorem Xd5(l:List V3)(n:Nat):J6 (bL tV l) n=bL tV (l.take n):=by unfold bL;rw[K2,o3,o3,List.map_take]
theorem ld4(l:List V3)(n:Nat):i9 (bL tV l) n=bL tV (l.drop n):=by unfold bL;rw[I0,o3,o3,List.map_drop]
theorem Xd6(n:Nat):List.replicate n [i 0,i 0,i 0]=bL tV (List.replicate n ⟨0,0,0⟩):=by unfold bL;rw[o3,List.map_replicate];rfl
def dvF:V3->List V3->List V3
 |_,[]=>[]
 |a,x::l=>if eqV x a then dvF x l else x::dvF x l
def ddV:List V3->List V3
 |[]=>[]
 |x::l=>x::dvF x l
structure Re0(l:List V3)(n:Nat)(cur:List V3)(m j:Nat)(R:List V3):Prop where
 len:cur.length=l.length
 t:cur.take m++dvF (gL tV l (j-1)) ((l.take n).drop j)=R
 d:cur.drop (j-1)=l.drop (j-1)
 le:m+1<=j
theorem td0 (l : List V3) (n o : Nat) (hn : n ≤ l.length) (hl : l.length ≤ 1000000000) (ho : o < n) (m : Nat) (cur : List V3) (R : List V3) (hd : Re0 l n cur m (o + 1) R) :
  ∃t s,lp (s8 ⟨n,0+o,n-o⟩) ⟨(m:Int),((1:Nat):Int),bL tV cur⟩=(t,s)/\(t=1/\∃m' cur' k,s=⟨((m':Nat):Int),k,bL tV cur'⟩/\cur'.length=l.length/\cur'.take m'=R/\m'<=n):=by
 refine ea3 (step:=s8 ⟨n,0+o,n-o⟩) (mk:=λj (x:Nat×List V3)=>(⟨(x.1:Int),(j:Int),bL tV x.2⟩:r5)) (n-o) (λj x=>Re0 l n x.2 x.1 (o+j) R/\1<=j/\x.1<=n) (λt s=>t=1/\∃m' cur' k,s=⟨((m':Nat):Int),k,bL tV cur'⟩/\cur'.length=l.length/\cur'.take m'=R/\m'<=n) (by omega) (λj x hj hx=>?_) (λj x hj hx=>?_) 1 (m,cur) ⟨hd,Qkk _,by have:=hd.le;show m<=n;omega⟩
 ·obtain⟨m,cur⟩:=x;obtain⟨⟨h1,h2,h3,h4⟩,hj1,hmn⟩:=hx
  simp only at h1 h2 h3 h4 hmn
  have hoj:o+j<n:=by omega
  have hjc:o+j<cur.length:=by omega
  have hjc':o+(j-1)<cur.length:=by omega
  have hmc:m<cur.length:=by omega
  have hg':gL tV cur (o+(j-1))=gL tV l (o+j-1):=by rw[show o+(j-1)=o+j-1 by omega];exact Kc9 tV h3
  have hd1:cur.drop (o+j)=l.drop (o+j):=by have:=Bc8 h3 1;rw[show o+j-1+1=o+j by omega] at this;exact this
  have hg:gL tV cur (o+j)=gL tV l (o+j):=Kc9 tV hd1;have hWm:W ((m:Int)+1)=((m+1:Nat):Int):=by rw[N9 (by omega) (by omega)];omega
  have hWj:W ((j:Int)-1)=((j-1:Nat):Int):=by rw[N9 (by omega) (by omega)];omega
  have hb:Nat.blt m cur.length=true:=by rw[Nat.blt_eq];exact hmc
  have hrow:j9 (bL tV cur) m=tV.row (gL tV cur m):=Y9 tV hmc;have sp:∀(v:V3) (x1 x2 x3:Int),W7 (tV.row v) 0 [i x1,i x2,i x3]=tV.row ⟨x1,x2,x3⟩:=λ_ _ _ _=>rfl
  have rl:∀v:V3,Nat.ble 3 (len (tV.row v))=true:=λ_=>rfl
  simp only[s8,O6,Int.toNat_natCast,Qke,hWj,fe8 tV hjc,fe8 tV hjc',fe7 tV hjc,fe7 tV hjc',o8 hj (show n-o<=4611686018427387904 by omega),hWm,hg,hg',hrow,ta6,hb,sp,rl,ib5,f8 (show m<n by omega)]
  rw[btD (l6 hj)];simp only[f8 hj,f8 (show j-1<n-o by omega),o9,Qkac]
  rw[show ((gL tV l (o+j)).x==(gL tV l (o+j-1)).x&&((gL tV l (o+j)).y==(gL tV l (o+j-1)).y&&((gL tV l (o+j)).z==(gL tV l (o+j-1)).z&&true)))=eqV (gL tV l (o+j)) (gL tV l (o+j-1)) from rfl]
  have hcons:(l.take n).drop (o+j)=gL tV l (o+j)::(l.take n).drop (o+(j+1)):=by
   rw[Qkal (by rw[Qkc];omega),List.getElem_take,pb5 tV (by omega)]
   rfl
  rw[hcons] at h2;have hlast:o+(j+1)-1=o+j:=by omega
  unfold dvF at h2;cases he:eqV (gL tV l (o+j)) (gL tV l (o+j-1)) with
  |true =>
   rw[he] at h2;simp only[if_true] at h2;refine .nx ⟨(m,cur),rfl,⟨⟨h1,?_,?_,by show m+1<=o+(j+1);omega⟩,by omega,hmn⟩⟩
   ·rw[hlast];exact h2
   ·rw[hlast];exact hd1
  |false =>
   rw[he] at h2;simp only[Qkg,if_false] at h2;refine .nx ⟨(m+1,cur.set m (gL tV l (o+j))),rfl,⟨⟨by rw[Qkt];exact h1,?_,?_,by show m+1+1<=o+(j+1);omega⟩,by omega,by show m+1<=n;omega⟩⟩
   ·rw[hlast];show (cur.set m (gL tV l (o+j))).take (m+1)++_=R;rw[Qkad (by rw[Qkt];exact hmc),Qkar,List.take_set_of_le (Qkk _),List.append_assoc]
    exact h2
   ·rw[hlast];show (cur.set m (gL tV l (o+j))).drop (o+j)=_;rw[List.drop_set_of_lt (by omega),hd1]
 ·obtain⟨m,cur⟩:=x;obtain⟨⟨h1,h2,h3,h4⟩,hj1,hmn⟩:=hx
  simp only at h1 h2 h3 h4 hmn
  refine⟨1,?_,rfl,m,cur,_,rfl,h1,?_,hmn⟩
  ·simp only[s8,O6];rw[bfD (by omega)]
  ·rw[Qkap (by rw[Qkc];omega)] at h2
   unfold dvF at h2;rw[Qki] at h2;exact h2
theorem Xd7 (l : List V3) (n : Nat) (hn : n ≤ l.length) (hl : l.length ≤ 1000000000) :
  ∃m r,R7 ⟨n,bL tV l⟩=⟨1,m,bL tV r⟩/\m<=r.length/\r.take m=ddV (l.take n)/\r.length=l.length:=by
 unfold R7 R6
 simp only
 by_cases h2:(n:Int)<2
 ·rw[btD h2];refine⟨n,l,rfl,hn,?_,rfl⟩
  have:n=0\/n=1:=by omega
  rcases this with rfl|rfl
  ·rfl
  ·cases l with
   |nil=>rfl
   |cons x l=>rfl
 ·rw[bfD h2];have h1n:1<=n:=by omega
  have hI : ∀ j, j < n → 1 ≤ j → l.take j ++ dvF (gL tV l (j - 1)) ((l.take n).drop j) = ddV (l.take n) →
    (eqV (gL tV l j) (gL tV l (j-1))=true->Re0 l n l j (j+1) (ddV (l.take n)))/\(eqV (gL tV l j) (gL tV l (j-1))=false->l.take (j+1)++dvF (gL tV l (j+1-1)) ((l.take n).drop (j+1))=ddV (l.take n)):=by
   intro j hj hj1 hR;have hcons:(l.take n).drop j=gL tV l j::(l.take n).drop (j+1):=by
    rw[Qkal (by rw[Qkc];omega),List.getElem_take,pb5 tV (by omega)]
   rw[hcons] at hR;unfold dvF at hR;constructor
   ·intro he;rw[he] at hR;simp only[if_true] at hR;exact⟨rfl,hR,rfl,Qkk _⟩
   ·intro he;rw[he] at hR;simp only[Qkg,if_false] at hR;rw[tb3 tV (show j<l.length by omega),List.append_assoc]
    exact hR
  have inner:∀k,k<n->1<=k->Re0 l n l k (k+1) (ddV (l.take n))->∃m' cur' k',lp (s8 ⟨n,0+k,n-k⟩) ⟨(k:Int),1,bL tV l⟩=(1,⟨((m':Nat):Int),k',bL tV cur'⟩)/\cur'.length=l.length/\cur'.take m'=ddV (l.take n)/\m'<=n:=by
   intro k hk hk1 hc;obtain⟨t,s,e1,rfl,m',cur',k',rfl,e2,e3,e4⟩:=td0 l n k hn hl hk k l _ hc;exact⟨m',cur',k',e1,e2,e3,e4⟩
  have key:=ea3 (step:=R5 ⟨n,bL tV l⟩) (mk:=λj (_:Unit)=>(⟨(j:Int)⟩:w6)) n (λj _=>1<=j/\j<=n/\l.take j++dvF (gL tV l (j-1)) ((l.take n).drop j)=ddV (l.take n))
   (λt s=>(t=1/\∃k:Nat,s=⟨(k:Int)⟩/\k<n/\1<=k/\Re0 l n l k (k+1) (ddV (l.take n)))\/(t=2/\l.take n=ddV (l.take n))) (by omega) (λj x hj hx=>?_) (λj x hj hx=>?_) 1 () ⟨Qkk _,h1n,by
    cases l with
    |nil=>simp only[List.length_nil] at hn;omega
    |cons x l =>
     cases n with
     |zero=>omega
     |succ n=>rfl⟩
  ·obtain⟨t,s,e1,e2⟩:=key;rw[show (⟨1⟩:w6)=⟨((1:Nat):Int)⟩ from rfl,e1]
   rcases e2 with⟨rfl,k,rfl,hk,hk1,hc⟩|⟨rfl,he⟩
   ·obtain⟨m',cur',k',e2,e3,e4,e5⟩:=inner k hk hk1 hc;simp only[Int.toNat_natCast,e2];simp only[Qke,Nat.sub_zero];refine⟨m',cur'.take m'++(List.replicate (n-m') ⟨0,0,0⟩++cur'.drop (m'+(n-m'))),?_,?_,?_,?_⟩
    ·rw[Xd5,Xd6,ld4,Va9,Va9];rfl
    ·rw[Qkb,Qkc,e3];omega
    ·rw[Qkw (by rw[Qkc,e3];omega),Qkas,Nat.min_self,e4]
    ·rw[Qkb,Qkb,Qkc,Qkat,Qkan,e3];omega
   ·exact⟨n,l,rfl,hn,he,rfl⟩
  ·obtain⟨hj1,hjn,hR⟩:=hx;obtain⟨i1,i2⟩:=hI j hj hj1 hR;have hWj:W ((j:Int)-1)=((j-1:Nat):Int):=by rw[N9 (by omega) (by omega)];omega
   have hjl:j<l.length:=by omega
   have hjl':j-1<l.length:=by omega
   simp only[R5,O7,Int.toNat_natCast,hWj,Jd2 hjl,Jd2 hjl',ld3 hjl,ld3 hjl',o8 hj (show n<=4611686018427387904 by omega)]
   rw[btD (l6 hj),bt (f8 hj),bt (f8 (show j-1<n by omega)),bt (f8 (show j<n+1 by omega))]
   simp only[o9];rw[show ((gL tV l j).x==(gL tV l (j-1)).x&&((gL tV l j).y==(gL tV l (j-1)).y&&((gL tV l j).z==(gL tV l (j-1)).z&&true)))=eqV (gL tV l j) (gL tV l (j-1)) from rfl]
   cases he:eqV (gL tV l j) (gL tV l (j-1)) with
   |false=>exact .nx ⟨(),rfl,by omega,by omega,i2 he⟩
   |true =>
    obtain⟨m',cur',k',e2,e3,e4,e5⟩:=inner j hj hj1 (i1 he);rw[e2];simp only[f8 (show m'<n+1 by omega)]
    exact .ex (.inl ⟨rfl,j,rfl,hj,hj1,i1 he⟩)
  ·obtain⟨hj1,hjn,hR⟩:=hx;refine⟨2,?_,.inr ⟨rfl,?_⟩⟩
   ·simp only[R5,O7];rw[bfD (by omega)]
   ·have:j=n:=by omega
    subst this;rw[Qkap (by rw[Qkc];omega)] at hR
    unfold dvF at hR;rw[Qki] at hR;exact hR
def Re1(l:List V3):Prop:=l.Pairwise LtV
theorem Lc4{x y z:V3}(h1:LtV x y)(h2:LtV y z):LtV x z:=by unfold LtV at *;omega
theorem Dc1(x:V3):¬ LtV x x:=by unfold LtV;omega
theorem if7(x y:V3):LtV x y\/x=y\/LtV y x:=by
 by_cases h1:LtV x y
 ·exact .inl h1
 ·by_cases h2:LtV y x
  ·exact .inr (.inr h2)
  ·refine .inr (.inl ?_);unfold LtV at h1 h2;exact Qkau (by omega) (by omega) (by omega)
theorem je2(l:List V3):List.Perm (Vb9 l) l:=List.mergeSort_perm l _
theorem ze6(x y z:V3)(h1:(!ltOf Jb7 y x)=true)(h2:(!ltOf Jb7 z y)=true):(!ltOf Jb7 z x)=true:=by
 rw[Ua2] at *
 simp only[Bool.not_eq_true',decide_eq_false_iff_not] at *
 unfold LtV at *
 omega
theorem ze7(x y:V3):((!ltOf Jb7 y x)||(!ltOf Jb7 x y))=true:=by
 rw[Ua2,Ua2];by_cases h:LtV y x
 ·have h2:¬ LtV x y:=λh2=>Dc1 x (Lc4 h2 h)
  simp[h2]
 ·simp[h]
theorem Jd3(l:List V3):(Vb9 l).Pairwise λx y=>(!ltOf Jb7 y x)=true:=List.pairwise_mergeSort ze6 ze7 l
theorem re3(p:V3):∀(a:V3) (l:List V3),p∈a::dvF a l↔p∈a::l
 |a,[]=>by simp[dvF]
 |a,x::l=>by
  have ih:=re3 p x l;unfold dvF;split
  ·rename_i h;rw[Dc0] at h;subst h;rw[ih];simp
  ·simp only[Qkak] at ih ⊢;rw[ih]
theorem Bf7(p:V3):∀l:List V3,p∈ddV l↔p∈l
 |[]=>Iff.rfl
 |x::l=>re3 p x l
theorem re4:∀(a:V3) (l:List V3),(a::l).Pairwise (λx y=>(!ltOf Jb7 y x)=true)->Re1 (a::dvF a l)
 |a,[],_=>List.pairwise_singleton _ _
 |a,x::l,h=>by
  obtain⟨h1,h2⟩:=Qkah.1 h;have ih:=re4 x l h2;have hle:=h1 x List.mem_cons_self;rw[Ua2] at hle;have hle:¬ LtV x a:=by simpa using hle
  unfold dvF;split
  ·rename_i he;rw[Dc0] at he;subst he;exact ih
  ·rename_i hne;have hlt:LtV a x:=by
    rcases if7 a x with h|h|h
    ·exact h
    ·exact absurd ((Dc0 _ _).2 h.symm) hne
    ·exact absurd h hle
   refine Qkah.2 ⟨λp hp=>?_,ih⟩
   rcases Qkak.1 hp with e|hp'
   ·subst e;exact hlt
   ·exact Lc4 hlt ((Qkah.1 ih).1 p hp')
theorem Re2(l:List V3):Re1 (ddV (Vb9 l)):=by
 have h:=Jd3 l;cases hs:Vb9 l with
 |nil=>exact .nil
 |cons a l'=>rw[hs] at h;exact re4 a l' h
noncomputable def dis(l:List V3):List V3:=ddV (Vb9 l)
theorem jc1(l:List V3)(v:V3):v∈dis l↔v∈l:=by unfold dis;rw[Bf7,(je2 l).mem_iff]
theorem ze8(l:List V3):(dis l).Nodup:=List.Pairwise.imp (λ{x y} (h:LtV x y) (e:x=y)=>Dc1 y (e ▸ h)) (Re2 l)
theorem Yc5(l:List V3):(dis l).length<=l.length:=by
 have:=List.Nodup.length_le_of_subset (ze8 l) (λv hv=>(jc1 l v).1 hv)
 exact this
theorem zd0(l:List V3)(n:Nat)(hn:n<=l.length):slR tV (bL tV l) 0 n=l.take n:=cd4 tV (by rw[Qkc];omega) λk hk=>by
 rw[Qke,Y9 tV (by omega)]
 congr 1;simp[gL,Qkz,Qkai,hk]
theorem Lc5(l:List V3)(n:Nat)(hn:n<=l.length):okS tV (bL tV l) 0 n=true:=Gb9 tV (f:=λk=>gL tV l k) λk hk=>by rw[Qke,Y9 tV (by omega)]
theorem zd1(a:V3)(l:List V3)(hl:l.length<=1000000):la8 (a,l)=⟨1,(a::l).length,bL tV (a::l)⟩:=by
 have ec:u7 (λk=>tV.row (gL tV (a::l) k)) (List.range (l.length+1))=bL tV (a::l):=Qd7 tV (a::l)
 unfold la8 Z3;simp only[ec,ta6];have r:Nat.ble ((0+(a::l).length)*24) room=true:=by rw[Qkam];unfold room;simp only[List.length_cons];omega
 rw[r,Qke];rfl
theorem Dc2(a:V3)(l:List V3)(hl:l.length<=1000000):∃m r,R7 ⟨(a::l).length,app (bL tV (Vb9 (slR tV (bL tV (a::l)) 0 (a::l).length))) (i9 (bL tV (a::l)) (a::l).length)⟩=⟨1,m,bL tV r⟩/\m<=r.length/\r.take m=dis (a::l)/\r.length=l.length+1:=by
 have hs:(Vb9 (a::l)).length=(a::l).length:=xd3 _;rw[vb4,ld4,Va9];obtain⟨m,r,k1,k2,k3,k4⟩:=Xd7 (Vb9 (a::l)++(a::l).drop (a::l).length) (a::l).length (by rw[Qkb,hs];omega) (by rw[Qkb,hs,Qkan];simp only[List.length_cons];omega)
 refine⟨m,r,k1,k2,?_,by rw[k4,Qkb,hs,Qkan];simp only[List.length_cons];omega⟩
 rw[k3,Qkw (by rw[hs];omega),List.take_of_length_le (by rw[hs];omega)]
 rfl
theorem Xd8(l:List V3)(hl:l.length<=2000000)(r:List V3):(Bool.and (Nat.ble l.length room) (Bool.and (Nat.ble l.length (len (bL tV (l++r)))) (okS tV (bL tV (l++r)) 0 l.length)))=true:=by
 rw[Lc5 _ _ (by rw[Qkb];omega),ta6,Qkp,Qkp,Qkam,Qkam]
 refine⟨by unfold room;omega,by rw[Qkb];omega,rfl⟩
theorem Pc4(a:V3)(l:List V3)(hl:l.length<=1000000):Rd (one (r1L tV)) (Aa1 (a,l)) (λr=>r=dis (a::l)):=by
 obtain⟨m,r,k1,k2,k3,_⟩:=Dc2 a l hl;have hok:okL tV (l.length+1) (λk=>tV.row (gL tV (a::l) k))=true:=Gb9 tV (f:=λk=>gL tV (a::l) k) λ_ _=>rfl
 have hr:=Xd8 (a::l) (by simp only[List.length_cons];omega) []
 rw[Qki] at hr;unfold Aa1;simp only[ne2,ne3,zd1 a l hl,hok,k1,o9,Qkq,hr];refine⟨_,r.take m,rfl,?_,k3⟩;show Bool.rec (motive:=λ_=>Option (List V3)) none (some (slR tV (bL tV r) 0 m)) (Bool.and true (okS tV (bL tV r) 0 m))=_
 rw[zd0 r m k2,Lc5 r m k2];rfl
theorem je3(a:V3)(l:List V3)(hl:l.length<=1000000):ob1 (a,l)=dis (a::l):=(Pc4 a l hl).p
theorem je4(a:V3)(l:List V3)(hl:l.length<=1000000):ob2 (a,l)=true:=(Pc4 a l hl).g
end Go.Ev.Ce
namespace Go.Ev.Ce
open Go Go.Ev Go.Ev.L Go.Proofs
theorem Xd9(p:Pln)(v:V3):Ya0 p v=some (i (ba9 p v),[]):=by
 unfold Ya0 ba9;simp only[Hd7,Hd8,(ec8 v).1,(ec8 v).2,pe0,pe1,o9];cases hp:okp p with
 |false=>rfl
 |true =>
  cases hv:inV v with
  |false=>rfl
  |true =>
   have hb:=Kb4 hp;have hd:=Qe0 hb hv;have e:j7 p.n v=dot p.n v:=by
    unfold j7;simp only[zb1,Tb3];exact lb1 (hd.mono (by omega))
   rw[e];simp only[Bool.not_true,Na3,Qkac,if_true,Ib6];by_cases h1:dot p.n v<p.b
   ·rw[if_pos h1,if_pos (by omega)]
   ·rw[if_neg h1];by_cases h2:dot p.n v>p.b
    ·rw[if_pos h2,if_neg (by omega),if_pos (by omega)]
    ·rw[if_neg h2,if_neg (by omega),if_neg (by omega)]
theorem Dc3(p:Pln)(v:V3):qa2 p v=ba9 p v:=by unfold qa2;rw[Xd9];rfl
theorem Dc4(p:Pln)(v:V3):qa3 p v=true:=by unfold qa3;rw[Xd9];rfl
theorem if8{v:V3}(h1:Sm 1000000000000000000 v.x)(h2:Sm 1000000000000000000 v.y)(h3:Sm 1000000000000000000 v.z):fa2 [v.x,v.y,v.z]=g3 v/\fa3 [v.x,v.y,v.z]=true:=by
 have hd:=jd2 [v.x,v.y,v.z] (by simp) (by
  intro x hx;simp only[Qkak,List.not_mem_nil,or_false] at hx
  rcases hx with rfl|rfl|rfl<;>assumption)
 have hg:([v.x,v.y,v.z].foldl (λg x=>Nat.gcd g x.natAbs) 0:Nat)=Nat.gcd (Nat.gcd v.x.natAbs v.y.natAbs) v.z.natAbs:=by
  simp only[List.foldl_cons,List.foldl_nil,Nat.gcd_zero_left]
 exact⟨by unfold fa2;rw[hd,hg];rfl,by unfold fa3;rw[hd];rfl⟩
theorem Re3 {v : V3} (h1 : Sm 1000000000000000000 v.x) (h2 : Sm 1000000000000000000 v.y) (h3 : Sm 1000000000000000000 v.z) :
  Xa9 v=if g3 v=0 then some (.tup [.agg (tV.row ⟨0,0,0⟩),i 0],[]) else some (.tup [.agg (tV.row ⟨W (Int.tdiv v.x (g3 v)),W (Int.tdiv v.y (g3 v)),W (Int.tdiv v.z (g3 v))⟩),i (g3 v)],[]):=by
 obtain⟨e1,e2⟩:=if8 h1 h2 h3;unfold Xa9;simp only[e1,e2,o9];by_cases h:g3 v=0
 ·rw[if_pos h,bt (by simpa using h)];rfl
 ·rw[if_neg h,bf (by simpa using h),bf (by simpa using h),bf (by simpa using h),bf (by simpa using h)];rfl
theorem Pc5(a c d:V3):za7 a c d=some (.tup [.agg (tP.row (G5 a c d).1),b (G5 a c d).2],[]):=by
 unfold za7 G5;simp only[(ec8 _).1,(ec8 _).2];cases ha:inV a with
 |false=>rfl
 |true =>
  cases hc:inV c with
  |false=>rfl
  |true =>
   cases hd:inV d with
   |false=>rfl
   |true =>
    obtain⟨e,k1,k2,k3⟩:=Kb7 ha hc hd;have e':C5 (Ga3 c a) (Ga3 d a)=c8 (sub c a) (sub d a):=e;rw[e'];generalize c8 (sub c a) (sub d a)=n at *
    have m1:=k1.mono (m:=1000000000000000000) (by omega)
    have m2:=k2.mono (m:=1000000000000000000) (by omega)
    have m3:=k3.mono (m:=1000000000000000000) (by omega)
    have hpr:=Re3 m1 m2 m3;have gp:rb9 n=true:=by unfold rb9;rw[hpr];split<;>rfl
    by_cases h0:g3 n=0
    ·have pp:Ja4 n=(⟨0,0,0⟩,0):=by unfold Ja4;rw[hpr,if_pos h0];rfl
     have hz:j7 ⟨0,0,0⟩ a=0:=by unfold j7;simp only[Int.zero_mul];rfl
     simp only[gp,pp,hz,Qkac,if_true,h0];rfl
    ·have hp:=ic7 n;have q1:=Q6 (g:=g3 n) k1 (by omega)
     have q2:=Q6 (g:=g3 n) k2 (by omega)
     have q3:=Q6 (g:=g3 n) k3 (by omega)
     rw[lb1 (q1.mono (by omega)),lb1 (q2.mono (by omega)),lb1 (q3.mono (by omega))] at hpr
     have pp:Ja4 n=(⟨Int.tdiv n.x (g3 n),Int.tdiv n.y (g3 n),Int.tdiv n.z (g3 n)⟩,g3 n):=by unfold Ja4;rw[hpr,if_neg h0];rfl
     have hdot:j7 ⟨Int.tdiv n.x (g3 n),Int.tdiv n.y (g3 n),Int.tdiv n.z (g3 n)⟩ a=dot ⟨Int.tdiv n.x (g3 n),Int.tdiv n.y (g3 n),Int.tdiv n.z (g3 n)⟩ a:=by
      unfold j7;simp only[zb1,Tb3];obtain⟨⟨a1,a2⟩,⟨a3,a4⟩,a5,a6⟩:=(Ka2 a).1 ha;have r1:=mb q1.1 q1.2 a1 a2;have r2:=mb q2.1 q2.2 a3 a4;have r3:=mb q3.1 q3.2 a5 a6;rw[N9 (by omega) (by omega)]
      rfl
     simp only[gp,pp,hdot,Qkac,if_true,h0,if_false,show g3 n>0 from by omega,decide_true]
     rfl
theorem Tb8(a b c:V3):L6 a b c=G5 a b c:=by unfold L6;rw[Pc5];rfl
theorem tc5(a b c:V3):oa7 a b c=true:=by unfold oa7;rw[Pc5];rfl
theorem Re4(v:V3)(p:Pln):gb2 ⟨v.x,v.y,v.z,p.n.x,p.n.y,p.n.z,p.b⟩=⟨1,ba9 p v != 0⟩:=by
 unfold gb2 Ba7;simp only[Dc3,Dc4,o9]
theorem if9(l:List V3)(p:Pln)(hl:l.length<=1000000000):ca8 ⟨l,p.n.x,p.n.y,p.n.z,p.b⟩=⟨1,if l.any (λv=>ba9 p v != 0) then ((l.findIdx (λv=>ba9 p v != 0):Nat):Int) else -1⟩:=by
 have h:=xa0 (step:=K5 ⟨l,(l.length:Int),p.n.x,p.n.y,p.n.z,p.b⟩) (mk:=λj=>(⟨(j:Int)⟩:p7)) (c:=λv=>ba9 p v != 0) (u:=1) (fin:=2) tV l hl
  (λj hj=>by
   simp only[K5,J0,Int.toNat_natCast,Re4,o8 hj (by omega)]
   rw[bt (dc4 hj),bt (f8 hj)]
   rfl)
  (by simp only[K5,J0];rw[bf (Tb4 (Qkd _))]) 0 (Qkh _)
 rw[Qkm] at h;unfold ca8 J7;simp only[l9,k9];rw[show (⟨0⟩:p7)=⟨((0:Nat):Int)⟩ from rfl,h]
 split
 ·simp only[Qke];rfl
 ·rfl
theorem re5(l:List V3)(p:Pln)(hl:l.length<=1000000000):r7 ⟨l,p.n.x,p.n.y,p.n.z,p.b⟩=⟨1,l.any λv=>ba9 p v != 0⟩:=by
 unfold r7 D3;simp only[l9,k9,if9 l p hl];split
 ·rename_i h;rw[h,show decide (((l.findIdx (λv=>ba9 p v != 0):Nat):Int)>=0)=true from decide_eq_true (by omega)];rfl
 ·rename_i h;rw[Qkae] at h;rw[h];rfl
theorem jf0(v:V3)(p:Pln):Qa9 ⟨v.x,v.y,v.z,p.n.x,p.n.y,p.n.z,p.b⟩=⟨1,decide (ba9 p v>0)⟩:=by
 unfold Qa9 oa8;simp only[Dc3,Dc4,o9]
theorem jf1(l:List V3)(p:Pln)(hl:l.length<=1000000000):da1 ⟨l,p.n.x,p.n.y,p.n.z,p.b⟩=⟨1,if l.any (λv=>decide (ba9 p v>0)) then ((l.findIdx (λv=>decide (ba9 p v>0)):Nat):Int) else -1⟩:=by
 have h:=xa0 (step:=K6 ⟨l,(l.length:Int),p.n.x,p.n.y,p.n.z,p.b⟩) (mk:=λj=>(⟨(j:Int)⟩:p8)) (c:=λv=>decide (ba9 p v>0)) (u:=1) (fin:=2) tV l hl
  (λj hj=>by
   simp only[K6,J1,Int.toNat_natCast,jf0,o8 hj (by omega)]
   rw[bt (dc4 hj),bt (f8 hj)]
   rfl)
  (by simp only[K6,J1];rw[bf (Tb4 (Qkd _))]) 0 (Qkh _)
 rw[Qkm] at h;unfold da1 J8;simp only[l9,k9];rw[show (⟨0⟩:p8)=⟨((0:Nat):Int)⟩ from rfl,h]
 split
 ·simp only[Qke];rfl
 ·rfl
theorem jf2(l:List V3)(p:Pln)(hl:l.length<=1000000000):T7 ⟨l,p.n.x,p.n.y,p.n.z,p.b⟩=⟨1,l.any λv=>decide (ba9 p v>0)⟩:=by
 unfold T7 D4;simp only[l9,k9,jf1 l p hl];split
 ·rename_i h;rw[h,show decide (((l.findIdx (λv=>decide (ba9 p v>0)):Nat):Int)>=0)=true from decide_eq_true (by omega)];rfl
 ·rename_i h;rw[Qkae] at h;rw[h];rfl
def bey(l:List V3)(p:Pln):Bool:=l.any λv=>decide (ba9 p v>0)
theorem zd2(l:List V3)(p:Pln)(hl:l.length<=1000000000):Oa8 l p=some (b (bey l p),[]):=by
 unfold Oa8;simp only[l9,k9,jf2 l p hl];rfl
theorem Re5(l:List V3)(p:Pln)(hl:l.length<=1000000000):ja5 l p=bey l p:=by unfold ja5;rw[zd2 l p hl];rfl
theorem Re6(l:List V3)(p:Pln)(hl:l.length<=1000000000):L8 l p=true:=by unfold L8;rw[zd2 l p hl];rfl
theorem zd3{α:Type}(t:Ty α)(l:List α){j k:Nat}(h:k<j):gL t (l.take j) k=gL t l k:=by
 simp[gL,Qkz,Qkai,h]
theorem Re7 (l : List V3) (i j : Nat) (hi : i < l.length) (hj : j < i) (hl : l.length ≤ 1000000) :
  lp (T4 ⟨(i:Int),(j:Int),(l.length:Int),(i:Int),(i:Int),(j:Int),(j:Int),l,l⟩) ⟨0⟩ =
   if (l.take j).any (λv=>(G5 v (gL tV l j) (gL tV l i)).2) then (1,⟨((l.take j).findIdx (λv=>(G5 v (gL tV l j) (gL tV l i)).2):Nat)⟩) else (2,⟨(j:Int)⟩):=by
 have hlen:(l.take j).length=j:=by rw[Qkc];omega
 have h:=xa0 (step:=T4 ⟨(i:Int),(j:Int),(l.length:Int),(i:Int),(i:Int),(j:Int),(j:Int),l,l⟩) (mk:=λk=>(⟨(k:Int)⟩:L7)) (c:=λv=>(G5 v (gL tV l j) (gL tV l i)).2) (u:=1) (fin:=2) tV (l.take j) (by omega)
  (λk hk=>by
   rw[hlen] at hk;simp only[T4,za8,Int.toNat_natCast,Tb8,tc5,zd3 tV l hk,l9,k9,re5 l _ (show l.length<=1000000000 by omega),o8 hk (by omega)]
   rw[btD (l6 hk),bt (f8 (by omega)),bt (f8 (by omega)),bt (f8 hi),o9]
   cases (G5 (gL tV l k) (gL tV l j) (gL tV l i)).2<;>rfl)
  (by rw[hlen];simp only[T4,za8];rw[bfD (q8 (Qkd _))]) 0 (Qkh _)
 rw[Qkm,hlen] at h;rw[show (⟨0⟩:L7)=⟨((0:Nat):Int)⟩ from rfl,h]
 split
 ·simp only[Qke]
 ·rfl
def ixs(n:Nat):List Int:=(List.range n).map λk:Nat=>(k:Int)
theorem tb4(n:Nat):(ixs n).length=n:=by simp[ixs]
theorem re6{n k:Nat}(h:k<n):gL tI (ixs n) k=(k:Int):=by
 simp[gL,ixs,Qkz,List.getElem?_map,Qkaa h]
noncomputable def sp2(l:List V3)(i:Nat)(m:Int):Bool:=(l.take m.toNat).any λv=>(G5 v (gL tV l m.toNat) (gL tV l i)).2
theorem Re8 (l : List V3) (i : Nat) (hi : i < l.length) (hl : l.length ≤ 1000000) :
  lp (ba6 ⟨(i:Int),(l.length:Int),(i:Int),(i:Int)⟩) ⟨0,l,l⟩=if (ixs i).any (sp2 l i) then (1,⟨((ixs i).findIdx (sp2 l i):Nat),l,l⟩) else (2,⟨(i:Int),l,l⟩):=by
 have h:=xa0 (step:=ba6 ⟨(i:Int),(l.length:Int),(i:Int),(i:Int)⟩) (mk:=λj=>(⟨(j:Int),l,l⟩:O4)) (c:=sp2 l i) (u:=1) (fin:=2) tI (ixs i) (by rw[tb4];omega)
  (λj hj=>by
   rw[tb4] at hj;simp only[ba6,za9,Int.toNat_natCast,Nat.sub_zero,l9,k9,Re7 l i j hi hj hl,o8 hj (by omega),re6 hj]
   rw[btD (l6 hj),bt (f8 (by omega))]
   unfold sp2;simp only[Int.toNat_natCast];cases ((l.take j).any λv=>(G5 v (gL tV l j) (gL tV l i)).2)<;>rfl)
  (by rw[tb4];simp only[ba6,za9];rw[bfD (q8 (Qkd _))]) 0 (Qkh _)
 rw[Qkm,tb4] at h;rw[show (⟨0,l,l⟩:O4)=⟨((0:Nat):Int),l,l⟩ from rfl,h]
 split
 ·simp only[Qke]
 ·rfl
noncomputable def sp1(l:List V3)(m:Int):Bool:=(ixs m.toNat).any (sp2 l m.toNat)
theorem Bf8 (l : List V3) (hl : l.length ≤ 1000000) :
  lp (ua8 ⟨(l.length:Int)⟩) ⟨0,l,l⟩=if (ixs l.length).any (sp1 l) then (1,⟨((ixs l.length).findIdx (sp1 l):Nat),l,l⟩) else (2,⟨(l.length:Int),l,l⟩):=by
 have h:=xa0 (step:=ua8 ⟨(l.length:Int)⟩) (mk:=λj=>(⟨(j:Int),l,l⟩:aa4)) (c:=sp1 l) (u:=1) (fin:=2) tI (ixs l.length) (by rw[tb4];omega)
  (λi hi=>by
   rw[tb4] at hi;simp only[ua8,Aa0,Int.toNat_natCast,Nat.sub_zero,l9,k9,Re8 l i hi hl,o8 hi (by omega),re6 hi]
   rw[btD (l6 hi),bt (f8 (by omega))]
   unfold sp1;simp only[Int.toNat_natCast];cases (ixs i).any (sp2 l i)<;>rfl)
  (by rw[tb4];simp only[ua8,Aa0];rw[bfD (q8 (Qkd _))]) 0 (Qkh _)
 rw[Qkm,tb4] at h;rw[show (⟨0,l,l⟩:aa4)=⟨((0:Nat):Int),l,l⟩ from rfl,h]
 split
 ·simp only[Qke]
 ·rfl
theorem Jd4{α:Type}{l:List α}{c:α->Bool}(h:l.any c=true):l.findIdx c<l.length:=by
 obtain⟨x,h1,h2⟩:=Qka.1 h;exact Qkaf ⟨x,h1,h2⟩
theorem jc2{n:Nat}{c:Int->Bool}(h:(ixs n).any c=true):(ixs n).findIdx c<n/\c ((ixs n).findIdx c:Nat)=true:=by
 have hlt:=Jd4 h;have h1:=Qkx (xs:=ixs n) (p:=c) (w:=hlt);rw[tb4] at hlt;refine⟨hlt,?_⟩;simpa [ixs] using h1
noncomputable def iF(l:List V3):Nat:=(ixs l.length).findIdx (sp1 l)
noncomputable def jF(l:List V3):Nat:=(ixs (iF l)).findIdx (sp2 l (iF l))
noncomputable def kF(l:List V3):Nat:=(l.take (jF l)).findIdx (λv=>(G5 v (gL tV l (jF l)) (gL tV l (iF l))).2)
noncomputable def plF(l:List V3):Pln:=(G5 (gL tV l (kF l)) (gL tV l (jF l)) (gL tV l (iF l))).1
noncomputable def pc0(l:List V3):Bool:=if (ixs l.length).any (sp1 l) then !(l.any λv=>ba9 (plF l) v != 0) else true
theorem Yd0(l:List V3)(hl:l.length<=1000000):kb5 l=some (b (pc0 l),[]):=by
 unfold kb5 pc0;simp only[l9,k9];rw[Bf8 l hl];by_cases h:(ixs l.length).any (sp1 l)=true
 ·obtain⟨hi,h1⟩:=jc2 h;have h1:(ixs (iF l)).any (sp2 l (iF l))=true:=h1;obtain⟨hj,h2⟩:=jc2 h1;have h2:(l.take (jF l)).any (λv=>(G5 v (gL tV l (jF l)) (gL tV l (iF l))).2)=true:=h2
  rw[if_pos h,if_pos h];simp only[Int.toNat_natCast,Nat.sub_zero];rw[show (ixs l.length).findIdx (sp1 l)=iF l from rfl,Re8 l (iF l) hi hl,if_pos h1]
  simp only[Int.toNat_natCast,Nat.sub_zero];rw[show (ixs (iF l)).findIdx (sp2 l (iF l))=jF l from rfl,Re7 l (iF l) (jF l) hi hj hl,if_pos h2]
  simp only[Int.toNat_natCast,Tb8];rw[show (l.take (jF l)).findIdx (λv=>(G5 v (gL tV l (jF l)) (gL tV l (iF l))).2)=kF l from rfl,show (G5 (gL tV l (kF l)) (gL tV l (jF l)) (gL tV l (iF l))).1=plF l from rfl,re5 l _ (by omega)]
  rfl
 ·rw[if_neg h,if_neg h];rfl
theorem jf3(l:List V3)(hl:l.length<=1000000):Eb8 l=pc0 l:=by unfold Eb8;rw[Yd0 l hl];rfl
theorem jf4(l:List V3)(hl:l.length<=1000000):Eb9 l=true:=by unfold Eb9;rw[Yd0 l hl];rfl
theorem zd4(v:V3):Ga9 v=some (b (!inV v),[]):=by
 unfold Ga9;simp only[(ec8 v).1,(ec8 v).2,o9]
theorem Re9(v:V3):Ya1 v=!inV v:=by unfold Ya1;rw[zd4];rfl
theorem Se0(v:V3):Ya2 v=true:=by unfold Ya2;rw[zd4];rfl
theorem jf5(l:List V3)(hl:l.length<=1000000000):da4 ⟨l⟩=⟨1,if l.any (λv=>!inV v) then ((l.findIdx (λv=>!inV v):Nat):Int) else -1⟩:=by
 have h:=xa0 (step:=K7 ⟨l,(l.length:Int)⟩) (mk:=λj=>(⟨(j:Int)⟩:p9)) (c:=λv=>!inV v) (u:=1) (fin:=2) tV l hl
  (λj hj=>by
   simp only[K7,J2,Int.toNat_natCast,Re9,Se0,o8 hj (by omega)]
   rw[bt (dc4 hj),bt (f8 hj),o9])
  (by simp only[K7,J2];rw[bf (Tb4 (Qkd _))]) 0 (Qkh _)
 rw[Qkm] at h;unfold da4 J9;simp only[l9,k9];rw[show (⟨0⟩:p9)=⟨((0:Nat):Int)⟩ from rfl,h]
 split
 ·simp only[Qke];rfl
 ·rfl
theorem jf6(l:List V3)(hl:l.length<=1000000000):U0 ⟨l⟩=⟨1,l.any λv=>!inV v⟩:=by
 unfold U0 D5;simp only[l9,k9,jf5 l hl];split
 ·rename_i h;rw[h,show decide (((l.findIdx (λv=>!inV v):Nat):Int)>=0)=true from decide_eq_true (by omega)];rfl
 ·rename_i h;rw[Qkae] at h;rw[h];rfl
noncomputable def lb4(l:List V3):Int:=if (l.length:Int)>48 then 2 else if l.any (λv=>!inV v) then 3 else if pc0 l then 11 else 0
theorem zd5(l:List V3)(hl:l.length<=1000000):Ya3 l=some (i (lb4 l),[]):=by
 unfold Ya3 lb4;simp only[l9,k9,ta5,jf6 l (by omega),jf3 l hl,jf4 l hl]
 by_cases h:(l.length:Int)>48
 ·rw[btD h,if_pos h]
 ·rw[bfD h,if_neg h];cases l.any λv=>!inV v with
  |true=>rfl
  |false=>cases pc0 l<;>rfl
theorem ld5(l:List V3)(hl:l.length<=1000000):Ya4 l=lb4 l:=by unfold Ya4;rw[zd5 l hl];rfl
theorem ld6(l:List V3)(hl:l.length<=1000000):Ya5 l=true:=by unfold Ya5;rw[zd5 l hl];rfl
theorem Se1{p:Pln}(h:Bd p):Ja3 p=ma0 p:=by
 unfold Ja3 Ga3 ma0
 simp only
 have:=h.x1;have:=h.x2;have:=h.y1;have:=h.y2;have:=h.z1;have:=h.z2;have:=h.b1;have:=h.b2
 rw[N9 (by omega) (by omega),N9 (by omega) (by omega),N9 (by omega) (by omega),N9 (by omega) (by omega)]
 simp only[Int.zero_sub]
noncomputable def Jd5(p:Pln):List b7:=[i p.n.x,i p.n.y,i p.n.z,i p.b,b true]
noncomputable def Fb8(l:List Pln):List (List b7):=l.map Jd5
theorem zd6(x q:Pln):Bb7 flK [i x.n.x,i x.n.y,i x.n.z,i x.b] (Jd5 q)=eqP q x:=by
 show Bool.and (decide (x.n.x=q.n.x)) (Bool.and (decide (x.n.y=q.n.y)) (Bool.and (decide (x.n.z=q.n.z)) (Bool.and (decide (x.b=q.b)) true)))=_;unfold eqP;have h:∀a c:Int,decide (a=c)=(c==a):=λa c=>by rw[Bool.eq_iff_iff,decide_eq_true_eq,beq_iff_eq];exact eq_comm
 rw[h,h,h,h]
theorem Yd1(x:Pln):∀l,Da3 4 [(0,.int .i64),(1,.int .i64),(2,.int .i64),(3,.int .i64)] [i x.n.x,i x.n.y,i x.n.z,i x.b] (Fb8 l)=Cc5 l x
 |[]=>rfl
 |q::l=>by
  have ih:=Yd1 x l;unfold Da3 at ih ⊢;show Option.rec (motive:=λ_=>Bool) false (λr=>toB (hdA (i9 r 4))) (Bool.rec (motive:=λ_=>Option (List b7)) (lc4 flK [i x.n.x,i x.n.y,i x.n.z,i x.b] (Fb8 l)) (some (Jd5 q)) (Bb7 flK [i x.n.x,i x.n.y,i x.n.z,i x.b] (Jd5 q)))=Cc5 (q::l) x
  rw[zd6];unfold Cc5 at ih ⊢;rw[List.any_cons];cases eqP q x with
  |true=>rfl
  |false=>exact ih
theorem je5(x:Pln):∀l,Cc5 l x=false->V5 [(0,.int .i64),(1,.int .i64),(2,.int .i64),(3,.int .i64)] [i x.n.x,i x.n.y,i x.n.z,i x.b] [i x.n.x,i x.n.y,i x.n.z,i x.b,b true] (Fb8 l)=Fb8 (l++[x])
 |[],_=>rfl
 |q::l,h=>by
  unfold Cc5 at h;rw[List.any_cons,Bool.or_eq_false_iff] at h;show Bool.rec (motive:=λ_=>List (List b7)) (Jd5 q::V5 flK [i x.n.x,i x.n.y,i x.n.z,i x.b] (Jd5 x) (Fb8 l)) (Jd5 x::Fb8 l) (Bb7 flK [i x.n.x,i x.n.y,i x.n.z,i x.b] (Jd5 q))=_
  rw[zd6,h.1,show V5 flK [i x.n.x,i x.n.y,i x.n.z,i x.b] (Jd5 x) (Fb8 l)=_ from je5 x l h.2]
  rfl
noncomputable def tc6(s:List Pln)(p:Pln):List Pln:=if Cc5 s p then s else s++[p]
theorem Se2(s:List Pln)(p q:Pln):q∈tc6 s p↔q∈s\/q=p:=by
 unfold tc6;split
 ·rename_i h;rw[Xd1] at h;exact⟨.inl,λh'=>h'.elim id λe=>e ▸ h⟩
 ·rw[Qkao,Qkaj]
theorem ld7{s:List Pln}{p:Pln}(h:s.Nodup):(tc6 s p).Nodup:=by
 unfold tc6;split
 ·exact h
 ·rename_i hn;rw[Xd1] at hn;rw[List.nodup_append];exact⟨h,by simp,λa ha b hb=>by rw[Qkaj.1 hb];intro e;exact hn (e ▸ ha)⟩
theorem Yd2(s:List Pln)(p:Pln):(tc6 s p).length<=s.length+1:=by
 unfold tc6;split
 ·omega
 ·simp
def fil(l:List V3)(s:List Pln):List Pln:=s.filter λp=>!bey l p
theorem Yc6(l:List V3)(s:List Pln)(p:Pln):fil l (s++[p])=if bey l p then fil l s else fil l s++[p]:=by
 unfold fil;rw[Qku,Qky,List.filter_nil];cases bey l p<;>simp
theorem Jd6(l:List V3)(s:List Pln):(fil l s).length<=s.length:=Qkag _ _
noncomputable def pc1(l:List V3)(a c:Nat)(s:List Pln)(k:Nat):List Pln :=
 if (G5 (gL tV l k) (gL tV l c) (gL tV l a)).2 then tc6 (tc6 s (G5 (gL tV l k) (gL tV l c) (gL tV l a)).1) (ma0 (G5 (gL tV l k) (gL tV l c) (gL tV l a)).1) else s
noncomputable def G2(l:List V3)(a:Nat)(s:List Pln)(c:Nat):List Pln:=(List.range c).foldl (pc1 l a c) s
noncomputable def G1(l:List V3)(s:List Pln)(a:Nat):List Pln:=(List.range a).foldl (G2 l a) s
noncomputable def G0(l:List V3):List Pln:=(List.range l.length).foldl (G1 l) []
theorem zd7(l:List V3)(a c:Nat)(s:List Pln)(k:Nat):(pc1 l a c s k).length<=s.length+2:=by
 unfold pc1;split
 ·have h1:=Yd2 (tc6 s (G5 (gL tV l k) (gL tV l c) (gL tV l a)).1) (ma0 (G5 (gL tV l k) (gL tV l c) (gL tV l a)).1);have h2:=Yd2 s (G5 (gL tV l k) (gL tV l c) (gL tV l a)).1;omega
 ·omega
theorem Bf9(l:List V3)(a:Nat)(s:List Pln)(c:Nat):(G2 l a s c).length<=s.length+2*c:=ld0 (zd7 l a c) s c
theorem je6(l:List V3)(a:Nat)(s:List Pln):∀j,j<=a->a<=48->((List.range j).foldl (G2 l a) s).length<=s.length+96*j
 |0,_,_=>Qkk _
 |j+1,h,ha=>by
  rw[M0];have h1:=je6 l a s j (by omega) ha
  have h2:=Bf9 l a ((List.range j).foldl (G2 l a) s) j;omega
theorem Jd7(l:List V3)(hl:l.length<=48):∀j,j<=l.length->((List.range j).foldl (G1 l) []).length<=5000*j
 |0,_=>Qkk _
 |j+1,h=>by
  rw[M0];have h1:=Jd7 l hl j (by omega)
  have h2:(G1 l ((List.range j).foldl (G1 l) []) j).length<=_:=je6 l j ((List.range j).foldl (G1 l) []) j (Qkk _) (by omega)
  omega
@[reducible] noncomputable def mkf(l:List V3)(k:Nat)(s:List Pln):D6:=⟨phP (fil l s),(k:Int),Fb8 s,(fil l s).length,bL tP (fil l s)⟩
theorem Pb0{n:Nat}{l:List Pln}(hn:n=l.length)(h:l.length<=1000000000):(Nat.beq n (len (bL tP l))&&Nat.ble ((n+1)*32) room)=true:=by
 subst hn;rw[ta6,Qkq,Bool.true_and];exact Xc7 (by omega)
theorem re7(o:List Pln)(x:Pln):phP (o++[x])=1:=by cases o<;>rfl
theorem Se3 (l : List V3) (hl : l.length ≤ 48) (a c k : Nat) (ha : a < l.length) (hc : c < a) (hk : k < c) (x1 x2 x3 x4 : Int) (s : List Pln) (ho : s.length ≤ 900000) :
  V7 ⟨(a:Int),(c:Int),x1,x2,x3,x4,(c:Int),l,l⟩ (mkf l k s)=.next (mkf l (k+1) (pc1 l a c s k)):=by
 have hfl:Ja3 (G5 (gL tV l k) (gL tV l c) (gL tV l a)).1=ma0 (G5 (gL tV l k) (gL tV l c) (gL tV l a)).1:=Se1 (hf8 _ _ _);have hb:∀p,ja5 l p=bey l p:=λp=>Re5 l p (by omega)
 have hg:∀p,L8 l p=true:=λp=>Re6 l p (by omega)
 have hn:=o8 hk (show c<=4611686018427387904 by omega)
 have b1:inB (a:Int) l.length=true:=f8 ha;have b2:inB (c:Int) l.length=true:=f8 (by omega)
 have b3:inB (k:Int) l.length=true:=f8 (by omega)
 have hfl2:=Jd6 l s;unfold pc1;unfold mkf;generalize hT:G5 (gL tV l k) (gL tV l c) (gL tV l a)=T at *
 cases hO:fil l s with
 |nil =>
  show Z4 Stp.next Stp.exit Stp.fail _ _=_;simp only[Z4,Tb8,tc5,Int.toNat_natCast,l9,ta5,hT,hfl,hb,hg,hn,b1,b2,b3,Yd1];rw[btD (l6 hk)];cases h2:T.2 with
  |false=>simp only[Qkg,if_false,hO];rfl
  |true =>
   simp only[if_true,o9];cases h3:Cc5 s T.1 with
   |true =>
    cases h4:Cc5 s (ma0 T.1) with
    |true=>simp only[tc6,h3,h4,if_true,hO];rfl
    |false =>
     rw[je5 _ _ h4];cases h5:bey l (ma0 T.1)<;>(simp only[tc6,h3,h4,h5,if_true,if_false,Qkg,Yc6,hO];rfl)
   |false =>
    simp only[je5 _ _ h3,Yd1];cases h5:bey l T.1<;>cases h4:Cc5 (s++[T.1]) (ma0 T.1)<;>(try simp only[je5 _ _ h4])<;>cases h6:bey l (ma0 T.1)<;>(simp only[tc6,h3,h4,h5,h6,if_true,if_false,Qkg,Yc6,hO];rfl)
 |cons q o =>
  have rr:(Nat.beq (q::o).length (len (bL tP (q::o)))&&Nat.ble (((q::o).length+1)*32) room)=true:=Pb0 rfl (by rw[<- hO];omega)
  have ap:∀(O:List Pln) (p:Pln),app (bL tP O) [[i p.n.x,i p.n.y,i p.n.z,i p.b]]=bL tP (O++[p]):=λO p=>Va9 tP O [p]
  have rr2:∀p:Pln,(Nat.beq ((q::o).length+1) (len (bL tP (q::o++[p])))&&Nat.ble (((q::o).length+1+1)*32) room)=true:=λp=>Pb0 (by simp) (by rw[<- hO,Qkb,List.length_singleton];omega)
  show Z5 Stp.next Stp.exit Stp.fail _ _=_;simp only[Z5,Tb8,tc5,Int.toNat_natCast,l9,ta5,hT,hfl,hb,hg,hn,b1,b2,b3,Yd1,rr,ap,rr2];rw[btD (l6 hk)];cases h2:T.2 with
  |false=>simp only[Qkg,if_false,hO];rfl
  |true =>
   simp only[if_true,o9];cases h3:Cc5 s T.1 with
   |true =>
    cases h4:Cc5 s (ma0 T.1) with
    |true=>simp only[tc6,h3,h4,if_true,hO];rfl
    |false =>
     rw[je5 _ _ h4];cases h5:bey l (ma0 T.1)<;>(simp only[tc6,h3,h4,h5,if_true,if_false,Qkg,Yc6,hO,re7,Qkb,List.length_singleton];rfl)
   |false =>
    simp only[je5 _ _ h3,Yd1];cases h5:bey l T.1<;>cases h4:Cc5 (s++[T.1]) (ma0 T.1)<;>(try simp only[je5 _ _ h4])<;>cases h6:bey l (ma0 T.1)<;>(simp only[tc6,h3,h4,h5,h6,if_true,if_false,Qkg,Yc6,hO,re7,Qkb,List.length_singleton];rfl)
theorem Cf0 (l : List V3) (hl : l.length ≤ 48) (a c : Nat) (ha : a < l.length) (hc : c < a) (x1 x2 x3 x4 : Int) (s : List Pln) (ho : s.length ≤ 800000) :
  ∃j,lp (V7 ⟨(a:Int),(c:Int),x1,x2,x3,x4,(c:Int),l,l⟩) (mkf l 0 s)=(phP (fil l (G2 l a s c))+1,mkf l j (G2 l a s c)):=by
 have key:=ea3 (step:=V7 ⟨(a:Int),(c:Int),x1,x2,x3,x4,(c:Int),l,l⟩) (mk:=mkf l) c (λj o=>j<=c/\o=(List.range j).foldl (pc1 l a c) s) (λt r=>t=phP (fil l (G2 l a s c))+1/\∃j:Nat,r=mkf l j (G2 l a s c)) (by omega)
  (λj o hj hi=>by
   obtain⟨_,hi⟩:=hi;have hlen:o.length<=900000:=by
    rw[hi]
    have:=ld0 (zd7 l a c) s j
    omega
   rw[Se3 l hl a c j ha hc hj x1 x2 x3 x4 o hlen];exact .nx ⟨_,rfl,by omega,by rw[M0,<- hi]⟩)
  (λj o hj hi=>by
   obtain⟨h1,hi⟩:=hi;have e:j=c:=by omega
   subst e;have hF:o=G2 l a s j:=hi;rw[<- hF];refine⟨_,?_,rfl,j,rfl⟩;unfold mkf;cases hO:fil l o with
   |nil =>
    show Z4 Stp.next Stp.exit Stp.fail _ _=_;simp only[Z4];rw[bfD (q8 (Qkd _))];rfl
   |cons q o =>
    show Z5 Stp.next Stp.exit Stp.fail _ _=_;simp only[Z5];rw[bfD (q8 (Qkd _))]
    rfl) 0 s ⟨Qkh _,rfl⟩
 obtain⟨t,r,h1,rfl,j,rfl⟩:=key;exact⟨j,h1⟩
@[reducible] noncomputable def ld8(l:List V3)(k:Nat)(s:List Pln):B6:=⟨phP (fil l s),(k:Int),l,l,Fb8 s,(fil l s).length,bL tP (fil l s)⟩
theorem Cf1 (l : List V3) (hl : l.length ≤ 48) (a : Nat) (ha : a < l.length) (x1 x2 : Int) (s : List Pln) (ho : s.length ≤ 700000) :
  ∃j,lp (ga0 ⟨(a:Int),x1,x2,(a:Int)⟩) (ld8 l 0 s)=(phP (fil l (G1 l s a))+1,ld8 l j (G1 l s a)):=by
 have key:=ea3 (step:=ga0 ⟨(a:Int),x1,x2,(a:Int)⟩) (mk:=ld8 l) a (λj o=>j<=a/\o=(List.range j).foldl (G2 l a) s) (λt r=>t=phP (fil l (G1 l s a))+1/\∃j:Nat,r=ld8 l j (G1 l s a)) (by omega)
  (λj o hj hi=>by
   obtain⟨hja,hi⟩:=hi;have hlen:o.length<=800000:=by rw[hi];have:=je6 l a s j hja (by omega);omega
   have hn:=o8 hj (show a<=4611686018427387904 by omega)
   have bj:inB (j:Int) (l.length+1)=true:=f8 (by omega)
   obtain⟨j',e1⟩:=Cf0 l hl a j ha hj x1 x2 (a:Int) (j:Int) o hlen
   have fin : ∀ {r : B6}, r = ld8 l (j + 1) (G2 l a o j) → Nx (.next r) (fun t => t = phP (fil l (G1 l s a)) + 1 ∧ ∃ j' : Nat, ld8 l j o = ld8 l j' (G1 l s a))
     (λr=>∃o',r=ld8 l (j+1) o'/\(j+1<=a/\o'=(List.range (j+1)).foldl (G2 l a) s)):=λ{r} hs =>
    .nx ⟨_,hs,by omega,by rw[M0,<- hi]⟩
   clear hi
   generalize hF:G2 l a o j=R at *
   unfold ld8 at *
   unfold mkf at e1;cases hO:fil l o with
   |nil =>
    rw[hO] at e1 fin;show Nx (Z6 Stp.next Stp.exit Stp.fail _ _) _ _;simp only[Z6,l9,k9,hn,bj,Int.toNat_natCast,Nat.sub_zero];have e1:lp (V7 ⟨(a:Int),(j:Int),x1,x2,(a:Int),(j:Int),(j:Int),l,l⟩) ⟨0,0,Fb8 o,0,[]⟩=_:=e1;rw[btD (l6 hj),e1];cases hR:fil l R with
    |nil=>exact fin (by rw[hR];rfl)
    |cons q R'=>exact fin (by rw[hR];rfl)
   |cons q o' =>
    rw[hO] at e1 fin;show Nx (Z7 Stp.next Stp.exit Stp.fail _ _) _ _;simp only[Z7,l9,k9,hn,bj,Int.toNat_natCast,Nat.sub_zero];have e1:lp (V7 ⟨(a:Int),(j:Int),x1,x2,(a:Int),(j:Int),(j:Int),l,l⟩) ⟨1,0,Fb8 o,(q::o').length,bL tP (q::o')⟩=_:=e1;rw[btD (l6 hj),e1];cases hR:fil l R with
    |nil=>exact fin (by rw[hR];rfl)
    |cons q R'=>exact fin (by rw[hR];rfl))
  (λj o hj hi=>by
   obtain⟨h1,hi⟩:=hi;have e:j=a:=by omega
   subst e;have hF:o=G1 l s j:=hi;rw[<- hF];refine⟨_,?_,rfl,j,rfl⟩;unfold ld8;cases hO:fil l o with
   |nil =>
    show Z6 Stp.next Stp.exit Stp.fail _ _=_;simp only[Z6];rw[bfD (q8 (Qkd _))];rfl
   |cons q o =>
    show Z7 Stp.next Stp.exit Stp.fail _ _=_;simp only[Z7];rw[bfD (q8 (Qkd _))]
    rfl) 0 s ⟨Qkh _,rfl⟩
 obtain⟨t,r,h1,rfl,j,rfl⟩:=key;exact⟨j,h1⟩
@[reducible] noncomputable def Jd8(l:List V3)(k:Nat)(s:List Pln):D7:=⟨phP (fil l s),(k:Int),l,l,Fb8 s,(fil l s).length,bL tP (fil l s)⟩
theorem Cf2 (l : List V3) (hl : l.length ≤ 48) :
  ∃j,lp (Ra1 ⟨(l.length:Int)⟩) ⟨0,0,l,l,[],0,[]⟩=(phP (fil l (G0 l))+1,Jd8 l j (G0 l)):=by
 have key:=ea3 (step:=Ra1 ⟨(l.length:Int)⟩) (mk:=Jd8 l) l.length (λj o=>j<=l.length/\o=(List.range j).foldl (G1 l) []) (λt r=>t=phP (fil l (G0 l))+1/\∃j:Nat,r=Jd8 l j (G0 l)) (by omega)
  (λj o hj hi=>by
   obtain⟨hja,hi⟩:=hi;have hlen:o.length<=700000:=by rw[hi];have:=Jd7 l hl j hja;omega
   have hn:=o8 hj (show l.length<=4611686018427387904 by omega)
   have bj:inB (j:Int) (l.length+1)=true:=f8 (by omega)
   obtain⟨j',e1⟩:=Cf1 l hl j hj (l.length:Int) (j:Int) o hlen
   have fin : ∀ {r : D7}, r = Jd8 l (j + 1) (G1 l o j) → Nx (.next r) (fun t => t = phP (fil l (G0 l)) + 1 ∧ ∃ j' : Nat, Jd8 l j o = Jd8 l j' (G0 l))
     (λr=>∃o',r=Jd8 l (j+1) o'/\(j+1<=l.length/\o'=(List.range (j+1)).foldl (G1 l) [])):=λ{r} hs =>
    .nx ⟨_,hs,by omega,by rw[M0,<- hi]⟩
   clear hi
   generalize hF:G1 l o j=R at *
   unfold Jd8 at *
   unfold ld8 at e1;cases hO:fil l o with
   |nil =>
    rw[hO] at e1 fin;show Nx (Z8 Stp.next Stp.exit Stp.fail _ _) _ _;simp only[Z8,l9,k9,hn,bj,Int.toNat_natCast,Nat.sub_zero];have e1:lp (ga0 ⟨(j:Int),(l.length:Int),(j:Int),(j:Int)⟩) ⟨0,0,l,l,Fb8 o,0,[]⟩=_:=e1;rw[btD (l6 hj),e1];cases hR:fil l R with
    |nil=>exact fin (by rw[hR];rfl)
    |cons q R'=>exact fin (by rw[hR];rfl)
   |cons q o' =>
    rw[hO] at e1 fin;show Nx (Z9 Stp.next Stp.exit Stp.fail _ _) _ _;simp only[Z9,l9,k9,hn,bj,Int.toNat_natCast,Nat.sub_zero];have e1:lp (ga0 ⟨(j:Int),(l.length:Int),(j:Int),(j:Int)⟩) ⟨1,0,l,l,Fb8 o,(q::o').length,bL tP (q::o')⟩=_:=e1;rw[btD (l6 hj),e1];cases hR:fil l R with
    |nil=>exact fin (by rw[hR];rfl)
    |cons q R'=>exact fin (by rw[hR];rfl))
  (λj o hj hi=>by
   obtain⟨h1,hi⟩:=hi;have e:j=l.length:=by omega
   subst e;have hF:o=G0 l:=hi;rw[<- hF];refine⟨_,?_,rfl,l.length,rfl⟩;unfold Jd8;cases hO:fil l o with
   |nil =>
    show Z8 Stp.next Stp.exit Stp.fail _ _=_;simp only[Z8];rw[bfD (q8 (Qkd _))];rfl
   |cons q o =>
    show Z9 Stp.next Stp.exit Stp.fail _ _=_;simp only[Z9];rw[bfD (q8 (Qkd _))]
    rfl) 0 [] ⟨Qkh _,rfl⟩
 obtain⟨t,r,h1,rfl,j,rfl⟩:=key;exact⟨j,h1⟩
theorem je7{F:List Pln}(h:∀p∈F,okp p=true){k:Nat}(hk:k<F.length):Bd (gL tP F k):=Kb4 (h _ (zb2 tP hk))
theorem jf7{n:V3}{r:Pln}(hn:Sm 42467328 n.x/\Sm 42467328 n.y/\Sm 42467328 n.z)(hr:Bd r):j7 n r.n=dot n r.n:=by
 obtain⟨⟨a1,a2⟩,⟨a3,a4⟩,a5,a6⟩:=hn;have r1:=mb a1 a2 hr.x1 hr.x2;have r2:=mb a3 a4 hr.y1 hr.y2;have r3:=mb a5 a6 hr.z1 hr.z2;unfold j7;simp only[zb1,Tb3];rw[N9 (by omega) (by omega)]
 rfl
theorem jf8 (l : List Pln) (n : V3) (hn : Sm 42467328 n.x ∧ Sm 42467328 n.y ∧ Sm 42467328 n.z) (hF : ∀ p ∈ l, okp p = true) (hl : l.length ≤ 1000000000) :
  Y3 ⟨l,n.x,n.y,n.z⟩=⟨1,if l.any (λr=>dot n r.n != 0) then ((l.findIdx (λr=>dot n r.n != 0):Nat):Int) else -1⟩:=by
 have h:=xa0 (step:=H6 ⟨l,(l.length:Int),n.x,n.y,n.z⟩) (mk:=λj=>(⟨(j:Int)⟩:o1)) (c:=λr=>dot n r.n != 0) (u:=1) (fin:=2) tP l hl
  (λj hj=>by
   have e:=jf7 hn (je7 hF hj);simp only[H6,E8,Int.toNat_natCast,ob3,oa9,e,o8 hj (show l.length<=4611686018427387904 by omega)]
   rw[btD (l6 hj),bt (f8 hj)])
  (by simp only[H6,E8];rw[bfD (q8 (Qkd _))]) 0 (Qkh _)
 rw[Qkm] at h;unfold Y3 F9;simp only[l9,k9];rw[show (⟨0⟩:o1)=⟨((0:Nat):Int)⟩ from rfl,h]
 split
 ·simp only[Qke];rfl
 ·rfl
theorem jf9 (l : List Pln) (n : V3) (hn : Sm 42467328 n.x ∧ Sm 42467328 n.y ∧ Sm 42467328 n.z) (hF : ∀ p ∈ l, okp p = true) (hl : l.length ≤ 1000000000) :
  Q5 ⟨l,n.x,n.y,n.z⟩=⟨1,l.any λr=>dot n r.n != 0⟩:=by
 unfold Q5 B1;simp only[l9,k9,jf8 l n hn hF hl];split
 ·rename_i h;rw[h,show decide (((l.findIdx (λr=>dot n r.n != 0):Nat):Int)>=0)=true from decide_eq_true (by omega)];rfl
 ·rename_i h;rw[Qkae] at h;rw[h];rfl
noncomputable def ze9(l:List Pln)(a c:Nat):Bool:=l.any λr=>dot (c8 (gL tP l a).n (gL tP l c).n) r.n != 0
noncomputable def vtx(l:List Pln):Bool:=(List.range l.length).any λa=>(List.range a).any (ze9 l a)
theorem Ae0{p q:Pln}(hp:Bd p)(hq:Bd q):C5 p.n q.n=c8 p.n q.n/\Sm 42467328 (c8 p.n q.n).x/\Sm 42467328 (c8 p.n q.n).y/\Sm 42467328 (c8 p.n q.n).z:=by
 obtain⟨k1,k2,k3⟩:=ec5 hp.n hq.n;refine⟨?_,k1,k2,k3⟩;rw[Bc4,lb1 (k1.mono (by omega)),lb1 (k2.mono (by omega)),lb1 (k3.mono (by omega))]
theorem je8 (l : List Pln) (hF : ∀ p ∈ l, okp p = true) (hl : l.length ≤ 1000000) (a : Nat) (ha : a < l.length) (x9 x10 : Int) :
  ∃j,lp (ja9 ⟨l,l,x9,x10,a,(λk=>(λk=>tP.row (gL tP l k)) (0+k)),(a:Int),(gL tP l a).n.x,(gL tP l a).n.y,(gL tP l a).n.z,(gL tP l a).b⟩) ⟨0⟩=(if (List.range a).any (ze9 l a) then 1 else 2,⟨((j:Nat):Int)⟩) :=
 kd9 (step:=ja9 ⟨l,l,x9,x10,a,(λk=>(λk=>tP.row (gL tP l k)) (0+k)),(a:Int),(gL tP l a).n.x,(gL tP l a).n.y,(gL tP l a).n.z,(gL tP l a).b⟩) (mk:=λj=>(⟨(j:Int)⟩:V8)) a (ze9 l a) 1 2 (by omega)
  (λj hj=>by
   obtain⟨e,k1,k2,k3⟩:=Ae0 (je7 hF ha) (je7 hF (show j<l.length by omega))
   have rr:(⟨toI (hdA (tP.row (gL tP l j))),toI (hdA (tlA (tP.row (gL tP l j)))),toI (hdA (tlA (tlA (tP.row (gL tP l j)))))⟩:V3)=(gL tP l j).n:=rfl;have e':C5 ⟨(gL tP l a).n.x,(gL tP l a).n.y,(gL tP l a).n.z⟩ (gL tP l j).n=c8 (gL tP l a).n (gL tP l j).n:=e;simp only[ja9,qa7,Int.toNat_natCast,Qke,rr,e',jd8,l9,k9,jf9 l _ ⟨k1,k2,k3⟩ hF (show l.length<=1000000000 by omega),o8 hj (show a<=4611686018427387904 by omega)]
   rw[btD (l6 hj),bt (f8 hj)];unfold ze9;cases hz:((c8 (gL tP l a).n (gL tP l j).n).x==0&&((c8 (gL tP l a).n (gL tP l j).n).y==0&&((c8 (gL tP l a).n (gL tP l j).n).z==0&&true))) with
   |false=>rfl
   |true =>
    simp only[Qks,Qkp,beq_iff_eq] at hz
    have:(l.any λr=>dot (c8 (gL tP l a).n (gL tP l j).n) r.n != 0)=false:=by
     rw[List.any_eq_false];intro r _
     have:dot (c8 (gL tP l a).n (gL tP l j).n) r.n=0:=by unfold dot;rw[hz.1,hz.2.1,hz.2.2];simp only[Int.zero_mul,Int.add_zero]
     rw[this]
     decide
    rw[this]
    rfl)
  (by simp only[ja9,qa7];rw[bfD (q8 (Qkd _))])
theorem zd8(l:List Pln)(hF:∀p∈l,okp p=true)(hl:l.length<=1000000):Pa0 l=some (b (vtx l),[]):=by
 obtain⟨j,h⟩:=kd9 (step:=ka0 ⟨(l.length:Int)⟩) (mk:=λj=>(⟨l,l,(j:Int)⟩:V9)) l.length (λa=>(List.range a).any (ze9 l a)) 1 2 (by omega)
  (λj hj=>by
   obtain⟨j',h1⟩:=je8 l hF hl j hj (l.length:Int) (j:Int);simp only[ka0,qa8,l9,k9,Int.toNat_natCast,Nat.sub_zero,o8 hj (show l.length<=4611686018427387904 by omega)]
   rw[btD (l6 hj),bt (f8 hj),bt (f8 (show j<l.length+1 by omega)),h1]
   cases (List.range j).any (ze9 l j)<;>rfl)
  (by simp only[ka0,qa8];rw[bfD (q8 (Qkd _))])
 have h:lp (ka0 ⟨(l.length:Int)⟩) ⟨l,l,0⟩=(if vtx l then 1 else 2,⟨l,l,((j:Nat):Int)⟩):=h
 unfold Pa0;simp only[l9,k9];rw[h];cases vtx l<;>rfl
theorem Yd3(l:List Pln)(hF:∀p∈l,okp p=true)(hl:l.length<=1000000):Ba8 l=vtx l:=by unfold Ba8;rw[zd8 l hF hl];rfl
theorem Yd4(l:List Pln)(hF:∀p∈l,okp p=true)(hl:l.length<=1000000):Ba9 l=true:=by unfold Ba9;rw[zd8 l hF hl];rfl
theorem kf0(l:List Pln):vtx l=true↔∃p q s,p∈l/\q∈l/\s∈l/\mw p q s≠0:=by
 unfold vtx;rw[Qka];constructor
 ·rintro⟨a,ha,h⟩;obtain⟨c,hc,h⟩:=Qka.1 h;rw[Qkj] at ha hc;obtain⟨r,hr,h⟩:=Qka.1 h;have h:dot (c8 (gL tP l a).n (gL tP l c).n) r.n≠0:=bne_iff_ne.1 h;exact⟨_,_,r,zb2 tP ha,zb2 tP (show c<l.length by omega),hr,λe=>h (by rw[<- e];simp only[mw,dot,c8];grind)⟩
 ·rintro⟨p,q,s,hp,hq,hs,hw⟩;obtain⟨i',hi,rfl⟩:=Qko.1 hp;obtain⟨j',hj,rfl⟩:=Qko.1 hq;have hne:i'≠j':=λe=>hw (by subst e;simp only[mw,dot,c8];grind)
  rw[<- pb5 tP hi,<- pb5 tP hj] at hw
  rcases Qkab hne with h|h
  ·refine⟨j',Qkj.2 hj,Qka.2 ⟨i',Qkj.2 h,Qka.2 ⟨s,hs,?_⟩⟩⟩
   have:dot (c8 (gL tP l j').n (gL tP l i').n) s.n≠0:=λe=>hw (by
    rw[show mw (gL tP l i') (gL tP l j') s=-dot (c8 (gL tP l j').n (gL tP l i').n) s.n from by simp only[mw,dot,c8];grind,e]
    rfl)
   exact bne_iff_ne.2 this
  ·refine⟨i',Qkj.2 hi,Qka.2 ⟨j',Qkj.2 h,Qka.2 ⟨s,hs,?_⟩⟩⟩
   have:dot (c8 (gL tP l i').n (gL tP l j').n) s.n≠0:=λe=>hw (by rw[<- e];simp only[mw,dot,c8];grind)
   exact bne_iff_ne.2 this
structure OkF(F:List Pln):Prop where
 l:F.length<=1000000
 v:∀p∈F,okp p=true
noncomputable def own(F:List Pln)(v:V3):List Pln:=F.filter λp=>ba9 p v==0
noncomputable def kv(F:List Pln)(v:V3):Bool:=vtx (own F v)
theorem Ae1(F:List Pln)(v:V3)(hF:F.length<=1000000):∃j,lp (sa8 ⟨F,(F.length:Int),F,v.x,v.y,v.z⟩) ⟨0,0,0,[]⟩=(phP (own F v)+1,⟨phP (own F v),((j:Nat):Int),(own F v).length,bL tP (own F v)⟩):=by
 have key:=ea3 (step:=sa8 ⟨F,(F.length:Int),F,v.x,v.y,v.z⟩) (mk:=λj (o:List Pln)=>(⟨phP o,(j:Int),o.length,bL tP o⟩:m9)) F.length (λj o=>j<=F.length/\o=(F.take j).filter λp=>ba9 p v==0) (λt s=>t=phP (own F v)+1/\∃j:Nat,s=⟨phP (own F v),(j:Int),(own F v).length,bL tP (own F v)⟩) (by omega)
  (λj o hj hi=>by
   obtain⟨_,hi⟩:=hi;have hlen:o.length<=1000000:=by
    rw[hi];have h1:=Qkag (λp=>ba9 p v==0) (F.take j)
    have h2:=List.length_take_le j F;omega
   have hn:=o8 hj (show F.length<=4611686018427387904 by omega)
   have hb:=f8 hj;have hT:(F.take (j+1)).filter (λp=>ba9 p v==0)=o++(if (ba9 (gL tP F j) v==0)=true then [gL tP F j] else []):=by
    rw[tb3 tP hj,Qku,<- hi,Qky,List.filter_nil]
   have hnext : ∀ {s : m9} {o' : List Pln}, o' = (F.take (j + 1)).filter (fun p => ba9 p v == 0) → s = ⟨phP o', ((j + 1 : Nat) : Int), o'.length, bL tP o'⟩ → Nx (.next s) (fun t => t = phP (own F v) + 1 ∧ ∃ j' : Nat, (⟨phP o, (j : Int), o.length, bL tP o⟩ : m9) = ⟨phP (own F v), (j' : Int), (own F v).length, bL tP (own F v)⟩)
     (λs=>∃o',s=(⟨phP o',((j+1:Nat):Int),o'.length,bL tP o'⟩:m9)/\(j+1<=F.length/\o'=(F.take (j+1)).filter λp=>ba9 p v==0)):=λ{s o'} ho' hs=>.nx ⟨o',hs,by omega,ho'⟩
   clear hi
   cases o with
   |nil =>
    show Nx (K9 Stp.next Stp.exit Stp.fail _ _) _ _;simp only[K9,Int.toNat_natCast,Dc3,Dc4,hn,hb];rw[btD (l6 hj)];cases hs:ba9 (gL tP F j) v==0 with
    |true=>exact hnext (o':=[gL tP F j]) (by rw[hT,hs];rfl) rfl
    |false=>exact hnext (o':=[]) (by rw[hT,hs];rfl) rfl
   |cons q o =>
    have rr:(Nat.beq (q::o).length (len (bL tP (q::o)))&&Nat.ble (((q::o).length+1)*32) room)=true:=Pb0 rfl (by omega)
    have ap:∀(O:List Pln) (p:Pln),app (bL tP O) [[i p.n.x,i p.n.y,i p.n.z,i p.b]]=bL tP (O++[p]):=λO p=>Va9 tP O [p]
    show Nx (L0 Stp.next Stp.exit Stp.fail _ _) _ _;simp only[L0,Int.toNat_natCast,Dc3,Dc4,hn,hb,rr,ap];rw[btD (l6 hj)];cases hs:ba9 (gL tP F j) v==0 with
    |true=>exact hnext (o':=q::o++[gL tP F j]) (by rw[hT,hs];rfl) (by rw[Qkb];rfl)
    |false=>exact hnext (o':=q::o) (by rw[hT,hs,if_neg (by simp),Qki]) rfl)
  (λj o hj hi=>by
   obtain⟨h1,hi⟩:=hi;have e:j=F.length:=by omega
   subst e;have hO:o=own F v:=by rw[hi,List.take_length];rfl
   rw[<- hO];cases o with
   |nil =>
    refine⟨1,?_,rfl,F.length,rfl⟩;show K9 Stp.next Stp.exit Stp.fail _ _=_;simp only[K9];rw[bfD (q8 (Qkd _))]
   |cons q o =>
    refine⟨2,?_,rfl,F.length,rfl⟩;show L0 Stp.next Stp.exit Stp.fail _ _=_;simp only[L0];rw[bfD (q8 (Qkd _))]) 0 [] ⟨Qkh _,by simp⟩
 obtain⟨t,s,h1,rfl,j,rfl⟩:=key;exact⟨j,h1⟩
theorem Jd9(v:V3)(F:List Pln)(hF:OkF F):aa0 ⟨v.x,v.y,v.z,F⟩=⟨1,!kv F v,F⟩:=by
 obtain⟨j,h⟩:=Ae1 F v hF.l;have hv:∀p∈own F v,okp p=true:=λp hp=>hF.v p (Qkv.1 hp).1
 have hl:(own F v).length<=1000000:=Nat.le_trans (Qkag _ _) hF.l;unfold aa0 ka1 kv;simp only[l9,k9];rw[h];cases ho:own F v with
 |nil =>
  have e:Ba8 []=vtx []:=Yd3 [] (λp hp=>by cases hp) (by simp)
  have e':Ba9 []=true:=Yd4 [] (λp hp=>by cases hp) (by simp)
  rw[e,e'];rfl
 |cons q o =>
  rw[ho] at hv hl;simp only[vb4,Hb0,Yd3 _ hv hl,Yd4 _ hv hl];rfl
theorem sf3{α:Type}{l:List α}{n:Nat}{c:α->Bool}(h:(l.take n).any c=true):(l.take n).findIdx c<(l.take n).length:=by
 rw[Qka] at h;obtain⟨p,hp,hc⟩:=h;exact Qkaf ⟨p,hp,hc⟩
theorem kf1(l:List V3)(n:Nat)(X:List Pln)(hn:n<=l.length)(hl:l.length<=1000000000)(hX:OkF X):da9 ⟨n,bL tV l,X⟩=⟨1,if (l.take n).any (λp=>!kv X p) then (((l.take n).findIdx (λp=>!kv X p):Nat):Int) else -1,X⟩:=by
 have hlen:(l.take n).length=n:=by rw[Qkc];omega
 have h:=xa0 (step:=L1 ⟨n,(n:Int),bL tV l⟩) (mk:=λj=>(⟨(j:Int),X⟩:q7)) (c:=λp=>!kv X p) (u:=1) (fin:=2) tV (l.take n) (by omega)
  (λj hj=>by
   rw[hlen] at hj;have hj':j<l.length:=by omega
   simp only[L1,J4,Int.toNat_natCast,l9,k9,Jd2 hj',ld3 hj',Jd9 _ _ hX,zd3 tV l hj,o8 hj (show n<=4611686018427387904 by omega)]
   rw[btD (l6 hj),bt (f8 hj)]
   rfl)
  (by rw[hlen];simp only[L1,J4];rw[bfD (q8 (Qkd _))]) 0 (Qkh _)
 rw[Qkm,hlen] at h;unfold da9 K0;simp only[l9,k9];rw[show (⟨0,X⟩:q7)=⟨((0:Nat):Int),X⟩ from rfl,h]
 cases ha:(l.take n).any λp=>!kv X p with
 |false=>rfl
 |true =>
  have hf:=sf3 ha;rw[hlen] at hf;simp only[if_true,Qke,Int.toNat_natCast,ld3 (show (l.take n).findIdx (λp=>!kv X p)<l.length by omega),Jd9 _ _ hX,l9]
  rfl
structure kf2(l:List V3)(n:Nat)(f:V3->Bool)(cur:List V3)(m j:Nat):Prop where
 len:cur.length=l.length
 t:cur.take m=(l.take j).filter f
 d:cur.drop j=l.drop j
 le:m<=j
 lm:m<=n
theorem Kd0 (l : List V3) (n : Nat) (hnl : n ≤ l.length) (X : List Pln) (hl : l.length ≤ 1000000000) (hX : OkF X) (m j : Nat) (cur : List V3) (hd : kf2 l n (kv X) cur m j) (hjn : j ≤ n) :
  ∃t s,lp (D8 ⟨n⟩) ⟨(m:Int),(j:Int),bL tV cur,X⟩=(t,s)/\(t=1/\∃m' cur',s=⟨((m':Nat):Int),((n:Nat):Int),bL tV cur',X⟩/\kf2 l n (kv X) cur' m' n):=by
 refine ea3 (step:=D8 ⟨n⟩) (mk:=λj (x:Nat×List V3)=>(⟨(x.1:Int),(j:Int),bL tV x.2,X⟩:v7)) n (λj x=>kf2 l n (kv X) x.2 x.1 j/\j<=n) (λt s=>t=1/\∃m' cur',s=⟨((m':Nat):Int),((n:Nat):Int),bL tV cur',X⟩/\kf2 l n (kv X) cur' m' n) (by omega) (λj x hj hx=>?_) (λj x hj hx=>?_) j (m,cur) ⟨hd,hjn⟩
 ·obtain⟨m,cur⟩:=x;obtain⟨⟨h1,h2,h3,h4,h5⟩,_⟩:=hx
  simp only at h1 h2 h3 h4 h5
  have hjc:j<cur.length:=by omega
  have hmc:m<cur.length:=by omega
  have hg:gL tV cur j=gL tV l j:=Kc9 tV h3;have hWm:W ((m:Int)+1)=((m+1:Nat):Int):=by rw[N9 (by omega) (by omega)];omega
  have hb:Nat.blt m cur.length=true:=by rw[Nat.blt_eq];exact hmc
  have hrow:j9 (bL tV cur) m=tV.row (gL tV cur m):=Y9 tV hmc;have sp:∀(v:V3) (x1 x2 x3:Int),W7 (tV.row v) 0 [i x1,i x2,i x3]=tV.row ⟨x1,x2,x3⟩:=λ_ _ _ _=>rfl
  have rl:∀v:V3,Nat.ble (0+3) (len (tV.row v))=true:=λ_=>rfl
  simp only[D8,J5,Int.toNat_natCast,l9,k9,Jd2 hjc,ld3 hjc,Jd9 _ _ hX,o8 hj (show n<=4611686018427387904 by omega),hWm]
  rw[btD (l6 hj),bt (f8 hj)];simp only[Qke,hrow,ta6,hb,sp,ib5,f8 (show m<n by omega),hg]
  have ht:=tb3 tV (show j<l.length by omega)
  have hd1:cur.drop (j+1)=l.drop (j+1):=Bc8 h3 1;cases hk:kv X (gL tV l j) with
  |true =>
   refine .nx ⟨(m+1,cur.set m (gL tV l j)),rfl,⟨by rw[Qkt];exact h1,?_,?_,by omega,by show m+1<=n;omega⟩,by omega⟩
   ·show (cur.set m (gL tV l j)).take (m+1)=_;rw[ht,Qku,Qkad (by rw[Qkt];exact hmc),Qkar,List.take_set_of_le (Qkk _),h2,Qky,hk,if_pos rfl,List.filter_nil]
   ·show (cur.set m (gL tV l j)).drop (j+1)=_;rw[List.drop_set_of_lt (by omega),hd1]
  |false =>
   refine .nx ⟨(m,cur),rfl,⟨h1,?_,hd1,by omega,h5⟩,by omega⟩
   show cur.take m=_;rw[ht,Qku,h2,Qky,hk,if_neg (by simp),List.filter_nil,Qki]
 ·obtain⟨m,cur⟩:=x;obtain⟨hx,hjn⟩:=hx;have e:j=n:=by omega
  subst e;refine⟨1,?_,rfl,m,cur,rfl,hx⟩;simp only[D8,J5];rw[bfD (by omega)]
theorem je9 (l : List V3) (n : Nat) (hnl : n ≤ l.length) (X : List Pln) (hl : l.length ≤ 1000000000) (hX : OkF X) :
  ∃m r,ea2 ⟨n,bL tV l,X⟩=⟨1,m,bL tV r,X⟩/\m<=r.length/\r.take m=(l.take n).filter (kv X):=by
 have hlen:(l.take n).length=n:=by rw[Qkc];omega
 unfold ea2 K1;simp only[l9,k9,kf1 l n X hnl hl hX];cases ha:(l.take n).any λp=>!kv X p with
 |false =>
  refine⟨n,l,rfl,hnl,?_⟩
  symm
  rw[List.filter_eq_self];intro p hp
  have:=List.any_eq_false.1 ha p hp
  simpa using this
 |true =>
  have hf:=sf3 ha;have hk:kv X (gL tV (l.take n) ((l.take n).findIdx λp=>!kv X p))=false:=by
   have:=Qkx (xs:=l.take n) (p:=λp=>!kv X p) (w:=hf)
   rw[pb5 tV hf];simpa using this
  have ht:=Bc7 (λp=>!kv X p) (l.take n)
  simp only[Bool.not_not] at ht;generalize hF:(l.take n).findIdx (λp=>!kv X p)=F at *
  rw[hlen] at hf;rw[zd3 tV l hf] at hk;rw[Qkas,Nat.min_eq_left (by omega)] at ht
  have hW:W ((F:Int)+1)=((F+1:Nat):Int):=o8 hf (by omega)
  have hne:((F:Int)==-1)=false:=by rw[beq_eq_false_iff_ne];omega
  obtain⟨t,s,e1,rfl,m,cur,e2,e3⟩:=Kd0 l n hnl X hl hX F (F+1) l ⟨rfl,by rw[tb3 tV (show F<l.length by omega),Qku,ht,Qky,hk,if_neg (by simp),List.filter_nil,Qki],rfl,by omega,by omega⟩ (by omega)
  have hm:m<=n:=e3.lm;have hin:inB (m:Int) (n+1)=true:=f8 (by omega)
  simp only[if_true,hW,hne,e1,e2,Int.toNat_natCast,hin,Qke,Nat.sub_zero];refine⟨m,cur.take m++(List.replicate (n-m) ⟨0,0,0⟩++cur.drop (m+(n-m))),?_,?_,?_⟩
  ·rw[Xd5,Xd6,ld4,Va9,Va9];rfl
  ·rw[Qkb,Qkb,Qkc,Qkat,e3.len];omega
  ·rw[Qkw (by rw[Qkc,e3.len];omega),Qkas,Nat.min_self,e3.t]
noncomputable def va5(F:List Pln)(l:List V3):List V3:=(dis l).filter (kv F)
theorem Kd1(a:V3)(l:List V3)(hl:l.length<=1000000):∃m r,Ja8 (a,l)=⟨1,m,bL tV r⟩/\m<=r.length/\r.take m=dis (a::l)/\r.length<=1000000000:=by
 obtain⟨m,r,k1,k2,k3,k4⟩:=Dc2 a l hl;have hok:okL tV (l.length+1) (λk=>tV.row (gL tV (a::l) k))=true:=Gb9 tV (f:=λk=>gL tV (a::l) k) λ_ _=>rfl
 have hr:=Xd8 (a::l) (by simp only[List.length_cons];omega) []
 rw[Qki] at hr;unfold Ja8 ka2;simp only[ne2,ne3,zd1 a l hl,hok,k1,o9,Qkq,hr];exact⟨m,r,rfl,k2,k3,by omega⟩
end Go.Ev.Ce
namespace Go.Ev.Ce
open Go Go.Ev Go.Ev.L Go.Proofs Go.Sort
theorem Ae2(l:List V3)(a c k:Nat)(s:List Pln)(p:Pln):p∈pc1 l a c s k↔p∈s\/((G5 (gL tV l k) (gL tV l c) (gL tV l a)).2=true/\(p=(G5 (gL tV l k) (gL tV l c) (gL tV l a)).1\/p=ma0 (G5 (gL tV l k) (gL tV l c) (gL tV l a)).1)):=by
 unfold pc1;generalize G5 (gL tV l k) (gL tV l c) (gL tV l a)=T;cases h2:T.2 with
 |false=>simp
 |true=>simp only[if_true,Se2,true_and,or_assoc]
theorem Cf3(l:List V3)(p:Pln):p∈G0 l↔∃a,a<l.length/\∃c,c<a/\∃k,k<c/\((G5 (gL tV l k) (gL tV l c) (gL tV l a)).2=true/\(p=(G5 (gL tV l k) (gL tV l c) (gL tV l a)).1\/p=ma0 (G5 (gL tV l k) (gL tV l c) (gL tV l a)).1)):=by
 have h:p∈G0 l↔p∈[]\/_:=Ab9 (λo a p=>Ab9 (λo c p=>Ab9 (λo k p=>Ae2 l a c k o p) o p c) o p a) [] p l.length
 rw[h];simp only[List.not_mem_nil,false_or]
theorem Kd2{f:List Pln->Nat->List Pln}(h:∀o k,o.Nodup->(f o k).Nodup){o:List Pln}(ho:o.Nodup):∀n,((List.range n).foldl f o).Nodup
 |0=>ho
 |n+1=>by rw[M0];exact h _ _ (Kd2 h ho n)
theorem Se4(l:List V3):(G0 l).Nodup:=Kd2 (λo a ho=>Kd2 (λo c ho=>Kd2 (λo k ho=>by
 show (pc1 l a c o k).Nodup;unfold pc1;split
 ·exact ld7 (ld7 ho)
 ·exact ho) ho c) ho a) List.nodup_nil l.length
theorem kf3{l:List V3}(hl:l.all inV=true)(p:Pln):p∈fil l (G0 l)↔db9 l p:=by
 have hin:=Qkf.1 hl;have hb:(!bey l p)=hold p l:=rfl;unfold fil;rw[Qkv,Cf3,hb];constructor
 ·rintro⟨⟨a,ha,c,hc,k,hk,h1,h2⟩,h3⟩;have ma:=gLm ha;have mc:=gLm (show c<l.length by omega)
  have mk:=gLm (show k<l.length by omega)
  have ht:=(xa7 h1).2
  rcases h2 with rfl|rfl
  ·exact Jd1 mk mc ma ht ((Ab8 ht.ok hl).1 h3)
  ·exact ld2 mk mc ma ht ((Ab8 (Cc4 ht.ok) hl).1 h3)
 ·intro h;obtain⟨u,w,x,hu,hw,hx,h3,t1,t2,t3⟩:=h.on;obtain⟨a,ha,c,hc,k,hk,hn,hall⟩:=if6 hu hw hx h3;obtain⟨i1,i2,i3⟩:=hall (λv=>inV v=true) (hin u hu) (hin w hw) (hin x hx)
  obtain⟨e1,e2,e3⟩:=hall (λv=>dot p.n v=p.b) t1 t2 t3
  have h2:=lb3 i3 i2 i1 (Qe9 hn).2.2.1;exact⟨⟨a,ha,c,hc,k,hk,h2,fc2 (xa7 h2).2 h.ok e3 e2 e1⟩,(Ab8 h.ok hl).2 h.hd⟩
theorem zd9{l r:List V3}(h:∀v,v∈r↔v∈l){p:Pln}(hp:db9 l p):db9 r p:=by
 obtain⟨⟨hd,u,w,x,hu,hw,hx,e⟩,ok⟩:=hp;exact⟨⟨λv hv=>hd v ((h v).1 hv),u,w,x,(h u).2 hu,(h w).2 hw,(h x).2 hx,e⟩,ok⟩
theorem ke0{l:List Pln}(h:l.Nodup):lb2 (nc0 l):=by
 have h1:=Id3 l;have h2:(nc0 l).Nodup:=(kd3 l).nodup_iff.2 h;have h3:=h1.and h2;refine h3.imp λ{x y} ⟨k1,k2⟩=>?_
 rw[db0] at k1;have k1:¬ LtP y x:=by simpa using k1
 rcases qe5 x y with h|h|h
 ·exact h
 ·exact absurd h k2
 ·exact absurd h k1
theorem kf4{l:List V3}(hl:l.all inV=true):(dis l).all inV=true:=Qkf.2 λv hv=>Qkf.1 hl v ((jc1 l v).1 hv)
theorem Yd5{l:List V3}(hl:l.all inV=true):nc0 (fil (dis l) (G0 (dis l)))=F0 l:=by
 refine Lc2 (ke0 ((Se4 (dis l)).filter _)) (tc4 l) λp=>?_
 rw[(kd3 _).mem_iff,kf3 (kf4 hl),ea4 hl];exact⟨zd9 λv=>(jc1 l v).symm,zd9 (jc1 l)⟩
theorem Nf7{l:List V3}(hl:l.all inV=true)(h4:Sol l):F0 l≠[]:=λe=>by
 have h:=ic9 h4 (re2 hl (c:=[]) λp hp=>by rw[<- ea4 hl,e] at hp;exact hp) (x:=⟨100,0,0,1⟩) ⟨by show (0:Int)<1;omega,λp hp=>by cases hp⟩ (h:=⟨⟨1,0,0⟩,24⟩) λv hv=>by
  obtain⟨⟨a1,a2⟩,_,_⟩:=(Ka2 v).1 (Qkf.1 hl v hv);simp only[dot];omega
 simp only[rmZ] at h;omega
theorem jc3{l:List V3}(h48:l.length<=48)(hl:l.all inV=true)(h4:Sol l):lb4 l=0:=by
 have hin:=Qkf.1 hl;unfold lb4;rw[if_neg (by omega),if_neg (by rw[<- List.not_all_eq_any_not,hl];simp)]
 have h1:(ixs l.length).any (sp1 l)=true:=by
  obtain⟨a,c,k,v,ha,hc,hk,hv,hd⟩:=h4;obtain⟨i',hi,j',hj,k',hk',hn,hall⟩:=if6 ha hc hk (ld1 hd);obtain⟨i1,i2,i3⟩:=hall (λv=>inV v=true) (hin _ ha) (hin _ hc) (hin _ hk)
  have ht:=lb3 i3 i2 i1 (Qe9 hn).2.2.1;have mem:∀{n m:Nat},m<n->((m:Nat):Int)∈ixs n:=λ{n m} h=>List.mem_map.2 ⟨m,Qkj.2 h,rfl⟩
  refine Qka.2 ⟨_,mem hi,?_⟩;unfold sp1;rw[Int.toNat_natCast];refine Qka.2 ⟨_,mem hj,?_⟩;unfold sp2;rw[Int.toNat_natCast];refine Qka.2 ⟨gL tV l k',?_,ht⟩;rw[<- zd3 tV l hk'];exact zb2 tV (by rw[Qkc];omega)
 have h2:pc0 l=false:=by
  unfold pc0;rw[if_pos h1];obtain⟨hi,k1⟩:=jc2 h1;have k1:(ixs (iF l)).any (sp2 l (iF l))=true:=k1;obtain⟨hj,k2⟩:=jc2 k1;have k2:(l.take (jF l)).any (λv=>(G5 v (gL tV l (jF l)) (gL tV l (iF l))).2)=true:=k2
  have hj:jF l<iF l:=hj;have hi:iF l<l.length:=hi;have hk:=Jd4 k2;have hk2:=Qkx (xs:=l.take (jF l)) (p:=λv=>(G5 v (gL tV l (jF l)) (gL tV l (iF l))).2) (w:=hk)
  rw[<- pb5 tV hk,zd3 tV l (by rw[Qkc] at hk;omega)] at hk2
  have hok:okp (plF l)=true:=(xa7 hk2).2.ok;obtain⟨v,hv,hne⟩:=h4.off (Ab7 hok) (plF l).b;rw[Bool.not_eq_false',Qka];refine⟨v,hv,?_⟩
  have:ba9 (plF l) v≠0:=λe=>hne ((Ob9 hok (hin v hv)).1 e)
  simpa using this
 rw[h2];rfl
theorem kf5(l r:List Pln)(n:Nat)(hn:n=l.length):(two (r1L tP) r1I).rd (.tup [.sl 0 0 n 0,i 0],[⟨73,4,bL tP (l++r),true,false,0⟩])=some (l,0):=by
 subst hn;have h:(r1L tP).rd [⟨73,4,bL tP (l++r),true,false,0⟩] (.sl 0 0 l.length 0)=some l:=by
  show Bool.rec (motive:=λ_=>Option (List Pln)) none (some (slR tP (bL tP (l++r)) 0 l.length)) (Bool.and true (okS tP (bL tP (l++r)) 0 l.length))=_
  rw[Oe5 _ _ (by rw[Qkb];omega),Oe6 _ _ (by rw[Qkb];omega),List.take_left']
  ·rfl
  ·rfl
 simp only[two,h];rfl
theorem Ae3(a:V3)(l:List V3)(h48:(a::l).length<=48)(hl:(a::l).all inV=true)(h4:Sol (a::l)):Rd (two (r1L tP) r1I) (xa4 (a,l)) (λr=>r=(F0 (a::l),0)):=by
 have hc:=jc3 h48 hl h4;have hdl:=Yc5 (a::l);have hll:l.length<=1000000:=by simp only[List.length_cons] at h48;omega
 obtain⟨j,e⟩:=Cf2 (dis (a::l)) (by omega)
 have hf:=Yd5 hl;have hne:fil (dis (a::l)) (G0 (dis (a::l)))≠[]:=λe=>by
  rw[e] at hf;have h0:nc0 []=[]:=ye9;rw[h0] at hf;exact Nf7 hl h4 hf.symm
 have hok:okL tV (l.length+1) (λk=>tV.row (gL tV (a::l) k))=true:=Gb9 tV (f:=λk=>gL tV (a::l) k) λ_ _=>rfl
 have hlen:(fil (dis (a::l)) (G0 (dis (a::l)))).length<=1000000:=by
  have h1:=Jd6 (dis (a::l)) (G0 (dis (a::l)));have h2:(G0 (dis (a::l))).length<=_:=Jd7 (dis (a::l)) (by omega) _ (Qkk _)
  omega
 unfold xa4;simp only[l9,ta5,k9,ne2,ne3,hok,ld6 (a::l) (by omega),ld5 (a::l) (by omega),hc,je3 a l hll,je4 a l hll,e]
 generalize fil (dis (a::l)) (G0 (dis (a::l)))=O at *
 cases O with
 |nil=>exact absurd rfl hne
 |cons q o =>
  have hr:(Bool.and (Nat.ble (q::o).length room) (Bool.and (Nat.ble (q::o).length (len (bL tP (q::o)))) (okS tP (bL tP (q::o)) 0 (q::o).length)))=true:=by
   rw[Hb0,ta6,Qkp,Qkp,Qkam,Qkam];refine⟨by unfold room;omega,Qkk _,rfl⟩
  simp only[phP,hr,vb4,gf8,Va9,hf];exact⟨_,(F0 (a::l),0),rfl,kf5 _ _ _ (by rw[<- hf,ic3]),rfl⟩
theorem Se5{l:List V3}(hl:l.all inV=true){v:V3}(hv:v∈l):kv (F0 l) v=true↔Spn (F0 l) v:=by
 have hin:=Qkf.1 hl;have hs:∀p∈F0 l,(ba9 p v==0)=true↔dot p.n v=p.b:=λp hp=>by rw[beq_iff_eq];exact Ob9 (Id7 hp).ok (hin v hv)
 unfold kv own;rw[kf0];constructor
 ·rintro⟨p,q,s,hp,hq,hs',hw⟩;rw[Qkv] at hp hq hs';exact⟨p,q,s,hp.1,hq.1,hs'.1,hw,(hs p hp.1).1 hp.2,(hs q hq.1).1 hq.2,(hs s hs'.1).1 hs'.2⟩
 ·rintro⟨p,q,s,hp,hq,hs',hw,e1,e2,e3⟩;exact⟨p,q,s,Qkv.2 ⟨hp,(hs p hp).2 e1⟩,Qkv.2 ⟨hq,(hs q hq).2 e2⟩,Qkv.2 ⟨hs',(hs s hs').2 e3⟩,hw⟩
end Go.Ev.Ce
namespace Go.Ev.Ce
open Go Go.Ev Go.Ev.L Go.Proofs
structure B8(v:V3):Prop where
 x:Sm 8 v.x
 y:Sm 8 v.y
 z:Sm 8 v.z
structure Mp(l:List V3):Prop where
 l4:4<=l.length
 l8:l.length<=8
 bd:∀v∈l,Sm 11 v.x/\Sm 11 v.y/\Sm 11 v.z
 nf:nf0 l=true
theorem Mp.inV{l:List V3}(h:Mp l):l.all inV=true:=Qkf.2 λv hv=>by
 obtain⟨h1,h2,h3⟩:=h.bd v hv;exact (Ka2 v).2 ⟨h1.mono (by omega),h2.mono (by omega),h3.mono (by omega)⟩
theorem sf4{l:List V3}(hl:l.all Ce.inV=true)(h4:Sol l):nf0 l=true:=by
 have hin:=Qkf.1 hl;obtain⟨a,c,k,v,ha,hc,hk,hv,hd⟩:=h4;obtain⟨i',hi,j',hj,k',hk',hn,hall⟩:=if6 ha hc hk (ld1 hd);obtain⟨i1,i2,i3⟩:=hall (λv=>Ce.inV v=true) (hin _ ha) (hin _ hc) (hin _ hk)
 have ht:=lb3 i1 i2 i3 hn;refine Qka.2 ⟨i',Qkj.2 hi,Qka.2 ⟨j',Qkj.2 hj,Qka.2 ⟨k',Qkj.2 hk',?_⟩⟩⟩;unfold nf ze3;rw[ht,Bool.true_and,Qka];have hok:=(xa7 ht).2.ok;obtain⟨w,hw,hne⟩:=Sol.off ⟨a,c,k,v,ha,hc,hk,hv,hd⟩ (Ab7 hok) (G5 (gL tV l i') (gL tV l j') (gL tV l k')).1.b;refine⟨w,hw,?_⟩
 have:ba9 (G5 (gL tV l i') (gL tV l j') (gL tV l k')).1 w≠0:=λe=>hne ((Ob9 hok (hin w hw)).1 e)
 simpa using this
theorem Se6{l:List V3}(h4:4<=l.length)(h8:l.length<=8)(hb:∀v∈l,B8 v)(hf:nf0 l=true):Mp l:=⟨h4,h8,λv hv=>⟨(hb v hv).x.mono (by omega),(hb v hv).y.mono (by omega),(hb v hv).z.mono (by omega)⟩,hf⟩
theorem Cf4{l:List V3}(h4:4<=l.length)(h8:l.length<=8)(hb:∀v∈l,B8 v):Mp (((l.set 1 ⟨W ((gL tV l 0).x-3),(gL tV l 0).y,(gL tV l 0).z⟩).set 2 ⟨(gL tV l 0).x,W ((gL tV l 0).y-2),(gL tV l 0).z⟩).set 3 ⟨(gL tV l 0).x,(gL tV l 0).y,W ((gL tV l 0).z-1)⟩):=by
 match l,h4,h8,hb with
 |a::b::c::d::l,h4,h8,hb =>
  have ha:=hb a List.mem_cons_self;have g0:gL tV (a::b::c::d::l) 0=a:=rfl;rw[g0];obtain⟨x1,x2⟩:=ha.x;obtain⟨y1,y2⟩:=ha.y;obtain⟨z1,z2⟩:=ha.z;rw[N9 (n:=a.x-3) (by omega) (by omega),N9 (n:=a.y-2) (by omega) (by omega),N9 (n:=a.z-1) (by omega) (by omega)]
  show Mp (a::⟨a.x-3,a.y,a.z⟩::⟨a.x,a.y-2,a.z⟩::⟨a.x,a.y,a.z-1⟩::l);have bd:∀v∈(a::⟨a.x-3,a.y,a.z⟩::⟨a.x,a.y-2,a.z⟩::⟨a.x,a.y,a.z-1⟩::l:List V3),Sm 11 v.x/\Sm 11 v.y/\Sm 11 v.z:=λv hv=>by
   simp only[Qkak] at hv;unfold Sm
   rcases hv with rfl|rfl|rfl|rfl|hv
   ·omega
   ·simp only;omega
   ·simp only;omega
   ·simp only;omega
   ·have:=hb v (by simp[hv])
    obtain⟨⟨k1,k2⟩,⟨k3,k4⟩,k5,k6⟩:=this;omega
  refine⟨by simp only[List.length_cons];omega,by simp only[List.length_cons] at h8 ⊢;omega,bd,sf4 (Qkf.2 λv hv=>?_) ?_⟩
  ·obtain⟨h1,h2,h3⟩:=bd v hv;exact (Ka2 v).2 ⟨h1.mono (by omega),h2.mono (by omega),h3.mono (by omega)⟩
  ·refine⟨a,⟨a.x-3,a.y,a.z⟩,⟨a.x,a.y-2,a.z⟩,⟨a.x,a.y,a.z-1⟩,by simp,by simp,by simp,by simp,?_⟩
   have e:dot (N3 a ⟨a.x-3,a.y,a.z⟩ ⟨a.x,a.y-2,a.z⟩) (C3 ⟨a.x,a.y,a.z-1⟩ a)=-6:=by simp only[dot,N3,c8,C3];grind
   rw[e];decide
theorem Se7 (x : List Int) (N : Nat) (h4 : 4 ≤ N) (h8 : N ≤ 8) (j0 : Int) (hj0 : 0 ≤ j0 ∧ j0 ≤ 10) :
  ∃idx out,lp (oa6 ⟨(N:Int)⟩) ⟨0,0,x,j0,0,[]⟩=(2,⟨1,(N:Int),x,idx,N,bL tV out⟩)/\out.length=N/\∀v∈out,B8 v:=by
 have key:=ea3 (step:=oa6 ⟨(N:Int)⟩) (mk:=λj (a:Int×List V3)=>(⟨phV a.2,(j:Int),x,a.1,a.2.length,bL tV a.2⟩:r6)) N
  (λj a=>a.2.length=j/\0<=a.1/\a.1<=10+4*j/\j<=N/\∀v∈a.2,B8 v) (λt s=>t=2/\∃idx out,s=⟨1,(N:Int),x,idx,N,bL tV out⟩/\out.length=N/\∀v∈out,B8 v) (by omega) (λj a hj ha=>?_) (λj a hj ha=>?_) 0 (j0,[]) ⟨rfl,hj0.1,by omega,by omega,λv hv=>by cases hv⟩
 ·obtain⟨t,s,e1,rfl,idx,out,e2,e3⟩:=key;exact⟨idx,out,by rw[<- e2];exact e1,e3.1,e3.2⟩
 ·obtain⟨at0,out⟩:=a;obtain⟨ho,ha1,ha2,_,hB⟩:=ha
  simp only at ho ha1 ha2 hB
  have hn:=o8 hj (show N<=4611686018427387904 by omega)
  obtain⟨v1,j1,d1,p1,q1,c1,b1⟩:=hb5 17 x at0 ha1 (by omega) (by omega) (by omega)
  obtain⟨v2,j2,d2,p2,q2,c2,b2⟩:=hb5 17 x j1 (by omega) (by omega) (by omega) (by omega)
  obtain⟨v3,j3,d3,p3,q3,c3,b3⟩:=hb5 17 x j2 (by omega) (by omega) (by omega) (by omega)
  obtain⟨v4,j4,d4,_,_,c4,b4⟩:=hb5 6 x j3 (by omega) (by omega) (by omega) (by omega)
  have s1:Sm 8 (W (v1-8)):=by unfold Sm;rw[N9 (by omega) (by omega)];omega
  have s2:Sm 8 (W (v2-8)):=by unfold Sm;rw[N9 (by omega) (by omega)];omega
  have s3:Sm 8 (W (v3-8)):=by unfold Sm;rw[N9 (by omega) (by omega)];omega
  have leaf : ∀ (E : Nat → Prop) (x1 x2 x3 : Int), Sm 8 x1 → Sm 8 x2 → Sm 8 x3 → Nx (.next (⟨1, ((j + 1 : Nat) : Int), x, j4, j + 1, bL tV (out ++ [⟨x1, x2, x3⟩])⟩ : r6)) E
    (λs=>∃a':Int×List V3,s=⟨phV a'.2,((j+1:Nat):Int),x,a'.1,a'.2.length,bL tV a'.2⟩/\a'.2.length=j+1/\0<=a'.1/\a'.1<=10+4*((j+1:Nat):Int)/\j+1<=N/\∀v∈a'.2,B8 v):=λE x1 x2 x3 k1 k2 k3=>by
   have hl:(out++[(⟨x1,x2,x3⟩:V3)]).length=j+1:=by simp[ho]
   exact .nx ⟨(j4,out++[⟨x1,x2,x3⟩]),by simp only[Id1,hl],hl,by show 0<=j4;omega,by show j4<=_;omega,by omega,λv hv=>by
    rcases Qkao.1 hv with h|h
    ·exact hB v h
    ·rw[Qkaj.1 h];exact⟨k1,k2,k3⟩⟩
  cases out with
  |nil =>
   have hj0':j=0:=by simpa using ho.symm
   subst hj0';show Nx (Z2 Stp.next Stp.exit Stp.fail _ _) _ _;simp only[Z2,l9,k9,d1,d2,d3,d4,hn];rw[btD (l6 hj)];have f1:decide (((0:Nat):Int)>1)=false:=rfl;have f2:decide (((0:Nat):Int)>0)=false:=rfl;have f3:decide (((0:Nat):Int)>2)=false:=rfl;have lf:∀(E:Nat->Prop) (x1 x2 x3:Int),Sm 8 x1->Sm 8 x2->Sm 8 x3->Nx (.next (⟨1,((0+1:Nat):Int),x,j4,1,[[i x1,i x2,i x3]]⟩:r6)) E _:=leaf;simp only[f1,f2,f3,Na3,Qkq,Qks,o9];refine Nx.sl (λ_=>?_) (λ_=>?_)<;>refine Nx.sl (λ_=>?_) (λ_=>?_)
   all_goals first
    |exact lf _ _ _ _ (by assumption) (by assumption) (by assumption)
    |(refine Nx.sl (λ_=>?_) (λ_=>?_)<;>exact lf _ _ _ _ (by assumption) (by assumption) (by assumption))
  |cons o os =>
   have h1:1<=j:=by simp only[List.length_cons] at ho;omega
   generalize hO:o::os=O at *
   have hph:phV O=1:=by subst hO;rfl
   have w1:W ((j:Int)-1)=((j-1:Nat):Int):=by rw[N9 (by omega) (by omega)];omega
   have i1:inB ((j-1:Nat):Int) j=true:=f8 (by omega)
   have r1:=gf6 (l:=O) (m:=j-1) (by omega)
   have r1':=rf9 (l:=O) (m:=j-1) (by omega)
   have rr:=qe4 ho (by omega)
   have gx:∀m,m<O.length->Sm 8 (toI (hdA (i9 (j9 (bL tV O) (0+m)) 0)))/\Sm 8 (toI (hdA (tlA (i9 (j9 (bL tV O) (0+m)) 0))))/\Sm 8 (toI (hdA (tlA (tlA (i9 (j9 (bL tV O) (0+m)) 0)))))/\Sm 8 (toI (hdA (i9 (j9 (bL tV O) (0+m)) 2))):=λm hm=>by
    rw[Qke,Y9 tV hm]
    have:=hB _ (zb2 tV hm)
    exact⟨this.x,this.y,this.z,this.z⟩
   have md:∀{A C:Int},Sm 8 A->Sm 8 C->Sm 8 (W (Int.tdiv (W (A+C)) 2)):=λ{A C} ⟨h1,h2⟩ ⟨h3,h4⟩=>by
    unfold Sm;rw[N9 (n:=A+C) (by omega) (by omega)]
    obtain⟨m1,m2,m3⟩:=Wd3 (x:=A+C) (y:=2) (by omega)
    rw[N9 (by omega) (by omega)]
    omega
   obtain⟨gx1,gy1,gz1,gw1⟩:=gx (j-1) (by omega)
   have f2:∀{inst:Decidable ((j:Int)>0)},@decide ((j:Int)>0) inst=true:=decide_eq_true (by omega)
   show Nx (sel (Nat.beq (phV O) 1) (r4 Stp.next Stp.exit Stp.fail _ _) _) _ _;rw[hph];show Nx (r4 Stp.next Stp.exit Stp.fail _ _) _ _;by_cases h2:2<=j
   ·have w2:W ((j:Int)-2)=((j-2:Nat):Int):=by rw[N9 (by omega) (by omega)];omega
    have i2:inB ((j-2:Nat):Int) j=true:=f8 (by omega)
    have r2:=gf6 (l:=O) (m:=j-2) (by omega)
    obtain⟨gx2,gy2,gz2,gw2⟩:=gx (j-2) (by omega)
    have mx:=md gx1 gx2;have my:=md gy1 gy2;have mz:=md gz1 gz2;simp only[r4,l9,k9,d1,d2,d3,d4,hn,ho,w1,w2,i1,i2,Int.toNat_natCast,r1,r1',r2,rr,Bc6];rw[btD (l6 hj)];simp only[Qkq,Qks,o9]
    repeat' (first | exact leaf _ _ _ _ (by assumption) (by assumption) (by assumption) | refine Nx.sl (λ_=>?_) (λ_=>?_))
   ·have hj1:j=1:=by omega
    subst hj1;simp only[r4,l9,k9,d1,d2,d3,d4,hn,ho,w1,i1,Int.toNat_natCast,r1,r1',rr,Bc6];have f1:decide (((1:Nat):Int)>1)=false:=rfl;rw[btD (l6 hj)];simp only[f1,Na3,Qkq,Qks,o9]
    repeat' (first | exact leaf _ _ _ _ (by assumption) (by assumption) (by assumption) | refine Nx.sl (λ_=>?_) (λ_=>?_))
 ·obtain⟨at0,out⟩:=a;obtain⟨ho,ha1,ha2,hjN,hB⟩:=ha
  simp only at ho ha1 ha2 hB
  have hj':j=N:=by omega
  subst hj';cases out with
  |nil=>simp only[List.length_nil] at ho;omega
  |cons o os =>
   refine⟨2,?_,rfl,at0,o::os,by rw[ho];rfl,ho,hB⟩
   show r4 Stp.next Stp.exit Stp.fail _ _=_;simp only[r4];rw[bfD (by omega)]
theorem Ae4(x:List Int):Rd (one (r1L tV)) (wa9 x) Mp:=by
 obtain⟨v,j,e1,a1,b1,c1,d1⟩:=hb5 5 x 0 (by omega) (by omega) (by omega) (by omega)
 have hN:W (4+v)=(((4+v).toNat:Nat):Int):=by rw[N9 (by omega) (by omega)];omega
 obtain⟨idx,out,e2,e3,hB⟩:=Se7 x (4+v).toNat (by omega) (by omega) j (by omega)
 unfold wa9;simp only[l9,k9,e1,hN,e2];have h4:4<=(4+v).toNat:=by omega
 have h8:(4+v).toNat<=8:=by omega
 generalize (4+v).toNat=N at *
 have s1:lsL tV N (λk=>j9 (bL tV out) (0+k))=out:=by rw[<- e3];exact vb4 tV out
 have s2:okL tV N (λk=>j9 (bL tV out) (0+k))=true:=by rw[<- e3];exact Hb0 tV out
 have gf:db3 out=true:=Oe1 out (by omega)
 rw[s1,s2,gf,Bf0 out (by omega)]
 simp only[Qkq,Qks,o9,show Nat.beq 2 1=false from rfl,Na3]
 refine Rd.sl (λ_=>?_) λhnf=>Id2 e3.symm rfl (Se6 (by omega) (by omega) hB (by simpa using hnf))
 have i0:inB 0 N=true:=f8 (j:=0) (by omega)
 have i1:inB 1 N=true:=f8 (j:=1) (by omega)
 have i2:inB 2 N=true:=f8 (j:=2) (by omega)
 have i3:inB 3 N=true:=f8 (j:=3) (by omega)
 have sp:∀(v:V3) (x1 x2 x3:Int),W7 (tV.row v) 0 [i x1,i x2,i x3]=tV.row ⟨x1,x2,x3⟩:=λ_ _ _ _=>rfl
 have rl:∀v:V3,Nat.ble (0+3) (len (tV.row v))=true:=λ_=>rfl
 have ck:∀v:V3,ta2 [CK.int .i64,CK.int .i64,CK.int .i64] (i9 (tV.row v) 0)=true:=λ_=>rfl
 have gr:∀(l:List V3) (k:Nat),l.length=N->k<4->j9 (bL tV l) k=tV.row (gL tV l k):=λl k hl hk=>Y9 tV (by omega)
 have bl:∀(l:List V3) (k:Nat),l.length=N->k<4->Nat.blt k (len (bL tV l))=true:=λl k hl hk=>by rw[ta6,Nat.blt_eq];omega
 have ls:∀(l:List V3) (k:Nat) (v:V3),l.length=N->(l.set k v).length=N:=λl k v hl=>by rw[Qkt];exact hl
 rw[gr out 0 e3 (by omega),gr out 1 e3 (by omega)]
 simp only[sp,ib5];rw[gr _ 2 (ls out 1 _ e3) (by omega)]
 simp only[sp,ib5];rw[gr _ 3 (ls _ 2 _ (ls out 1 _ e3)) (by omega)]
 simp only[sp,ib5,rl,ck,i0,i1,i2,i3,bl out 0 e3 (by omega),bl out 1 e3 (by omega),bl _ 2 (ls out 1 _ e3) (by omega),bl _ 3 (ls _ 2 _ (ls out 1 _ e3)) (by omega),Qks,o9]
 exact Id2 (by simp only[Qkt];omega) rfl (Cf4 (by omega) (by omega) hB)
theorem Ha9(x:List Int):Mp (d9 x):=(Ae4 x).p
theorem Lc6{l:List V3}(h:lb4 l=0):l.length<=48/\l.all inV=true/\Sol l:=by
 unfold lb4 at h
 split at h
 ·cases h
 rename_i h48
 split at h
 ·cases h
 rename_i hin
 split at h
 ·cases h
 rename_i hf;have hl:l.all inV=true:=by
  rw[Qkf];intro v hv;cases hi:inV v with
  |true=>rfl
  |false=>exact absurd (Qka.2 ⟨v,hv,by rw[hi];rfl⟩) hin
 have hin2:=Qkf.1 hl;refine⟨by omega,hl,?_⟩
 have hf:pc0 l=false:=Bool.eq_false_iff.2 hf;unfold pc0 at hf
 split at hf
 ·rename_i h1;obtain⟨hi,k1⟩:=jc2 h1;have k1:(ixs (iF l)).any (sp2 l (iF l))=true:=k1;obtain⟨hj,k2⟩:=jc2 k1;have k2:(l.take (jF l)).any (λv=>(G5 v (gL tV l (jF l)) (gL tV l (iF l))).2)=true:=k2
  have hj:jF l<iF l:=hj;have hi:iF l<l.length:=hi;have hk:=Jd4 k2;have hk2:=Qkx (xs:=l.take (jF l)) (p:=λv=>(G5 v (gL tV l (jF l)) (gL tV l (iF l))).2) (w:=hk)
  rw[Qkc] at hk;rw[<- pb5 tV (by rw[Qkc];exact hk),zd3 tV l (by omega)] at hk2
  have ht:=(xa7 hk2).2;rw[Bool.not_eq_false',Qka] at hf;obtain⟨v,hv,hne⟩:=hf;have hne:ba9 (plF l) v≠0:=bne_iff_ne.1 hne;have ht:Thr (gL tV l (kF l)) (gL tV l (jF l)) (gL tV l (iF l)) (plF l):=ht;have hkl:kF l<l.length:=by
   have:kF l<min (jF l) l.length:=hk
   omega
  have hoff:dot (plF l).n v≠(plF l).b:=λe=>hne ((Ob9 ht.ok (hin2 v hv)).2 e)
  refine⟨_,_,_,v,gLm hkl,gLm (show jF l<l.length by omega),gLm hi,hv,λh0=>hoff ?_⟩
  obtain⟨ok,⟨g,hg,e1,e2,e3⟩,o⟩:=ht;have e:g*(dot (plF l).n v-(plF l).b)=dot (N3 (gL tV l (kF l)) (gL tV l (jF l)) (gL tV l (iF l))) (C3 v (gL tV l (kF l))):=by
   have e1:g*(plF l).n.x=(N3 (gL tV l (kF l)) (gL tV l (jF l)) (gL tV l (iF l))).x:=e1;have e2:g*(plF l).n.y=(N3 (gL tV l (kF l)) (gL tV l (jF l)) (gL tV l (iF l))).y:=e2;have e3:g*(plF l).n.z=(N3 (gL tV l (kF l)) (gL tV l (jF l)) (gL tV l (iF l))).z:=e3;rw[o];simp only[dot];rw[<- e1,<- e2,<- e3];simp only[C3]
   grind
  rw[h0] at e
  have:=(Qkn.1 e).resolve_left (by omega)
  omega
 ·cases hf
noncomputable def Ta1(l:List V3):List Pln×Int:=if lb4 l=0 then (F0 l,0) else ([],lb4 l)
noncomputable def Dc5(l:List V3):List V3×Int:=if lb4 l=0 then (va5 (F0 l) l,0) else ([],lb4 l)
theorem Yd6{l:List V3}(h48:l.length<=48)(hl:l.all inV=true):(F0 l).length<=1000000:=by
 have h1:=Jd6 (dis l) (G0 (dis l));have hd:=Yc5 l;have h2:(G0 (dis l)).length<=_:=Jd7 (dis l) (by omega) _ (Qkk _)
 rw[<- Yd5 hl,ic3];omega
theorem Tb9(a:V3)(l:List V3)(hl:l.length<=900000):Rd (two (r1L tP) r1I) (xa4 (a,l)) (λr=>r=Ta1 (a::l)):=by
 by_cases h:lb4 (a::l)=0
 ·obtain⟨h1,h2,h3⟩:=Lc6 h;unfold Ta1;rw[if_pos h];exact Ae3 a l h1 h2 h3
 ·have hll:(a::l).length<=1000000:=by simp only[List.length_cons];omega
  have hne:(lb4 (a::l) != 0)=true:=bne_iff_ne.2 h;unfold Ta1 xa4;rw[if_neg h];simp only[l9,ta5,k9,ld6 (a::l) hll,ld5 (a::l) hll,hne,o9];exact⟨_,([],lb4 (a::l)),rfl,rfl,rfl⟩
theorem fc3:lb4 []=11:=by
 unfold lb4 pc0;rfl
noncomputable def ja6(l:List V3):List Pln×Int:=Ta1 l
noncomputable def sa4(l:List V3):Bool:=decide (1<=l.length/\l.length<=900000)
noncomputable def pc2:Sum:=Q9 (ta7 tV) λl=>.guard (sa4 l) (.ret ((two (r1L tP) r1I).enc (ja6 l),[]))
noncomputable def pc3:Sum:=λargs blks=>match args,blks with
 |[.v (.slice none 0 0)],[]=>Kb0 args blks
 |_,_=>pc2 args blks
theorem Se8{f:Nat}{A B:Sum}(hA:f9 prog G f A)(hB:f9 prog G f B):f9 prog G f (λargs blks=>match args,blks with
 |[.v (.slice none 0 0)],[]=>A args blks
 |_,_=>B args blks):=by
 intro args blks r out he
 simp only at he
 split at he
 ·exact hA _ _ r out he
 ·exact hB _ _ r out he
theorem Se9:gb4 ()=Ta1 []/\gb5 ()=true:=by
 have h:Pa3 ()=some (.tup [.v (.slice none 0 0),i 11],[]):=by
  unfold Pa3;simp only[ld6 [] (by simp),ld5 [] (by simp),fc3]
  rfl
 unfold gb4 gb5 Ta1;rw[h,fc3];exact⟨rfl,rfl⟩
theorem ld9:f9 prog G 64 pc2:=by
 refine Le4 (ic6 oc1 λa r hr=>?_) (ic6 Ab0 λa r hr=>?_) (ic6 ec0 λa r hr=>?_)
 ·obtain⟨p,c⟩:=a;obtain⟨hg,hr⟩:=DT.run_guard_some hr;have hl:c.length<=900000:=by
   have:=(of_decide_eq_true hg).2
   simp only[List.length_cons] at this;omega
  have hp:tb0 (p,c)=Ta1 (p::c):=(Tb9 p c hl).p;have hq:tb1 (p,c)=true:=(Tb9 p c hl).g;rw[hp,hq];exact hr
 ·obtain⟨hg,hr⟩:=DT.run_guard_some hr;exact absurd (of_decide_eq_true hg).1 (by simp)
 ·obtain⟨hg,hr⟩:=DT.run_guard_some hr;exact absurd (of_decide_eq_true hg).1 (by simp)
theorem md0:f9 prog G 64 pc3:=Se8 Ab0 ld9
theorem Dc6(a:V3)(l:List V3)(hl:l.length<=900000):Rd (two (r1L tV) r1I) (Ha8 (a,l)) (λr=>r=Dc5 (a::l)):=by
 have hok:okL tV (l.length+1) (λk=>tV.row (gL tV (a::l) k))=true:=Gb9 tV (f:=λk=>gL tV (a::l) k) λ_ _=>rfl
 have hp:tb0 (a,l)=Ta1 (a::l):=(Tb9 a l hl).p;have hq:tb1 (a,l)=true:=(Tb9 a l hl).g;unfold Dc5;unfold Ha8;simp only[l9,ta5,k9,ne2,ne3,hok,hp,hq,o9];unfold Ta1;by_cases h:lb4 (a::l)=0
 ·obtain⟨h1,h2,h3⟩:=Lc6 h;have hF:OkF (F0 (a::l)):=⟨Yd6 h1 h2,λp hp=>(Id7 hp).ok⟩
  obtain⟨m,r,e1,e2,e3,e4⟩:=Kd1 a l (by omega)
  obtain⟨m',r',k1,k2,k3⟩:=je9 r m e2 (F0 (a::l)) e4 hF;rw[if_pos h,if_pos h];simp only[e1,k1];refine⟨_,(r'.take m',0),rfl,?_,by rw[k3,e3];rfl⟩
  have h:(r1L tV).rd [⟨27,3,bL tV r',true,false,0⟩] (.sl 0 0 m' 0)=some (r'.take m'):=by
   show Bool.rec (motive:=λ_=>Option (List V3)) none (some (slR tV (bL tV r') 0 m')) (Bool.and true (okS tV (bL tV r') 0 m'))=_
   rw[zd0 _ _ k2,Lc5 _ _ k2];rfl
  simp only[two,h];rfl
 ·have hne:(lb4 (a::l) != 0)=true:=bne_iff_ne.2 h;rw[if_neg h,if_neg h];simp only[hne,o9];exact⟨_,([],lb4 (a::l)),rfl,rfl,rfl⟩
noncomputable def Ra6(l:List V3):List V3×Int:=Dc5 l
noncomputable def Ra7(l:List V3):Bool:=decide (1<=l.length/\l.length<=900000)
noncomputable def Wb4:Sum:=Q9 (ta7 tV) λl=>.guard (Ra7 l) (.ret ((two (r1L tV) r1I).enc (Ra6 l),[]))
noncomputable def Wb5:Sum:=λargs blks=>match args,blks with
 |[.v (.slice none 0 0)],[]=>Wb2 args blks
 |_,_=>Wb4 args blks
theorem Nf8:Ra4 ()=Dc5 []/\Ra5 ()=true:=by
 have h:Aa6 ()=some (.tup [.v (.slice none 0 0),i 11],[]):=by
  unfold Aa6;simp only[Se9.1,Se9.2,Ta1,fc3];rfl
 unfold Ra4 Ra5 Dc5;rw[h,fc3];exact⟨rfl,rfl⟩
theorem Lc7:f9 prog G 35 Wb4:=by
 refine Le4 (ic6 Uc2 λa r hr=>?_) (ic6 Ob4 λa r hr=>?_) (ic6 Kc1 λa r hr=>?_)
 ·obtain⟨p,c⟩:=a;obtain⟨hg,hr⟩:=DT.run_guard_some hr;have hl:c.length<=900000:=by
   have:=(of_decide_eq_true hg).2
   simp only[List.length_cons] at this;omega
  have hp:dc8 (p,c)=Dc5 (p::c):=(Dc6 p c hl).p;have hq:dc9 (p,c)=true:=(Dc6 p c hl).g;rw[hp,hq];exact hr
 ·obtain⟨hg,hr⟩:=DT.run_guard_some hr;exact absurd (of_decide_eq_true hg).1 (by simp)
 ·obtain⟨hg,hr⟩:=DT.run_guard_some hr;exact absurd (of_decide_eq_true hg).1 (by simp)
theorem Lc8:f9 prog G 35 Wb5:=Se8 Ob4 Lc7
set_option maxRecDepth 100000
structure Ra8 where
 (i8 ja8:List V3)
noncomputable def eb0:List (Nat×Sum):=[(34,bc5)]
theorem Dc7:i4 prog G eb0:=⟨yc6,trivial⟩
structure D9 where
 (ja8 sa5:List V3)
 (ra4 r9:Int)
 uc3:List V3
 (le6 B7 B9 C0:Int)
structure o5 where
 ph:Nat
 eb6:Int
 ns7:Nat
 (eh0 eh1:List (List b7))
 (sa9 ta0 ta1:Int)
noncomputable def pb7(p:D9)(s:o5):St:=⟨.unk::eL tV p.ja8::.fn 34 []::ra 4 (.v (.slice none 0 0)::.ptr 0 0 0 0::.unk::.ptr 1 0 0 0::ra 4 (eL tV p.sa5::i p.ra4::i p.r9::ra 3 (eL tV p.uc3::i p.le6::i s.eb6::ra 20 []))),[⟨153,0,[],true,false,0⟩,⟨0,3,[[i p.B7,i p.B9,i p.C0]],true,false,0⟩]⟩
noncomputable def pb8(p:D9)(s:o5):St:=⟨.unk::eL tV p.ja8::.fn 34 []::ra 4 (.sl 0 0 s.ns7 0::.ptr 1 0 0 0::.unk::.ptr 2 0 0 0::ra 4 (eL tV p.sa5::i p.ra4::i p.r9::ra 3 (eL tV p.uc3::i p.le6::i s.eb6::ra 20 []))),[⟨27,3,s.eh0,true,false,0⟩,⟨153,0,s.eh1,true,false,0⟩,⟨0,3,[[i s.sa9,i s.ta0,i s.ta1]],true,false,0⟩]⟩
noncomputable def tc7(p:D9)(s:o5):St:=(sel (Nat.beq s.ph 1) (pb8 p s) (pb7 p s))
noncomputable def M9{α:Type}(k:o5->α)(e:Nat->α)(z:α)(p:D9)(s:o5):α:=let t1:=(j5 (⟨p.B7,p.B9,p.C0⟩:V3) (gL tV p.uc3 s.eb6.toNat));(sl (decide (s.eb6<p.le6)) (sl (inB s.eb6 (List.length p.uc3)) (sl (!(Da3 3 [(0,.int .i64),(1,.int .i64),(2,.int .i64)] [i t1.x,i t1.y,i t1.z] [])) (k ⟨1,W (s.eb6+1),1,[[i t1.x,i t1.y,i t1.z]],V5 [(0,.int .i64),(1,.int .i64),(2,.int .i64)] [i t1.x,i t1.y,i t1.z] [i t1.x,i t1.y,i t1.z,b true] [],p.B7,p.B9,p.C0⟩) (k ⟨0,W (s.eb6+1),0,[],[],0,0,0⟩)) z) (e 1))
noncomputable def N0{α:Type}(k:o5->α)(e:Nat->α)(z:α)(p:D9)(s:o5):α:=let t1:=(j5 (⟨s.sa9,s.ta0,s.ta1⟩:V3) (gL tV p.uc3 s.eb6.toNat));(sl (decide (s.eb6<p.le6)) (sl (inB s.eb6 (List.length p.uc3)) (sl (!(Da3 3 [(0,.int .i64),(1,.int .i64),(2,.int .i64)] [i t1.x,i t1.y,i t1.z] s.eh1)) (sl (Nat.beq s.ns7 (len s.eh0)&&Nat.ble ((s.ns7+1)*24) room) (k ⟨1,W (s.eb6+1),s.ns7+1,app s.eh0 [[i t1.x,i t1.y,i t1.z]],V5 [(0,.int .i64),(1,.int .i64),(2,.int .i64)] [i t1.x,i t1.y,i t1.z] [i t1.x,i t1.y,i t1.z,b true] s.eh1,s.sa9,s.ta0,s.ta1⟩) z) (k ⟨1,W (s.eb6+1),s.ns7,s.eh0,s.eh1,s.sa9,s.ta0,s.ta1⟩)) z) (e 2))
noncomputable def L3(p:D9)(s:o5):Stp o5:=(sel (Nat.beq s.ph 1) (N0 .next .exit .fail p s) (M9 .next .exit .fail p s))
noncomputable def ab0:Lo D9 o5:=⟨En eb0,0,xf3,[1,1,1,0,1,4,4,1,1,0,4,1,1,4,4],[1,2,7,8,10,15,16,17,21,22,23],.p,[⟨sUq::sLq tV::.s (.o (.fn 34))::ru2 4 (.s (.o .nil)::sPq 0::sUq::sPq 1::ru2 4 (sLq tV::sIq::sIq::ru2 3 (sLq tV::sIq::sIq::ru2 20 []))),[⟨153,0,true,some []⟩,⟨0,3,true,some [kLq 3]⟩],λa H=>(⟨aLq tV a 1,aLq tV a 15,aIq a 16,aIq a 17,aLq tV a 21,aIq a 22,hIq H 1 0 0,hIq H 1 0 1,hIq H 1 0 2⟩,⟨0,aIq a 23,0,[],[],0,0,0⟩)⟩,⟨sUq::sLq tV::.s (.o (.fn 34))::ru2 4 (.s (.o (.sl 0 0 (some 0) none))::sPq 1::sUq::sPq 2::ru2 4 (sLq tV::sIq::sIq::ru2 3 (sLq tV::sIq::sIq::ru2 20 []))),[⟨27,3,true,none⟩,⟨153,0,true,none⟩,⟨0,3,true,some [kLq 3]⟩],λa H=>(⟨aLq tV a 1,aLq tV a 15,aIq a 16,aIq a 17,aLq tV a 21,aIq a 22,0,0,0⟩,⟨1,aIq a 23,slN (slT a 7),elT H 0,elT H 1,hIq H 2 0 0,hIq H 2 0 1,hIq H 2 0 2⟩)⟩],L3,[(some 2,λp s=>upq (pb7 p s) [(24,b (decide (s.eb6<p.le6)))]),(some 2,λp s=>upq (pb8 p s) [(24,b (decide (s.eb6<p.le6)))])],tc7⟩
theorem tc8:ab0.OkM:=Lo.okM [] (by kernel_rfl) .nil rfl (.cons (λa H=>by kernel_rfl) (.cons (λa H=>by kernel_rfl) .nil)) λp s=>(.sel (Nat.beq s.ph 1) (.of @N0 (λF _ _ _ _ _=>by unfold N0;(repeat' apply l5 (f:=F))<;>rfl) (by kernel_rfl)) (.of @M9 (λF _ _ _ _ _=>by unfold M9;(repeat' apply l5 (f:=F))<;>rfl) (by kernel_rfl)))
structure N7 where
 ra4:Int
structure s9 where
 ph:Nat
 (ja8 sa5:List V3)
 r9:Int
 ns7:Nat
 (eh0 eh1:List (List b7))
noncomputable def pb9(p:N7)(s:s9):St:=⟨.unk::eL tV s.ja8::.fn 34 []::ra 4 (.v (.slice none 0 0)::.ptr 0 0 0 0::ra 6 (eL tV s.sa5::i p.ra4::i s.r9::ra 26 [])),[⟨153,0,[],true,false,0⟩]⟩
noncomputable def qb0(p:N7)(s:s9):St:=⟨.unk::eL tV s.ja8::.fn 34 []::ra 4 (.sl 0 0 s.ns7 0::.ptr 1 0 0 0::ra 6 (eL tV s.sa5::i p.ra4::i s.r9::ra 26 [])),[⟨27,3,s.eh0,true,false,0⟩,⟨153,0,s.eh1,true,false,0⟩]⟩
noncomputable def tc9(p:N7)(s:s9):St:=(sel (Nat.beq s.ph 1) (qb0 p s) (pb9 p s))
noncomputable def N1{α:Type}(k:s9->α)(e:Nat->α)(z:α)(p:N7)(s:s9):α:=let t1:=(lp (L3 (⟨rt tV s.ja8,rt tV s.sa5,p.ra4,s.r9,rt tV s.ja8,(↑(List.length s.ja8):Int),(gL tV s.sa5 s.r9.toNat).x,(gL tV s.sa5 s.r9.toNat).y,(gL tV s.sa5 s.r9.toNat).z⟩:D9)) (⟨0,0,0,[],[],0,0,0⟩:o5));(sl (decide (s.r9<p.ra4)) (sl (inB s.r9 (List.length s.sa5)) (sl ((cnE tV s.ja8)&&((cnE tV s.sa5)&&((cnE tV s.ja8)&&true))) (sl (Nat.beq t1.1 1) (k ⟨0,rt tV s.ja8,rt tV s.sa5,W (s.r9+1),0,[],[]⟩) (sl (Nat.beq t1.1 2) (k ⟨1,rt tV s.ja8,rt tV s.sa5,W (s.r9+1),t1.2.ns7,t1.2.eh0,t1.2.eh1⟩) z)) z) z) (e 1))
noncomputable def N2{α:Type}(k:s9->α)(e:Nat->α)(z:α)(p:N7)(s:s9):α:=let t1:=(lp (L3 (⟨rt tV s.ja8,rt tV s.sa5,p.ra4,s.r9,rt tV s.ja8,(↑(List.length s.ja8):Int),0,0,0⟩:D9)) (⟨1,0,s.ns7,s.eh0,s.eh1,(gL tV s.sa5 s.r9.toNat).x,(gL tV s.sa5 s.r9.toNat).y,(gL tV s.sa5 s.r9.toNat).z⟩:o5));(sl (decide (s.r9<p.ra4)) (sl (inB s.r9 (List.length s.sa5)) (sl ((cnE tV s.ja8)&&((cnE tV s.sa5)&&((cnE tV s.ja8)&&true))) (sl (Nat.beq t1.1 1) (k ⟨0,rt tV s.ja8,rt tV s.sa5,W (s.r9+1),0,[],[]⟩) (sl (Nat.beq t1.1 2) (k ⟨1,rt tV s.ja8,rt tV s.sa5,W (s.r9+1),t1.2.ns7,t1.2.eh0,t1.2.eh1⟩) z)) z) z) (e 2))
noncomputable def ma1(p:N7)(s:s9):Stp s9:=(sel (Nat.beq s.ph 1) (N2 .next .exit .fail p s) (N1 .next .exit .fail p s))
noncomputable def ab1:Lo N7 s9:=⟨En eb0,0,xf3,[1,1,1,0,1,4,4],[1,2,7,8,15,16,17],.s .p (.s .p (.s (.b (.s .p (.s .p (.b (.u ab0.lsM))))) .p)),[⟨sUq::sLq tV::.s (.o (.fn 34))::ru2 4 (.s (.o .nil)::sPq 0::ru2 6 (sLq tV::sIq::sIq::ru2 26 [])),[⟨153,0,true,some []⟩],λa H=>(⟨aIq a 16⟩,⟨0,aLq tV a 1,aLq tV a 15,aIq a 17,0,[],[]⟩)⟩,⟨sUq::sLq tV::.s (.o (.fn 34))::ru2 4 (.s (.o (.sl 0 0 (some 0) none))::sPq 1::ru2 6 (sLq tV::sIq::sIq::ru2 26 [])),[⟨27,3,true,none⟩,⟨153,0,true,none⟩],λa H=>(⟨aIq a 16⟩,⟨1,aLq tV a 1,aLq tV a 15,aIq a 17,slN (slT a 7),elT H 0,elT H 1⟩)⟩],ma1,[(some 0,λp s=>upq (pb9 p s) [(18,b (decide (s.r9<p.ra4)))]),(some 0,λp s=>upq (qb0 p s) [(18,b (decide (s.r9<p.ra4)))])],tc9⟩
theorem uc0:ab1.OkM:=Lo.okM [ab0.prM] (by kernel_rfl) (.cons tc8 .nil) rfl (.cons (λa H=>by kernel_rfl) (.cons (λa H=>by kernel_rfl) .nil)) λp s=>(.sel (Nat.beq s.ph 1) (.of @N2 (λF _ _ _ _ _=>by unfold N2;(repeat' apply l5 (f:=F))<;>rfl) (by kernel_rfl)) (.of @N1 (λF _ _ _ _ _=>by unfold N1;(repeat' apply l5 (f:=F))<;>rfl) (by kernel_rfl)))
structure Ra9 where
 (alt ns0:Nat)
 eh0:List (List b7)
noncomputable def pa0{α:Type}(kk:Ra9->α)(x:Ra8):α:=let t1:=(lp (ma1 (⟨(↑(List.length x.i8):Int)⟩:N7)) (⟨0,rt tV x.ja8,rt tV x.i8,0,0,[],[]⟩:s9));(sl ((cnE tV x.ja8)&&((cnE tV x.i8)&&true)) (sl (Nat.beq t1.1 1) (kk ⟨1,0,[]⟩) (sl (Nat.beq t1.1 2) (kk ⟨2,t1.2.ns7,t1.2.eh0⟩) (kk ⟨0,0,[]⟩))) (kk ⟨0,0,[]⟩))
noncomputable def pb2(x:Ra8):Ra9:=pa0 (λr=>r) x
noncomputable def eb1(x:Ra8)(r:Ra9):DT (b7×List b8):=(.ite (Nat.beq r.alt 1) (.ret (.v (.slice none 0 0),[])) (.ite (Nat.beq r.alt 2) (.ret (.sl 0 0 r.ns0 0,[⟨27,3,r.eh0,true,false,0⟩])) .fail))
theorem Vc4{α β:Type}(F:α->β)(kk:Ra9->α)(x:Ra8):F (pa0 kk x)=pa0 (λr=>F (kk r)) x:=by unfold pa0;(repeat' apply l5 (f:=F))<;>rfl
noncomputable def Wb6:Sum:=Ea0 ⟨[sLq tV,sLq tV,.s (.o (.fn 34))],[],λa H=>(⟨aLq tV a 0,aLq tV a 1⟩,())⟩ (λx=>eb1 x (pb2 x))
theorem Lc9:f9 prog G 79 Wb6:=B5 (enc:=λx=>⟨[eL tV x.i8,eL tV x.ja8,.fn 34 []],[]⟩) (λa H=>by kernel_rfl) (bd b79 Dc7) λx=>dd7 (.s .p (.s .p (.s .p (.s (.s .p (.b (.u ab1.lsM))) .p)))) [ab1.prM] (by kernel_rfl) (.cons uc0 .nil) (Eq.trans (b:=pa0 (λr=>(eb1 x r).run) x) (by kernel_rfl) (Vc4 (λr=>(eb1 x r).run) (λr=>r) x).symm)
noncomputable def ke1:List (Nat×Sum):=[(79,Wb6),(35,Wb5)]
theorem Yd7:i4 prog G ke1:=⟨Lc9,Lc8,trivial⟩
noncomputable def Pb1(x:List V3)(y:List V3):Option (b7×List b8):=let t1:=(pb2 ⟨rt tV x,rt tV y⟩);let t2:=(Ra4 ());let t3:=(Ra6 (slR tV t1.eh0 0 t1.ns0));(sl (decide ((if (↑(List.length y):Int)>(↑(List.length x):Int) then (↑(List.length y):Int) else (↑(List.length x):Int))>48)) (some (.tup [.v (.slice none 0 0),i 2],[])) (sl ((cnE tV x)&&((cnE tV y)&&true)) (sl (Nat.beq t1.alt 1) (sl (Ra5 ()) (some (.tup [eL tV t2.1,i t2.2],[])) none) (sl (Nat.beq t1.alt 2) (sl (okS tV t1.eh0 0 t1.ns0) (sl (Ra7 (slR tV t1.eh0 0 t1.ns0)) (some (.tup [eL tV t3.1,i t3.2],[])) none) none) none)) none))
noncomputable def eb2(x:List V3)(y:List V3):List V3×Int:=O9 (two (r1L tV) r1I) (Pb1 x y)
noncomputable def eb3(x:List V3)(y:List V3):Bool:=okO (two (r1L tV) r1I) (Pb1 x y)
noncomputable def Mc0:Sum:=va4 (ta7 tV) (ta7 tV) (λx y=>.guard (eb3 x y) (.ret ((two (r1L tV) r1I).enc (eb2 x y),[])))
theorem md1:f9 prog G 28 Mc0:=Rb0 (bd b28 Yd7) (two (r1L tV) r1I) (o:=Pb1) λx y=>q9 (by kernel_rfl)
noncomputable def fc4:List (Nat×Sum):=[(83,Fa0)]
theorem Vc5:i4 prog G fc4:=⟨Ja1,trivial⟩
structure Aa9 where
 (i8 Mc9:List V3)
 (ca3 d7 c7 d8:Int)
structure W5 where
 (is6 Md0:Int)
noncomputable def Pb2(p:Aa9)(s:W5):St:=⟨eL tV p.i8::.unk::.unk::.ptr 0 0 0 0::.unk::.unk::i s.is6::ra 3 (eL tV p.Mc9::i p.ca3::i s.Md0::ra 20 []),[⟨0,3,[[i p.d7,i p.c7,i p.d8]],true,false,0⟩]⟩
noncomputable def ra2{α:Type}(k:W5->α)(e:Nat->α)(z:α)(p:Aa9)(s:W5):α:=let t1:=(j7 (gL tV p.Mc9 s.Md0.toNat) (⟨p.d7,p.c7,p.d8⟩:V3));(sl (decide (s.Md0<p.ca3)) (sl (inB s.Md0 (List.length p.Mc9)) (sl (s.Md0==0) (k ⟨t1,W (s.Md0+1)⟩) (sl (decide (t1>s.is6)) (k ⟨t1,W (s.Md0+1)⟩) (k ⟨s.is6,W (s.Md0+1)⟩))) z) (e 1))
noncomputable def ka3(p:Aa9)(s:W5):Stp W5:=ra2 .next .exit .fail p s
noncomputable def pb3:Lo Aa9 W5:=⟨En fc4,0,Hf0,[1,1,0,1,4,4],[0,3,6,10,11,12],.p,[⟨sLq tV::sUq::sUq::sPq 0::sUq::sUq::sIq::ru2 3 (sLq tV::sIq::sIq::ru2 20 []),[⟨0,3,true,some [kLq 3]⟩],λa H=>(⟨aLq tV a 0,aLq tV a 10,aIq a 11,hIq H 0 0 0,hIq H 0 0 1,hIq H 0 0 2⟩,⟨aIq a 6,aIq a 12⟩)⟩],ka3,[(some 0,λp s=>upq (Pb2 p s) [(13,b (decide (s.Md0<p.ca3)))])],Pb2⟩
theorem Mc1:pb3.Ok:=Lo.ok [] (by kernel_rfl) .nil rfl (.cons (λa H=>by kernel_rfl) .nil) λp s=>(.of @ra2 (λF _ _ _ _ _=>by unfold ra2;(repeat' apply l5 (f:=F))<;>rfl) (by kernel_rfl))
noncomputable def Pa5(x:List V3)(y:V3):Option (b7×List b8):=let t1:=(lp (ka3 (⟨rt tV x,rt tV x,(↑(List.length x):Int),y.x,y.y,y.z⟩:Aa9)) (⟨0,0⟩:W5));(sl ((cnE tV x)&&((cnE tV x)&&true)) (sl (Nat.beq t1.1 1) (some (.tup [i t1.2.is6,b (decide ((↑(List.length (rt tV x)):Int)>0))],[])) none) none)
noncomputable def Pa6(x:List V3)(y:V3):Int×Bool:=O9 (two r1I r1B) (Pa5 x y)
noncomputable def Pa7(x:List V3)(y:V3):Bool:=okO (two r1I r1B) (Pa5 x y)
noncomputable def pc4:Sum:=va4 (ta7 tV) (W8 tV) (λx y=>.guard (Pa7 x y) (.ret ((two r1I r1B).enc (Pa6 x y),[])))
theorem md2:f9 prog G 31 pc4:=Rb0 (bd b31 Vc5) (two r1I r1B) (o:=Pa5) λx y=>Ua7 (.s .p (.s .p (.s (.s .p (.b (.u pb3.ls))) .p))) [pb3.pr] (by kernel_rfl) (.cons Mc1 .nil) (by kernel_rfl)
structure Dc8 where
 (U8 U9 V0 bb1 d7 c7 d8:Int)
structure Dc9 where
 alt:Nat
 bs0:Bool
noncomputable def Ec0{α:Type}(kk:Dc9->α)(x:Dc8):α:=let t1:=(qa2 (⟨(⟨x.U8,x.U9,x.V0⟩:V3),x.bb1⟩:Pln) (⟨x.d7,x.c7,x.d8⟩:V3));(sl (qa3 (⟨(⟨x.U8,x.U9,x.V0⟩:V3),x.bb1⟩:Pln) (⟨x.d7,x.c7,x.d8⟩:V3)) (kk ⟨1,decide (t1>0)⟩) (kk ⟨0,false⟩))
noncomputable def Ub0(x:Dc8):Dc9:=Ec0 (λr=>r) x
structure Ma3 where
 j8:List Pln
 (d7 c7 d8:Int)
structure ia7 where
 j8:List Pln
 (is7 d7 c7 d8:Int)
structure w7 where
 is8:Int
noncomputable def ca0{α:Type}(k:w7->α)(e:Nat->α)(z:α)(p:ia7)(s:w7):α:=let t1:=(Ub0 ⟨(gL tP p.j8 s.is8.toNat).n.x,(gL tP p.j8 s.is8.toNat).n.y,(gL tP p.j8 s.is8.toNat).n.z,(gL tP p.j8 s.is8.toNat).b,p.d7,p.c7,p.d8⟩);(sl (decide (s.is8<p.is7)) (sl (inB s.is8 (List.length p.j8)) (sl (Nat.beq t1.alt 1) (sl t1.bs0 (e 1) (k ⟨W (s.is8+1)⟩)) z) z) (e 2))
noncomputable def Q7(p:ia7)(s:w7):Stp w7:=ca0 .next .exit .fail p s
structure Ma4 where
 alt:Nat
 is0:Int
noncomputable def Ma5{α:Type}(kk:Ma4->α)(x:Ma3):α:=let t1:=(lp (Q7 (⟨rt tP x.j8,(↑(List.length x.j8):Int),x.d7,x.c7,x.d8⟩:ia7)) (⟨0⟩:w7));(sl ((cnE tP x.j8)&&true) (sl (Nat.beq t1.1 1) (kk ⟨1,t1.2.is8⟩) (sl (Nat.beq t1.1 2) (kk ⟨1,-1⟩) (kk ⟨0,0⟩))) (kk ⟨0,0⟩))
noncomputable def oa0(x:Ma3):Ma4:=Ma5 (λr=>r) x
structure Ba0 where
 j8:List Pln
 (d7 c7 d8:Int)
structure Ba1 where
 alt:Nat
 bs0:Bool
noncomputable def Ba2{α:Type}(kk:Ba1->α)(x:Ba0):α:=let t1:=(oa0 ⟨rt tP x.j8,x.d7,x.c7,x.d8⟩);(sl ((cnE tP x.j8)&&true) (sl (Nat.beq t1.alt 1) (kk ⟨1,decide (t1.is0>=0)⟩) (kk ⟨0,false⟩)) (kk ⟨0,false⟩))
noncomputable def ga1(x:Ba0):Ba1:=Ba2 (λr=>r) x
noncomputable def Ub1(x:List V3)(y:V3):Option (b7×List b8):=let t1:=(ja6 (rt tV x));let t2:=(wa6 y);let t3:=(ga1 ⟨rt tP t1.1,y.x,y.y,y.z⟩);(sl (okE tV x) (sl (sa4 (rt tV x)) (sl (t1.2==0) (sl (wa7 y) (sl t2 (sl ((cnE tP t1.1)&&true) (sl (Nat.beq t3.alt 1) (some (b (!t3.bs0),[])) none) none) (some (b false,[]))) none) (some (b false,[]))) none) none)
noncomputable def Ub2(x:List V3)(y:V3):Bool:=O9 (one r1B) (Ub1 x y)
noncomputable def Ub3(x:List V3)(y:V3):Bool:=okO (one r1B) (Ub1 x y)
structure Te0 where
 j8:List Pln
 (is2 d7 c7 d8:Int)
structure Te1 where
 ph:Nat
 is9:Int
 ns8:Nat
 eh1:List (List b7)
structure Ze6 where
 i8:List V3
 (d7 c7 d8:Int)
structure Ze7 where
 is5:Int
structure sf5 where
 i8:List V3
 (d7 c7 d8:Int)
structure sf6 where
 is5:Int
structure Te2 where
 j8:List Pln
 (d7 c7 d8:Int)
structure Te3 where
 ph:Nat
 is6:Int
 ns5:Nat
 eh1:List (List b7)
structure Te4 where
 ns5:Nat
 (is7 is8:Int)
 eh0:List (List b7)
structure Te5 where
 ph:Nat
 is9:Int
structure Te6 where
 is7:Int
structure Te7 where
 (ph ns5:Nat)
 is8:Int
 eh0:List (List b7)
structure Te8 where
structure Te9 where
 ph:Nat
 is7:Int
 ns5:Nat
 eh0:List (List b7)
structure De5 where
 i8:List V3
 tf7:List Pln
structure De6 where
 ph:Nat
 is7:Int
 bg2:List V3
structure sf7 where
 (i8 ja8:List V3)
 is7:Int
structure sf8 where
 ph:Nat
 is8:Int
 ns6:Nat
 eh0:List (List b7)
structure sf9 where
structure tf0 where
 ph:Nat
 (i8 ja8:List V3)
 is7:Int
 ns6:Nat
 eh0:List (List b7)
structure De7 where
 i8:List V3
 (d7 c7 d8:Int)
structure De8 where
 (is6 is7:Int)
noncomputable def Wb7:List (Nat×Sum):=[]
theorem Mc2:i4 prog G Wb7:=trivial
structure va0 where
 (i8 ja8:List V3)
structure M1 where
 is5:Int
noncomputable def Fb9(p:va0)(s:M1):St:=⟨eL tV p.i8::eL tV p.ja8::ra 3 (i s.is5::ra 20 []),[]⟩
noncomputable def ma2{α:Type}(k:M1->α)(e:Nat->α)(z:α)(p:va0)(s:M1):α:=(sl (decide (s.is5<(↑(List.length p.i8):Int))) (sl (inB s.is5 (List.length p.i8)) (sl (inB s.is5 (List.length p.ja8)) (sl (!(((gL tV p.i8 s.is5.toNat).x==(gL tV p.ja8 s.is5.toNat).x)&&(((gL tV p.i8 s.is5.toNat).y==(gL tV p.ja8 s.is5.toNat).y)&&(((gL tV p.i8 s.is5.toNat).z==(gL tV p.ja8 s.is5.toNat).z)&&true)))) (e 1) (k ⟨W (s.is5+1)⟩)) z) z) (e 2))
noncomputable def ra3(p:va0)(s:M1):Stp M1:=ma2 .next .exit .fail p s
noncomputable def eb4:Lo va0 M1:=⟨En Wb7,0,Gf9,[1,1,0,1,4,4],[0,1,5],.p,[⟨sLq tV::sLq tV::ru2 3 (sIq::ru2 20 []),[],λa H=>(⟨aLq tV a 0,aLq tV a 1⟩,⟨aIq a 5⟩)⟩],ra3,[(none,λp s=>⟨[b false],[]⟩),(some 0,λp s=>upq (Fb9 p s) [(11,i s.is5),(12,eL tV p.i8),(13,i (↑(List.length p.i8):Int)),(14,b (decide (s.is5<(↑(List.length p.i8):Int))))])],Fb9⟩
theorem Ec1:eb4.Ok:=Lo.ok [] (by kernel_rfl) .nil rfl (.cons (λa H=>by kernel_rfl) .nil) λp s=>(.of @ma2 (λF _ _ _ _ _=>by unfold ma2;(repeat' apply l5 (f:=F))<;>rfl) (by kernel_rfl))
noncomputable def Ia0(x:List V3)(y:List V3):Option (b7×List b8):=let t1:=(lp (ra3 (⟨rt tV x,rt tV y⟩:va0)) (⟨0⟩:M1));(sl ((↑(List.length x):Int) != (↑(List.length y):Int)) (some (b false,[])) (sl ((cnE tV x)&&((cnE tV y)&&true)) (sl (Nat.beq t1.1 1) (some (b false,[])) (sl (Nat.beq t1.1 2) (some (b true,[])) none)) none))
noncomputable def Ia1(x:List V3)(y:List V3):Bool:=O9 (one r1B) (Ia0 x y)
noncomputable def Ia2(x:List V3)(y:List V3):Bool:=okO (one r1B) (Ia0 x y)
noncomputable def fc5:Sum:=va4 (ta7 tV) (ta7 tV) (λx y=>.guard (Ia2 x y) (.ret ((one r1B).enc (Ia1 x y),[])))
theorem Vc6:f9 prog G 30 fc5:=Rb0 (bd b30 Mc2) (one r1B) (o:=Ia0) λx y=>Ua7 (.s .p (.s .p (.s (.s .p (.b (.u eb4.ls))) .p))) [eb4.pr] (by kernel_rfl) (.cons Ec1 .nil) (by kernel_rfl)
structure Ze8 where
 i8:List V3
 (d7 c7 d8:Int)
structure Ze9 where
 ph:Nat
 is6:Int
 ns5:Nat
 eh1:List (List b7)
noncomputable def fc6:List (Nat×Sum):=[]
theorem Vc7:i4 prog G fc6:=trivial
structure W6 where
 (d7 c7 d8:Int)
structure u9 where
 ph:Nat
 is4:Int
 ns3:Nat
 eh1:List (List b7)
noncomputable def Gb0(p:W6)(s:u9):St:=⟨.unk::.ptr 0 0 0 0::.unk::.v (.slice none 0 0)::i s.is4::ra 33 [],[⟨0,3,[[i p.d7,i p.c7,i p.d8]],true,false,0⟩]⟩
noncomputable def Gb1(p:W6)(s:u9):St:=⟨.unk::.ptr 0 0 0 0::.unk::.sl 1 0 s.ns3 0::i s.is4::ra 33 [],[⟨0,3,[[i p.d7,i p.c7,i p.d8]],true,false,0⟩,⟨27,3,s.eh1,true,false,0⟩]⟩
noncomputable def Mc3(p:W6)(s:u9):St:=(sel (Nat.beq s.ph 1) (Gb1 p s) (Gb0 p s))
noncomputable def ea5{α:Type}(k:u9->α)(e:Nat->α)(z:α)(p:W6)(s:u9):α:=(sl (decide (s.is4<8)) (sl (decide ((Int.tmod s.is4 2)>0)) (sl (decide ((Int.tmod (W (Int.tdiv s.is4 2)) 2)>0)) (sl (decide ((W (Int.tdiv s.is4 4))>0)) (k ⟨1,W (s.is4+1),1,[[i (W (0-p.d7)),i (W (0-p.c7)),i (W (0-p.d8))]]⟩) (k ⟨1,W (s.is4+1),1,[[i (W (0-p.d7)),i (W (0-p.c7)),i p.d8]]⟩)) (sl (decide ((W (Int.tdiv s.is4 4))>0)) (k ⟨1,W (s.is4+1),1,[[i (W (0-p.d7)),i p.c7,i (W (0-p.d8))]]⟩) (k ⟨1,W (s.is4+1),1,[[i (W (0-p.d7)),i p.c7,i p.d8]]⟩))) (sl (decide ((Int.tmod (W (Int.tdiv s.is4 2)) 2)>0)) (sl (decide ((W (Int.tdiv s.is4 4))>0)) (k ⟨1,W (s.is4+1),1,[[i p.d7,i (W (0-p.c7)),i (W (0-p.d8))]]⟩) (k ⟨1,W (s.is4+1),1,[[i p.d7,i (W (0-p.c7)),i p.d8]]⟩)) (sl (decide ((W (Int.tdiv s.is4 4))>0)) (k ⟨1,W (s.is4+1),1,[[i p.d7,i p.c7,i (W (0-p.d8))]]⟩) (k ⟨1,W (s.is4+1),1,[[i p.d7,i p.c7,i p.d8]]⟩)))) (e 1))
noncomputable def ea6{α:Type}(k:u9->α)(e:Nat->α)(z:α)(p:W6)(s:u9):α:=(sl (decide (s.is4<8)) (sl (decide ((Int.tmod s.is4 2)>0)) (sl (decide ((Int.tmod (W (Int.tdiv s.is4 2)) 2)>0)) (sl (decide ((W (Int.tdiv s.is4 4))>0)) (sl (Nat.beq s.ns3 (len s.eh1)&&Nat.ble ((s.ns3+1)*24) room) (k ⟨1,W (s.is4+1),s.ns3+1,app s.eh1 [[i (W (0-p.d7)),i (W (0-p.c7)),i (W (0-p.d8))]]⟩) z) (sl (Nat.beq s.ns3 (len s.eh1)&&Nat.ble ((s.ns3+1)*24) room) (k ⟨1,W (s.is4+1),s.ns3+1,app s.eh1 [[i (W (0-p.d7)),i (W (0-p.c7)),i p.d8]]⟩) z)) (sl (decide ((W (Int.tdiv s.is4 4))>0)) (sl (Nat.beq s.ns3 (len s.eh1)&&Nat.ble ((s.ns3+1)*24) room) (k ⟨1,W (s.is4+1),s.ns3+1,app s.eh1 [[i (W (0-p.d7)),i p.c7,i (W (0-p.d8))]]⟩) z) (sl (Nat.beq s.ns3 (len s.eh1)&&Nat.ble ((s.ns3+1)*24) room) (k ⟨1,W (s.is4+1),s.ns3+1,app s.eh1 [[i (W (0-p.d7)),i p.c7,i p.d8]]⟩) z))) (sl (decide ((Int.tmod (W (Int.tdiv s.is4 2)) 2)>0)) (sl (decide ((W (Int.tdiv s.is4 4))>0)) (sl (Nat.beq s.ns3 (len s.eh1)&&Nat.ble ((s.ns3+1)*24) room) (k ⟨1,W (s.is4+1),s.ns3+1,app s.eh1 [[i p.d7,i (W (0-p.c7)),i (W (0-p.d8))]]⟩) z) (sl (Nat.beq s.ns3 (len s.eh1)&&Nat.ble ((s.ns3+1)*24) room) (k ⟨1,W (s.is4+1),s.ns3+1,app s.eh1 [[i p.d7,i (W (0-p.c7)),i p.d8]]⟩) z)) (sl (decide ((W (Int.tdiv s.is4 4))>0)) (sl (Nat.beq s.ns3 (len s.eh1)&&Nat.ble ((s.ns3+1)*24) room) (k ⟨1,W (s.is4+1),s.ns3+1,app s.eh1 [[i p.d7,i p.c7,i (W (0-p.d8))]]⟩) z) (sl (Nat.beq s.ns3 (len s.eh1)&&Nat.ble ((s.ns3+1)*24) room) (k ⟨1,W (s.is4+1),s.ns3+1,app s.eh1 [[i p.d7,i p.c7,i p.d8]]⟩) z)))) (e 2))
noncomputable def Ka3(p:W6)(s:u9):Stp u9:=(sel (Nat.beq s.ph 1) (ea6 .next .exit .fail p s) (ea5 .next .exit .fail p s))
noncomputable def pb4:Lo W6 u9:=⟨En fc6,0,Hf1,[1,1,0,1,4,4],[1,3,4],.p,[⟨sUq::sPq 0::sUq::.s (.o .nil)::sIq::ru2 33 [],[⟨0,3,true,some [kLq 3]⟩],λa H=>(⟨hIq H 0 0 0,hIq H 0 0 1,hIq H 0 0 2⟩,⟨0,aIq a 4,0,[]⟩)⟩,⟨sUq::sPq 0::sUq::.s (.o (.sl 1 0 (some 0) none))::sIq::ru2 33 [],[⟨0,3,true,some [kLq 3]⟩,⟨27,3,true,none⟩],λa H=>(⟨hIq H 0 0 0,hIq H 0 0 1,hIq H 0 0 2⟩,⟨1,aIq a 4,slN (slT a 3),elT H 1⟩)⟩],Ka3,[(some 0,λp s=>upq (Gb0 p s) [(6,i s.is4),(7,b (decide (s.is4<8)))]),(some 0,λp s=>upq (Gb1 p s) [(6,i s.is4),(7,b (decide (s.is4<8)))])],Mc3⟩
theorem Mc4:pb4.Ok:=Lo.ok [] (by kernel_rfl) .nil rfl (.cons (λa H=>by kernel_rfl) (.cons (λa H=>by kernel_rfl) .nil)) λp s=>(.sel (Nat.beq s.ph 1) (.of @ea6 (λF _ _ _ _ _=>by unfold ea6;(repeat' apply l5 (f:=F))<;>rfl) (by kernel_rfl)) (.of @ea5 (λF _ _ _ _ _=>by unfold ea5;(repeat' apply l5 (f:=F))<;>rfl) (by kernel_rfl)))
noncomputable def Pa8(x:V3):Option (b7×List b8):=let t1:=(lp (Ka3 (⟨x.x,x.y,x.z⟩:W6)) (⟨0,0,0,[]⟩:u9));(sl (Nat.beq t1.1 1) (some (.v (.slice none 0 0),[])) (sl (Nat.beq t1.1 2) (some (.sl 0 0 t1.2.ns3 0,[⟨27,3,t1.2.eh1,true,false,0⟩])) none))
noncomputable def hb7(x:V3):List V3:=O9 (one (r1L tV)) (Pa8 x)
noncomputable def hb8(x:V3):Bool:=okO (one (r1L tV)) (Pa8 x)
noncomputable def pc5:Sum:=Q9 (W8 tV) (λx=>.guard (hb8 x) (.ret ((one (r1L tV)).enc (hb7 x),[])))
theorem md3:f9 prog G 65 pc5:=Ea7 (bd b65 Vc7) (one (r1L tV)) (o:=Pa8) λx=>Ua7 (.s .p (.s .p (.s (.s .p (.b (.u pb4.ls))) .p))) [pb4.pr] (by kernel_rfl) (.cons Mc4 .nil) (by kernel_rfl)
end Go.Ev.Ce
namespace Go.Ev
open Go Go.ChangeShapes Go.RowKit
structure md4(w w':World):Prop where
 os:w'.os=w.os
 output:w'.output=w.output
 size:w.heap.size<=w'.heap.size
 block:∀k,k<w.heap.size->w'.heap[k]?=w.heap[k]?
theorem md4.kept{w w':World}(h:md4 w w')(may:MemPlace->Prop):w.keptBut w' may:=by
 refine⟨h.os,h.output,λi hi=>?_⟩
 rw[h.block i hi];cases w.heap[i]? with
 |none=>rfl
 |some o=>cases o<;>first | exact⟨rfl,rfl,rfl,λ_ _=>rfl⟩ | exact .inr ⟨rfl,rfl⟩ | rfl
theorem md4.frozen{w w':World}(h:md4 w w')(b off:Nat)(hb:b<w.heap.size):w'.frozen? ⟨b,off,none⟩=w.frozen? ⟨b,off,none⟩:=by
 simp only[World.frozen?,h.block b hb]
theorem md4.cell{w w':World}(h:md4 w w')(b off:Nat)(hb:b<w.heap.size):w'.cell? ⟨b,off,none⟩=w.cell? ⟨b,off,none⟩:=by
 simp only[World.cell?,h.block b hb]
theorem md4.same{w w':World}(h:md4 w w')(p:MemPlace)(hp:p.block<w.heap.size):w.sameAt w' p:=by
 cases p with
 |cell b off=>exact h.cell b off hp
 |map b=>exact h.block b hp
theorem fc7{α β:Type}{f:α->Option β}:∀{l:List α} {r:List β},l.mapM f=some r->r.length=l.length/\∀(j:Nat) y,r[j]?=some y->∃x,l[j]?=some x/\f x=some y
 |[],r,h=>by
  have:r=[]:=by simpa using h.symm
  subst this;simp
 |x::l,r,h=>by
  rw[List.mapM_cons] at h;obtain⟨y,h1,h2⟩:=Qkr.1 h;obtain⟨r',h3,h4⟩:=Qkr.1 h2
  have:r=y::r':=by simpa using h4.symm
  subst this;obtain⟨g1,g2⟩:=fc7 h3;refine⟨by simp[g1],λj z hz=>?_⟩
  cases j with
  |zero=>simp at hz;subst hz;exact⟨x,rfl,h1⟩
  |succ j=>simpa using g2 j z (by simpa using hz)
section
variable{D:Type}{enc:TypeId×Value->D}{P:Program}
theorem pc6 {T : TypeId → Prop} (K : Kids P T) (hsz : ∀ {t e : TypeId}, T t → P.underlying t = some (.slice e) → 0 < P.cellsOf e) {w w' : World} {sp : Nat → Bool} (hs : md4 w w') :
  ∀{ts:List TypeId} {vs:List Value} {ds:List (DataW D)} {ps:List MemPlace},(∀t∈ts,T t)->DataW.TrodAll enc P w 0 (λ_=>true) true ts vs ds ps->(∀p∈ps,p.block<w.heap.size)->(∀p∈ps,sp p.block=true)->DataW.TrodAll enc P w' 0 sp true ts vs ds ps
 |[],[],[],_,_,h,_,_=>h
 |t::ts,v::vs,d::ds,ps,ht,h,hlt,hsp=>by
  obtain⟨p,q,⟨fuel,h1⟩,h2,rfl⟩:=h;refine⟨p,q,⟨fuel,?_⟩,pc6 K hsz hs (λt h=>ht t (by simp[h])) h2 (λx hx=>hlt x (by simp[hx])) (λx hx=>hsp x (by simp[hx])),rfl⟩
  exact DataW.trod_stays K hsz (λh=>by cases h) (ht t (by simp)) h1 (λx hx=>hs.same x (hlt x (by simp at hx ⊢;exact .inl hx))) (λx hx=>hsp x (by simp at hx ⊢;exact .inl hx))
 |[],_::_,_,_,_,h,_,_=>h.elim
 |[],[],_::_,_,_,h,_,_=>h.elim
 |_::_,[],_,_,_,h,_,_=>h.elim
 |_::_,_::_,[],_,_,h,_,_=>h.elim
theorem Ue0 {T : TypeId → Prop} (K : Kids P T) (hsz : ∀ {t e : TypeId}, T t → P.underlying t = some (.slice e) → 0 < P.cellsOf e) {f : Func} {s : ChangeSpec} {apart fresh handsOn again : Bool} {W W' : World} {args : Array Value} {ds gs : List (DataW D)} {before : List MemPlace} {tb : TypeId}
  (hT:∀t∈f.params.toList,T t) (hW:DataW.Whole enc P f.params.toList s.vars apart W args.toList ds gs before) (hv:s.vars=[]) (hr:f.resultTypes=#[tb]) (hb:P.underlying tb=some .bool)
  (h1:(s.fn D ds).results=[.lit (.bool true)]) (h2:(s.fn D ds).args=ds) (h3:(s.fn D ds).vars=[]) (hs:md4 W W') :
  s.post enc P f apart fresh handsOn again W args (.bool true) W':=by
 have hlt:=hW.lt;obtain⟨pa,pv,hA,hV,hps,hz,hn⟩:=id hW;rw[hv] at hV;have hpv:gs=[]/\pv=[]:=by
  cases gs with
  |nil=>exact⟨rfl,hV⟩
  |cons=>exact hV.elim
 obtain⟨rfl,rfl⟩:=hpv;rw[<- Qki ds] at h1 h3;have h2:(s.fn D (ds++[])).args=ds:=by rw[Qki];exact h2
 have hpa:before=pa:=by rw[hps];simp
 subst hpa;have hagain:∀sp:Nat->Bool,(∀p∈before,sp p.block=true)->DataW.TrodAll enc P W' 0 sp true f.params.toList args.toList ds before:=λsp h=>pc6 K hsz hs hT hA hlt h
 have hres:∀(b:Nat) (sp:Nat->Bool) (hd:Bool),DataW.TrodAll enc P W' b sp hd f.resultTypes.toList ((Value.bool true).resultList f.resultTypes.size) [.lit (.bool true)] []:=λb sp hd=>by
  rw[hr];exact⟨[],[],⟨1,by simp[DataW.trod,hb,Value.cells,Value.resultList]⟩,rfl,rfl⟩
 have hvars:∀sp:Nat->Bool,DataW.TrodVars enc P W' sp s.vars ([]:List (DataW D)) []:=λsp=>by rw[hv];exact rfl
 have hok:∀(j:Nat) (t:TypeId) (r:Value),f.resultTypes[j]?=some t->((Value.bool true).resultList f.resultTypes.size)[j]?=some r->Value.okWide P W' .any 0 t r:=by
  rw[hr];intro j t r h4 h5;cases j with
  |zero =>
   simp at h4
   subst h4
   have:r=.bool true:=by simpa [Value.resultList] using h5.symm
   subst this;exact okWide_bool_mk hb _
  |succ j=>simp at h4
 have hag:DataW.TrodAll enc P W' 0 (λ_=>true) true (f.resultTypes.toList++f.params.toList) ((Value.bool true).resultList f.resultTypes.size++args.toList) (.lit (.bool true)::ds) before:=by
  have:=hagain (λ_=>true) (λ_ _=>rfl)
  rw[hr];exact⟨[],before,⟨1,by simp[DataW.trod,hb,Value.cells,Value.resultList]⟩,this,rfl⟩
 refine⟨ds,[],before,[],before,[],hW,?_,?_,?_,hs.kept _,λ_=>?_⟩
 ·rw[h1];exact hres _ _ _
 ·rw[h2];exact hagain _ λp hp=>by simpa using hlt p hp
 ·rw[h3];exact hvars _
 ·refine⟨hok,.lit (.bool true)::ds,[],before,⟨before,[],hag,hvars _,by simp,?_,?_⟩,?_⟩
  ·intro b off hp;rw[hs.frozen b off (hlt _ hp)];exact hz b off (by simpa using hp)
  ·intro ha;simpa using hn ha
  ·intro p hp _;exact hp
variable{w:World}{base:Nat}{spare:Nat->Bool}{held:Bool}
def Yd8(w:World):Fz:=λb o=>(w.cell? ⟨b,o,none⟩).isSome
theorem Cf5 {fuel : Nat} {t : TypeId} {k : IntKind} {cs : List Value} {x : DataW D × List MemPlace} (ht : P.underlying t = some (.int k)) (h : DataW.trod enc P w base spare held fuel t cs = some x) :
  ∃n,cs=[.int k n]/\(Lit.int k n).wf=true/\x.1=.lit (.int k n):=by
 cases fuel with
 |zero=>cases h
 |succ fuel =>
  match cs,h with
  |[],h=>simp[DataW.trod,ht] at h
  |[v],h =>
   cases v with
   |int k' n =>
    simp only[DataW.trod,ht] at h
    split at h
    ·rename_i hk;obtain⟨rfl,hw⟩:=hk;injection h with h;subst h
     exact⟨n,rfl,hw,rfl⟩
    ·cases h
   |_=>simp[DataW.trod,ht] at h
  |a::b::r,h=>simp[DataW.trod,ht] at h
theorem kf6 {fuel : Nat} {t : TypeId} {cs : List Value} {x : DataW D × List MemPlace} (ht : P.underlying t = some .bool) (h : DataW.trod enc P w base spare held fuel t cs = some x) :
  ∃n,cs=[.bool n]/\x.1=.lit (.bool n):=by
 cases fuel with
 |zero=>cases h
 |succ fuel =>
  match cs,h with
  |[],h=>simp[DataW.trod,ht] at h
  |[v],h =>
   cases v with
   |bool n =>
    simp only[DataW.trod,ht] at h;injection h with h;subst h
    exact⟨n,rfl,rfl⟩
   |_=>simp[DataW.trod,ht] at h
  |a::b::r,h=>simp[DataW.trod,ht] at h
theorem Ue1 {fuel : Nat} {t e : TypeId} {n : Nat} {cs : List Value} {x : DataW D × List MemPlace} (ht : P.underlying t = some (.array n e)) (h : DataW.trod enc P w base spare held fuel t cs = some x) :
  cs.length=P.cellsOf t/\∃(fuel':Nat) (xs:List (DataW D×List MemPlace)),xs.length=n/\x.1=.agg (xs.map (·.1))/\∀(j:Nat) y,xs[j]?=some y->DataW.trod enc P w base spare held fuel' e ((cs.drop (j*P.cellsOf e)).take (P.cellsOf e))=some y:=by
 cases fuel with
 |zero=>cases h
 |succ fuel =>
  unfold DataW.trod at h;rw[ht] at h
  simp only at h
  split at h
  ·rename_i hl;obtain⟨xs,h1,h2⟩:=Qkaq.1 h;have hx:=fc7 h1;exact⟨hl,fuel,xs,by simpa using hx.1,by rw[<- h2],λj y hy=>by
    obtain⟨a,ha,hb⟩:=hx.2 j y hy
    have:j<n:=by
     have:=(List.getElem?_eq_some_iff.1 hy).1
     rw[hx.1] at this;simpa using this
    rw[Qkaa this] at ha;injection ha with ha;subst ha;exact hb⟩
  ·cases h
theorem Ae5 {fuel : Nat} {t : TypeId} {fs : Array Field} {cs : List Value} {x : DataW D × List MemPlace} (ht : P.underlying t = some (.struct fs)) (h : DataW.trod enc P w base spare held fuel t cs = some x) :
  cs.length=P.cellsOf t/\∃(fuel':Nat) (xs:List (DataW D×List MemPlace)),xs.length=fs.size/\x.1=.agg (xs.map (·.1))/\∀(j:Nat) f,fs[j]?=some f->∃y,xs[j]?=some y/\DataW.trod enc P w base spare held fuel' f.type ((cs.drop f.offset).take (P.cellsOf f.type))=some y:=by
 cases fuel with
 |zero=>cases h
 |succ fuel =>
  unfold DataW.trod at h;rw[ht] at h
  simp only at h
  split at h
  ·rename_i hl;obtain⟨xs,h1,h2⟩:=Qkaq.1 h;have hx:=fc7 h1;refine⟨hl,fuel,xs,by simpa using hx.1,by rw[<- h2],λj f hf=>?_⟩
   have hj:j<xs.length:=by
    rw[hx.1];simpa using (Array.getElem?_eq_some_iff.1 hf).1
   obtain⟨a,ha,hb⟩:=hx.2 j _ (Qkl hj)
   have:a=f:=by
    have:fs.toList[j]?=some f:=by simpa using hf
    exact Option.some.inj (ha.symm.trans this)
   subst this;exact⟨_,Qkl hj,hb⟩
  ·cases h
theorem Ue2 {fuel : Nat} {t e : TypeId} {cs : List Value} {x : DataW D × List MemPlace} (ht : P.underlying t = some (.slice e)) (h : DataW.trod enc P w base spare held fuel t cs = some x) :
  cs=[.slice none 0 0]\/∃(a:Addr) (n cap fuel':Nat),cs=[.slice (some a) n cap]/\n<=cap/\cap<=maxLen/\∀j,j<n->∃row y,w.cells? base (a.add (j*P.cellsOf e)) (P.cellsOf e)=some row/\DataW.trod enc P w base spare held fuel' e row=some y:=by
 cases fuel with
 |zero=>cases h
 |succ fuel =>
  match cs,h with
  |[],h=>simp[DataW.trod,ht] at h
  |[v],h =>
   cases v with
   |slice a len cap =>
    cases a with
    |none =>
     simp only[DataW.trod,ht] at h
     split at h<;>first | (rename_i e1;cases e1;done) | skip
     all_goals first | exact .inl rfl | (simp_all;done) | skip
    |some a =>
     refine .inr ?_;simp only[DataW.trod,ht] at h
     split at h
     ·rename_i hc;obtain⟨elems,h1,h2⟩:=Qkr.1 h;have hx:=fc7 h1;refine⟨a,len,cap,fuel,rfl,hc.2.1,hc.2.2,λj hj=>?_⟩
      have hj':j<elems.length:=by rw[hx.1];simpa using hj
      obtain⟨i,hi,hb⟩:=hx.2 j _ (Qkl hj');rw[Qkaa hj] at hi;injection hi with hi;subst hi;obtain⟨row,r1,r2⟩:=Qkr.1 hb;exact⟨row,_,r1,r2⟩
     ·cases h
   |_=>simp[DataW.trod,ht] at h
  |a::b::r,h=>simp[DataW.trod,ht] at h
theorem re8:∀(d:Nat) (t:TypeId) (l:List (Nat×CK)),aa6 P d t=some l->∀(fuel:Nat) (cs:List Value) (x:DataW D×List MemPlace),DataW.trod enc P w base spare held fuel t cs=some x->∀p∈l,Ia6 cs.toArray p
 |0,_,_,h,_,_,_,_=>by cases h
 |d+1,t,l,h,fuel,cs,x,hx=>by
  have hpart:∀{off n:Nat} {e:TypeId} {l':List (Nat×CK)} {fuel':Nat} {y:DataW D×List MemPlace},Yb4 off n (aa6 P d e)=some l'->DataW.trod enc P w base spare held fuel' e ((cs.drop off).take n)=some y->∀p∈l',Ia6 cs.toArray p:=λ{off n e l' fuel' y} h1 h2 p hp=>by
   obtain⟨l2,g1,g2,rfl⟩:=Ta4 h1;obtain⟨q,hq,rfl⟩:=List.mem_map.1 hp
   have:=re8 d e l2 g1 fuel' _ y h2 q hq
   have hlt:=g2 q hq;unfold Ia6 at this ⊢;simp only[List.getElem?_toArray,Qkai,hlt,if_true,List.getElem?_drop] at this ⊢;exact this
  have hcat:∀{α:Type} (f:α->Option (List (Nat×CK))) (xs:List α) (l:List (Nat×CK)),ra5 (xs.map f)=some l->∀p∈l,∃a∈xs,∃l',f a=some l'/\p∈l':=λ{α} f xs=>by
   induction xs with
   |nil=>intro l h;simp only[List.map_nil,ra5] at h;injection h with h;subst h;simp
   |cons a xs ih =>
    intro l h p hp;simp only[List.map_cons,ra5] at h;cases h1:f a with
    |none=>simp[h1] at h
    |some l1 =>
    cases h2:ra5 (xs.map f) with
    |none=>simp[h1,h2] at h
    |some l2 =>
    simp only[h1,h2] at h;injection h with h;subst h
    rcases Qkao.1 hp with hp|hp
    ·exact⟨a,by simp,l1,h1,hp⟩
    ·obtain⟨b,hb,r⟩:=ih l2 h2 p hp;exact⟨b,by simp[hb],r⟩
  unfold aa6 at h;cases hu:P.underlying t with
  |none=>simp[hu] at h
  |some u =>
  cases u with
  |int k =>
   simp only[hu] at h;injection h with h;subst h
   obtain⟨n,rfl,_,_⟩:=Cf5 hu hx;intro p hp;simp at hp;subst hp;exact⟨n,rfl⟩
  |bool =>
   simp only[hu] at h;injection h with h;subst h
   obtain⟨n,rfl,_⟩:=kf6 hu hx;intro p hp;simp at hp;subst hp;exact⟨n,rfl⟩
  |struct fs =>
   simp only[hu] at h
   split at h
   ·cases h
   obtain⟨_,fuel',xs,_,_,hxs⟩:=Ae5 hu hx;intro p hp;obtain⟨f,hf,l',h1,h2⟩:=hcat _ _ _ h p hp
   split at h1
   ·cases h1
   obtain⟨j,hj⟩:=List.getElem?_of_mem hf;obtain⟨y,_,hy⟩:=hxs j f (by simpa using hj)
   have hc:P.cellsOf f.type=szT P f.type:=by
    unfold Program.cellsOf szT;cases P.info? f.type<;>rfl
   rw[hc] at hy;exact hpart h1 hy p h2
  |array n e =>
   simp only[hu] at h
   split at h
   case isFalse=>cases h
   obtain⟨_,fuel',xs,hn,_,hxs⟩:=Ue1 hu hx;intro p hp;obtain⟨j,hj,l',h1,h2⟩:=hcat _ _ _ h p hp;have hj':j<xs.length:=by rw[hn];simpa using hj
   have hy:=hxs j _ (Qkl hj');have hc:P.cellsOf e=szT P e:=by
    unfold Program.cellsOf szT;cases P.info? e<;>rfl
   rw[hc] at hy;exact hpart h1 hy p h2
  |_=>simp[hu] at h
def va1(k:IntKind)(es:Nat)(g:Nat->Int):List b7:=(List.range es).map λc=>.v (.int k (g c))
def Ea6(k:IntKind)(es:Nat):List (Nat×CK):=(List.range es).map λc=>(c,.int k)
theorem re9 {d : Nat} {t : TypeId} {k : IntKind} {es : Nat} (hf : aa6 P d t = some (Ea6 k es)) {fuel : Nat} {cs : List Value} {x : DataW D × List MemPlace} (hx : DataW.trod enc P w base spare held fuel t cs = some x) (hl : cs.length = es) :
  ∃g:Nat->Int,∀c,c<es->cs[c]?=some (.int k (g c)):=by
 have h:=re8 d t _ hf fuel cs x hx;have h':∀c,∃n:Int,c<es->cs[c]?=some (.int k n):=λc=>by
  by_cases hc:c<es
  ·have:=h (c,.int k) (List.mem_map.2 ⟨c,by simpa using hc,rfl⟩)
   obtain⟨n,hn⟩:=this;exact⟨n,λ_=>by simpa using hn⟩
  ·exact⟨0,λh=>absurd h hc⟩
 exact⟨λc=>Classical.choose (h' c),λc hc=>Classical.choose_spec (h' c) hc⟩
theorem Ue3{F:Fz}{w:World}(k:IntKind)(n:Int):ea9 F w (.v (.int k n)) (.int k n):=.v _ rfl
theorem md5{k:IntKind}{es:Nat}{g:Nat->Int}{c:Nat}{x:b7}(h:(va1 k es g)[c]?=some x):c<es/\x=.v (.int k (g c)):=by
 unfold va1 at h;obtain⟨h1,h2⟩:=Va5 h;exact⟨h1,h2.symm⟩
theorem td1 {t e : TypeId} {k : IntKind} {es d : Nat} (ht : P.underlying t = some (.slice e)) (hf : aa6 P d e = some (Ea6 k es)) (hes : P.cellsOf e = es) (h0 : 0 < es) {fuel : Nat} {cs : List Value} {x : DataW D × List MemPlace} (hx : DataW.trod enc P w 0 spare held fuel t cs = some x) :
  ∃(v:Value) (n:Nat) (g:Nat->Nat->Int),cs=[v]/\n<=maxLen/\ea9 (Yd8 w) w (.tree es n λj=>va1 k es (g j)) v:=by
 rcases Ue2 ht hx with rfl|⟨a,n,cap,fuel',rfl,hn,hc,hel⟩
 ·exact⟨_,0,λ_ _=>0,rfl,Qkh _,.nil _ _⟩
 ·rw[hes] at hel;have hcell:∀j,j<n->∃g:Nat->Int,∀c,c<es->w.cell? ((a.add (j*es)).add c)=some (.int k (g c)):=λj hj=>by
   obtain⟨row,y,h1,h2⟩:=hel j hj;unfold World.cells? at h1
   split at h1
   ·obtain⟨l1,l2⟩:=fc7 h1;have hl:row.length=es:=by simpa using l1
    obtain⟨g,hg⟩:=re9 hf h2 hl;refine⟨g,λc hc=>?_⟩
    obtain⟨i,hi,hi2⟩:=l2 c _ (hg c hc);rw[Qkaa hc] at hi;injection hi with hi;subst hi;exact hi2
   ·cases h1
  have hg:∀j,∃g:Nat->Int,j<n->∀c,c<es->w.cell? ((a.add (j*es)).add c)=some (.int k (g c)):=λj=>by
   by_cases hj:j<n
   ·obtain⟨g,hg⟩:=hcell j hj;exact⟨g,λ_=>hg⟩
   ·exact⟨λ_=>0,λh=>absurd h hj⟩
  obtain⟨g,hg⟩:=Classical.axiomOfChoice hg;have hspot:0<n->a.spot=none:=λhn=>by
   have:=hg 0 hn 0 h0
   simpa [Addr.add] using World.cell?_spot this
  have hw:∀j c,j<n->c<es->w.cell? ⟨a.block,a.off+(j*es+c),none⟩=some (.int k (g j c)):=λj c hj hc=>by
   have:=hg j hj c hc
   rw[aa7 (hspot (by omega)),aa7 rfl] at this
   simpa [Nat.add_assoc] using this
  refine⟨_,n,g,rfl,Nat.le_trans hn hc,.tree es n _ a cap (λj c=>.int k (g j c)) hspot hn (λi hi=>by simp[va1]) (λi c hi hc=>?_) hw λi c hi hc=>?_⟩
  ·unfold Yd8;rw[hw i c hi hc];rfl
  ·have:=(md5 (Qkl hc)).2
   rw[this];exact Ue3 _ _
theorem Ae6(w:World):z6 (λk=>w.heap.size<=k) (λ_=>⟨0,0,0⟩) [] (Yd8 w) w :=
 ⟨λid b h=>by simp at h,λid id' b b' h=>by simp at h,λ_ _ h=>h,λ_ h=>h⟩
theorem Ae7 {G : Nat → List Value} {f : FuncId} {S : Sum} (hS : f9 P G f S) {aargs : List b7} {args : List Value} (hrun : ∃ out, (S aargs []).run = some (b true, out)) (hl : aargs.length = args.length)
  (ha:∀(i:Nat) x x',aargs[i]?=some x->args[i]?=some x'->ga2 (λ_=>⟨0,0,0⟩) [] (Yd8 w) w x x') (hG:∀g (c:Nat) x,(G g)[c]?=some x->x.oneCell'=true/\w.cell? ⟨g,c,none⟩=some x) :
  Calls P f args.toArray w λe w'=>e=.returned (.bool true)/\md4 w w':=by
 obtain⟨out,hrun⟩:=hrun;obtain⟨_,hc⟩:=hS aargs [] (b true) out hrun (λk=>w.heap.size<=k) (λ_=>⟨0,0,0⟩) (Yd8 w) w args (Ae6 w) hl (λi x x' h1 h2=>.val (ha i x x' h1 h2)) (λg c x hx=>by
  obtain⟨h1,h2⟩:=hG g c x hx;exact⟨h1,by unfold Yd8;rw[h2];rfl,h2⟩)
 refine hc.mono λe w' ⟨r',he,ρ',F',hA,hH,hW⟩=>?_
 have:=ca4 hW
 subst this;exact⟨he,hA.ext.os,hA.ext.output,hA.ext.size,λk hk=>hA.ext.block k hk (by omega)⟩
theorem kf7 {ρ : Rho} {H : List b8} {F : Fz} {t : TypeId} {k : IntKind} {es d : Nat} {v : Value} {dd : DataW D} {pp : List MemPlace} {bs : Nat} {r : Reach} (hag : agT P t = true) (hf : aa6 P d t = some (Ea6 k es)) (hes : P.cellsOf t = es)
  (hok:Value.okWide P w r bs t v) (h:DataW.Trod enc P w base spare held t v dd pp):∃g:Nat->Int,ga2 ρ H F w (.agg (va1 k es g)) v:=by
 have hv:∃cs:Array Value,v=.agg cs/\cs.size=P.cellsOf t:=by
  unfold agT at hag;unfold Value.okWide at hok
  split at hag
  ·rename_i fs hu;rw[hu] at hok;obtain⟨cs,h1,h2,_⟩:=hok;exact⟨cs,h1,h2⟩
  ·rename_i n e hu;rw[hu] at hok;obtain⟨cs,h1,h2,_⟩:=hok;exact⟨cs,h1,h2⟩
  ·cases hag
 obtain⟨cs,rfl,hsz⟩:=hv;obtain⟨fuel,hx⟩:=h;have hx:DataW.trod enc P w base spare held fuel t cs.toList=some (dd,pp):=hx;obtain⟨g,hg⟩:=re9 hf hx (by simpa [hes] using hsz)
 refine⟨g,.agg _ _ (by simp[va1,hsz,hes]) λc x x' h1 h2=>?_⟩
 obtain⟨hc,rfl⟩:=md5 h1
 have:=hg c hc
 have h3:some x'=some (.int k (g c)):=by rw[<- h2];simpa using this
 injection h3 with h3;subst h3;exact .v _
theorem Ae8 {ρ : Rho} {H : List b8} {t e : TypeId} {k : IntKind} {es d : Nat} {v : Value} {dd : DataW D} {pp : List MemPlace} {bs : Nat} {r : Reach} (ht : P.underlying t = some (.slice e)) (hf : aa6 P d e = some (Ea6 k es)) (hes : P.cellsOf e = es) (h0 : 0 < es)
  (hok:Value.okWide P w r bs t v) (h:DataW.Trod enc P w 0 spare held t v dd pp):∃(n:Nat) (g:Nat->Nat->Int),n<=maxLen/\ga2 ρ H (Yd8 w) w (.tree es n λj=>va1 k es (g j)) v:=by
 obtain⟨fuel,hx⟩:=h;obtain⟨v',n,g,h1,h2,h3⟩:=td1 ht hf hes h0 hx;have hv:v.cells=#[v]:=by
  unfold Value.okWide at hok;rw[ht] at hok;cases v with
  |agg cs=>exfalso;simp[Cell.okWide,Cell.ok,ht] at hok
  |_=>rfl
 rw[hv] at h1
 have:v=v':=by simpa using h1
 subst this;exact⟨n,g,h2,.cell (.mem h3)⟩
end
end Go.Ev
namespace Go.Ev.L
open Go Go.Ev
theorem Ue4 {α : Type} (t : Ty α) (n : Nat) (g : Nat → Nat → Int) (f : (Nat → Int) → α) (h : ∀ j, va1 .i64 t.es (g j) = t.row (f (g j))) :
  ∃l,(ta7 t).dec (.tree t.es n λj=>va1 .i64 t.es (g j))=some l/\(ta7 t).grd (.tree t.es n λj=>va1 .i64 t.es (g j))=true:=by
 refine⟨lsL t n λj=>va1 .i64 t.es (g j),?_,Gb9 t (f:=λk=>f (g k)) λk _=>h k⟩
 show Bool.rec (motive:=λ_=>Option (List α)) none (some (lsL t n λj=>va1 .i64 t.es (g j))) (Nat.beq t.es t.es)=_
 rw[Qkq]
def Rdg{α:Type}(c:Cod α)(x:b7)(a:α):Prop:=c.dec x=some a/\c.grd x=true
theorem Ue5{α:Type}(t:Ty α)(n:Nat)(g:Nat->Nat->Int)(f:(Nat->Int)->α)(h:∀j,va1 .i64 t.es (g j)=t.row (f (g j))):∃l,Rdg (ta7 t) (.tree t.es n λj=>va1 .i64 t.es (g j)) l:=Ue4 t n g f h
theorem Ue6(n:Nat)(g:Nat->Nat->Int):∃l,Rdg (ta7 tI) (.tree 1 n λj=>va1 .i64 1 (g j)) l:=Ue5 tI n g (λg=>g 0) λ_=>rfl
section
variable{α β γ δ ε:Type}{c:Cod α}{d:Cod β}{e:Cod γ}{f:Cod δ}{c5:Cod ε}{x y z w v:b7}{a:α}{b':β}{g:γ}{j:δ}{m:ε}{r:b7×List b8}
theorem Zf9{k:α->β->DT (b7×List b8)}(h1:Rdg c x a)(h2:Rdg d y b')(h:(k a b').run=some r):(va4 c d k [x,y] []).run=some r:=by
 unfold va4;simp only[h1.1,h1.2,h2.1,h2.2];exact h
end
theorem Cf6{g p:Bool}(hg:g=true)(hp:p=true):(DT.guard g (.ret ((one r1B).enc p,([]:List b8)))).run=some (b true,([]:List b8)):=by subst hg;subst hp;rfl
end Go.Ev.L
namespace Go.Ev.Ce
open Go Go.Ev Go.Ev.L Go.Proofs
structure B3 where
 b0:Int
 b1:Int
 b2:Int
structure B2 where
 d0:Int
 d1:Int
def Nf9:List b7->Bool
 |[.v (.int .u8 _),.v (.int .u8 _)]=>true
 |_=>false
def ag0:List b7->B2
 |[.v (.int .u8 x),.v (.int .u8 y)]=>⟨x,y⟩
 |_=>⟨0,0⟩
noncomputable def tM:Ty B2 where
 es:=2
 row x:=[.v (.int .u8 x.d0),.v (.int .u8 x.d1)]
 rd:=ag0
 ok:=Nf9
 cks:=List.replicate 2 (.int .u8)
 d:=⟨0,0⟩
 h0 _:=rfl
 h1 _:=rfl
 h2 _:=rfl
 h3 r h:=by
  unfold Nf9 at h
  split at h
  ·exact .refl _
  ·cases h
 h4 _:=rfl
 h5 _:=rfl
structure LL where
 u:List Int
 v:List Int
noncomputable def aa5(x:List Int):V3×List V3:=match d9 x with
 |[]=>(⟨0,0,0⟩,[])
 |a::l=>(a,l)
noncomputable def pc7:Sum:=Q9 (ta7 tI) λx=>.guard (rb8 x) (.guard (Nat.ble 1 (List.length (d9 x))) (.ret (eL tV ((aa5 x).1::(aa5 x).2),[])))
theorem Ue7{α:Type}{c:Cod α}{k k':α->DT (b7×List b8)}(h:∀a r,(k a).run=some r->(k' a).run=some r){args:List b7}{blks:List b8}{r:b7×List b8}(hr:(Q9 c k args blks).run=some r):(Q9 c k' args blks).run=some r:=by
 unfold Q9 at hr ⊢
 split at hr
 ·rename_i x;cases hd:c.dec x with
  |none=>rw[hd] at hr;cases hr
  |some a =>
   rw[hd] at hr;obtain⟨h1,h2⟩:=DT.run_guard_some (show (DT.guard (c.grd x) (k a)).run=some r from hr)
   show (DT.guard (c.grd x) (k' a)).run=some r;rw[h1];exact h a r h2
 ·cases hr
theorem md6:f9 prog G 25 pc7:=λargs blks r out he=>qd9 args blks r out (Ue7 (λx r hr=>by
 obtain⟨h1,hr⟩:=DT.run_guard_some hr;obtain⟨h2,hr⟩:=DT.run_guard_some hr;rw[h1];have e:(aa5 x).1::(aa5 x).2=d9 x:=by
  unfold aa5;cases h:d9 x with
  |nil=>rw[h] at h2;cases h2
  |cons a l=>rfl
 rw[e] at hr;exact hr) he)
set_option maxRecDepth 100000
noncomputable def md7:List (Nat×Sum):=[]
theorem Vc8:i4 prog G md7:=trivial
noncomputable def Kb8  : Option (b7×List b8):=(some (.sl 0 0 4 0,[⟨27,3,[[i 0,i 0,i 0],[i 1,i 0,i 0],[i 0,i 1,i 0],[i 0,i 0,i 1]],true,false,0⟩]))
noncomputable def hb9  : List V3:=O9 (one (r1L tV)) Kb8
noncomputable def Ca2  : Bool:=okO (one (r1L tV)) Kb8
noncomputable def pc8:Sum:=Qd4  (.guard Ca2 (.ret ((one (r1L tV)).enc hb9,[])))
theorem md8:f9 prog G 67 pc8:=Ff6 (bd b67 Vc8) (one (r1L tV)) (o:=Kb8) (q9 (by kernel_rfl))
structure De9 where
 lb5:List Pln
 (is8 d7 c7 d8:Int)
structure Ee0 where
 is9:Int
noncomputable def Vc9:List (Nat×Sum):=[(19,tc2),(21,Bc2),(23,fd9),(67,pc8),(28,Mc0),(30,fc5),(31,pc4)]
theorem Mc5:i4 prog G Vc9:=⟨Pc0,sd5,Ud8,md8,md1,Vc6,md2,trivial⟩
noncomputable def Ia3  : Option (b7×List b8):=let t1:=(Sa9 [(⟨(⟨1,1,1⟩:V3),3⟩:Pln),(⟨(⟨-1,0,0⟩:V3),0⟩:Pln)] (⟨1,0,2⟩:V3));let t2:=(Za6 [(⟨(⟨1,1,1⟩:V3),3⟩:Pln),(⟨(⟨-1,0,0⟩:V3),0⟩:Pln)] (⟨1,0,2⟩:V3));let t3:=(yb0 (rt tP t1.1) [(⟨(⟨1,1,1⟩:V3),6⟩:Pln),(⟨(⟨-1,0,0⟩:V3),1⟩:Pln)]);let t4:=(yb0 (rt tP t2.1) [(⟨(⟨1,1,1⟩:V3),0⟩:Pln),(⟨(⟨-1,0,0⟩:V3),-1⟩:Pln)]);let t5:=(Sa9 [(⟨(⟨1,1,1⟩:V3),3⟩:Pln),(⟨(⟨-1,0,0⟩:V3),0⟩:Pln)] (⟨13,0,0⟩:V3));let t6:=(Za6 [(⟨(⟨1,1,1⟩:V3),3⟩:Pln),(⟨(⟨-1,0,0⟩:V3),0⟩:Pln)] (⟨0,-1,0⟩:V3));let t7:=(Sa9 [(⟨(⟨1,0,0⟩:V3),2097152⟩:Pln)] (⟨1,0,0⟩:V3));let t8:=hb9;let t9:=(eb2 (rt tV t8) [(⟨0,0,0⟩:V3),(⟨2,0,0⟩:V3)]);let t10:=(Ia1 (rt tV t9.1) [(⟨0,0,0⟩:V3),(⟨0,0,1⟩:V3),(⟨0,1,0⟩:V3),(⟨2,0,1⟩:V3),(⟨2,1,0⟩:V3),(⟨3,0,0⟩:V3)]);let t11:=(eb2 (rt tV t8) []);let t12:=(eb2 (rt tV t8) [(⟨24,0,0⟩:V3)]);let t13:=(Pa6 (rt tV t8) (⟨3,-1,2⟩:V3));let t14:=(Pa6 [] (⟨3,0,0⟩:V3));(sl (Ta0 [(⟨(⟨1,1,1⟩:V3),3⟩:Pln),(⟨(⟨-1,0,0⟩:V3),0⟩:Pln)] (⟨1,0,2⟩:V3)) (sl (Za7 [(⟨(⟨1,1,1⟩:V3),3⟩:Pln),(⟨(⟨-1,0,0⟩:V3),0⟩:Pln)] (⟨1,0,2⟩:V3)) (sl (!t1.2) (some (b false,[])) (sl (!t2.2) (some (b false,[])) (sl (okE tP t1.1) (sl (yb1 (rt tP t1.1) [(⟨(⟨1,1,1⟩:V3),6⟩:Pln),(⟨(⟨-1,0,0⟩:V3),1⟩:Pln)]) (sl (!t3) (some (b false,[])) (sl (okE tP t2.1) (sl (yb1 (rt tP t2.1) [(⟨(⟨1,1,1⟩:V3),0⟩:Pln),(⟨(⟨-1,0,0⟩:V3),-1⟩:Pln)]) (sl (!t4) (some (b false,[])) (sl (Ta0 [(⟨(⟨1,1,1⟩:V3),3⟩:Pln),(⟨(⟨-1,0,0⟩:V3),0⟩:Pln)] (⟨13,0,0⟩:V3)) (sl (Za7 [(⟨(⟨1,1,1⟩:V3),3⟩:Pln),(⟨(⟨-1,0,0⟩:V3),0⟩:Pln)] (⟨0,-1,0⟩:V3)) (sl (Ta0 [(⟨(⟨1,0,0⟩:V3),2097152⟩:Pln)] (⟨1,0,0⟩:V3)) (sl Ca2 (sl (okE tV t8) (sl (eb3 (rt tV t8) [(⟨0,0,0⟩:V3),(⟨2,0,0⟩:V3)]) (sl t5.2 (some (b false,[])) (sl t6.2 (some (b false,[])) (sl t7.2 (some (b false,[])) (sl (t9.2 != 0) (some (b false,[])) (sl (okE tV t9.1) (sl (Ia2 (rt tV t9.1) [(⟨0,0,0⟩:V3),(⟨0,0,1⟩:V3),(⟨0,1,0⟩:V3),(⟨2,0,1⟩:V3),(⟨2,1,0⟩:V3),(⟨3,0,0⟩:V3)]) (sl (!t10) (some (b false,[])) (sl Ca2 (sl (okE tV t8) (sl (eb3 (rt tV t8) []) (sl Ca2 (sl (okE tV t8) (sl (eb3 (rt tV t8) [(⟨24,0,0⟩:V3)]) (sl Ca2 (sl (okE tV t8) (sl (Pa7 (rt tV t8) (⟨3,-1,2⟩:V3)) (sl (Pa7 [] (⟨3,0,0⟩:V3)) (sl (t11.2==11) (sl (t12.2==3) (sl (t13.1==3) (sl t13.2 (some (b (!t14.2),[])) (some (b false,[]))) (some (b false,[]))) (some (b false,[]))) (some (b false,[]))) none) none) none) none) none) none) none) none) none) none)) none) none))))) none) none) none) none) none) none)) none) none)) none) none))) none) none)
noncomputable def ab2  : Bool:=O9 (one r1B) Ia3
noncomputable def ab3  : Bool:=okO (one r1B) Ia3
noncomputable def fc8:Sum:=Qd4  (.guard ab3 (.ret ((one r1B).enc ab2,[])))
theorem Wc0:f9 prog G 15 fc8:=Ff6 (bd b15 Mc5) (one r1B) (o:=Ia3) (q9 (by kernel_rfl))
end Go.Ev.Ce
