/- Own work. -/
import Derived.Test.YtkfaiccnekeklaaGreatEvJ1
set_option linter.all false
def Qja:=@List.all_eq_true
def Qjb:=@List.any_eq_true
def Qjc:=@List.length_append
def Qjd:=@List.length_take
def Qje:=@Nat.lt_irrefl
def Qjf:=@Nat.zero_add
def Qjg:=@Int.mul_eq_zero
def Qjh:=@Bool.false_eq_true
def Qji:=@Nat.zero_le
def Qjj:=@List.mem_cons
def Qjk:=@List.mem_cons_self
def Qjl:=@List.mem_range
def Qjm:=@Nat.le_refl
def Qjn:=@Int.mul_zero
def Qjo:=@List.drop_zero
def Qjp:=@List.mem_map
def Qjq:=@List.append_nil
def Qjr:=@Int.mul_nonpos_of_nonneg_of_nonpos
def Qjs:=@List.mem_iff_getElem
def Qjt:=@Bool.and_eq_true
def Qju:=@List.filter_cons
def Qjv:=@Bool.and_true
def Qjw:=@List.length_set
def Qjx:=@List.pairwise_cons
def Qjy:=@List.filter_append
def Qjz:=@List.mem_filter
def Qjaa:=@List.take_append_of_le_length
def Qjab:=@Nat.beq_refl
def Qjac:=@List.findIdx_getElem
def Qjad:=@List.getD_eq_getElem?_getD
def Qjae:=@List.mem_append
def Qjaf:=@Classical.byContradiction
def Qjag:=@Nat.lt_or_gt_of_ne
def Qjah:=@Int.zero_mul
def Qjai:=@Bool.and_self
def Qjaj:=@List.take_succ_eq_append_getElem
def Qjak:=@Bool.not_eq_true
def Qjal:=@List.findIdx_lt_length_of_exists
def Qjam:=@List.length_filter_le
def Qjan:=@Int.sub_self
def Qjao:=@Int.mul_le_mul_of_nonneg_left
def Qjap:=@List.mem_singleton
def Qjaq:=@List.drop_eq_getElem_cons
def Qjar:=@Nat.ble_eq
def Qjas:=@Int.mul_pos_of_neg_of_neg
def Qjat:=@List.length_drop
def Qjau:=@Int.zero_add
def Qjav:=@List.drop_eq_nil_of_le
def Qjaw:=@List.getElem_set_self
def Qjax:=@List.take_take
def Qjay:=@List.length_replicate
def Qjaz:=@Go.Ev.Ce.V3.ext'
namespace Go.Ev.Ce
open Go Go.Ev Go.Ev.L Go.Proofs
theorem te3{l:List V3}(hf:nf0 l=true):Sol l:=(Ie8 hf).h
theorem ee0{v:V3}(h:g3 v=0):v=⟨0,0,0⟩:=by
 unfold g3 at h;have h:Nat.gcd (Nat.gcd v.x.natAbs v.y.natAbs) v.z.natAbs=0:=by omega
 rw[Nat.gcd_eq_zero_iff,Nat.gcd_eq_zero_iff] at h;exact Qjaz (by show v.x=0;omega) (by show v.y=0;omega) (by show v.z=0;omega)
theorem va0{a c k:V3}(ha:inV a=true)(hc:inV c=true)(hk:inV k=true)(h:N3 a c k≠⟨0,0,0⟩):(A8 a c k).2=true:=by
 unfold A8;rw[ha,hc,hk];simp only[Qjai,if_true];rw[if_neg (λh0=>h (ee0 h0):¬ g3 (c7 (sub c a) (sub k a))=0)]
theorem Hc2{a c k:V3}{p:Pln}(h:Thr a c k p):N3 a c k≠⟨0,0,0⟩:=λe=>by
 obtain⟨ok,⟨g,hg,e1,e2,e3⟩,_⟩:=h;have e':c7 (sub c a) (sub k a)=⟨0,0,0⟩:=e;rw[e'] at e1 e2 e3;have z:∀{x:Int},g*x=0->x=0:=λh=>(Qjg.1 h).resolve_left (by omega)
 exact ab1 ok (Qjaz (z e1) (z e2) (z e3))
theorem uc7{a c k:V3}{p:Pln}(h:Thr a c k p):dot p.n a=p.b/\dot p.n c=p.b/\dot p.n k=p.b:=by
 obtain⟨ok,⟨g,hg,e1,e2,e3⟩,o⟩:=h;have z:∀{x y:Int},g*(x-y)=0->x=y:=λh=>by have:=(Qjg.1 h).resolve_left (by omega);omega
 refine⟨o.symm,?_,?_⟩
 ·rw[o];apply z
  have:g*(dot p.n c-dot p.n a)=(g*p.n.x)*(c.x-a.x)+(g*p.n.y)*(c.y-a.y)+(g*p.n.z)*(c.z-a.z):=by simp only[dot];grind
  rw[this,e1,e2,e3];simp only[c7,sub];grind
 ·rw[o];apply z
  have:g*(dot p.n k-dot p.n a)=(g*p.n.x)*(k.x-a.x)+(g*p.n.y)*(k.y-a.y)+(g*p.n.z)*(k.z-a.z):=by simp only[dot];grind
  rw[this,e1,e2,e3];simp only[c7,sub];grind
theorem Fa8(p:Pln)(v:V3):dot (Z0 p).n v=(Z0 p).b↔dot p.n v=p.b:=by
 rw[ub6];show -dot p.n v=-p.b↔_;omega
theorem ub7{a c k:V3}{p q:Pln}(h:Thr a c k q)(hp:okp p=true)(t1:dot p.n a=p.b)(t2:dot p.n c=p.b)(t3:dot p.n k=p.b):p=q\/p=Z0 q:=by
 obtain⟨s1,s2,s3⟩:=uc7 h;obtain⟨ok,⟨g,hg,e1,e2,e3⟩,o⟩:=h;have d1:dot p.n (sub c a)=0:=by simp only[dot,sub] at *;grind
 have d2:dot p.n (sub k a)=0:=by simp only[dot,sub] at *;grind
 have hc:c7 q.n p.n=⟨0,0,0⟩:=by
  have z:∀{x:Int},g*x=0->x=0:=λh=>(Qjg.1 h).resolve_left (by omega)
  generalize sub c a=u at *
  generalize sub k a=w at *
  refine Qjaz (z ?_) (z ?_) (z ?_)
  ·have:g*(c7 q.n p.n).x=(g*q.n.y)*p.n.z-(g*q.n.z)*p.n.y:=by simp only[c7];grind
   rw[this,e2,e3]
   have:(c7 u w).y*p.n.z-(c7 u w).z*p.n.y=w.x*dot p.n u-u.x*dot p.n w:=by simp only[c7,dot];grind
   rw[this,d1,d2];simp
  ·have:g*(c7 q.n p.n).y=(g*q.n.z)*p.n.x-(g*q.n.x)*p.n.z:=by simp only[c7];grind
   rw[this,e1,e3]
   have:(c7 u w).z*p.n.x-(c7 u w).x*p.n.z=w.y*dot p.n u-u.y*dot p.n w:=by simp only[c7,dot];grind
   rw[this,d1,d2];simp
  ·have:g*(c7 q.n p.n).z=(g*q.n.x)*p.n.y-(g*q.n.y)*p.n.x:=by simp only[c7];grind
   rw[this,e1,e2]
   have:(c7 u w).x*p.n.y-(c7 u w).y*p.n.x=w.z*dot p.n u-u.z*dot p.n w:=by simp only[c7,dot];grind
   rw[this,d1,d2];simp
 obtain⟨pn,pb⟩:=p;obtain⟨qn,qb⟩:=q
 rcases bd7 (uc5 ok) (uc5 hp) hc with e|e
 ·left
  simp only at e o t1 s1 t2 t3
  subst e;rw[<- t1,s1]
 ·right
  simp only at e o t1 s1 t2 t3
  subst e;rw[<- t1];simp only[dot,neg,Z0] at s1 ⊢;simp only[Pln.mk.injEq,true_and]
  grind
structure Ca2(l:List V3)(p:Pln):Prop extends Fac l p.n p.b where
 ok:okp p=true
theorem Qb4{l:List V3}{p:Pln}{u w x:V3}(hu:u∈l)(hw:w∈l)(hx:x∈l)(h:Thr u w x p)(hh:∀v∈l,dot (Z0 p).n v<=(Z0 p).b):Ca2 l (Z0 p):=by
 obtain⟨s1,s2,s3⟩:=uc7 h;exact⟨⟨hh,u,w,x,hu,hw,hx,Hc2 h,(Fa8 p u).2 s1,(Fa8 p w).2 s2,(Fa8 p x).2 s3⟩,Qb0 h.ok⟩
theorem kc9{l:List V3}{p:Pln}{u w x:V3}(hu:u∈l)(hw:w∈l)(hx:x∈l)(h:Thr u w x p)(hh:∀v∈l,dot p.n v<=p.b):Ca2 l p:=by
 obtain⟨s1,s2,s3⟩:=uc7 h;exact⟨⟨hh,u,w,x,hu,hw,hx,Hc2 h,s1,s2,s3⟩,h.ok⟩
theorem Pd3{u w x:V3}(h:N3 u w x≠⟨0,0,0⟩):N3 w u x≠⟨0,0,0⟩/\N3 u x w≠⟨0,0,0⟩/\N3 x w u≠⟨0,0,0⟩/\N3 w x u≠⟨0,0,0⟩/\N3 x u w≠⟨0,0,0⟩:=by
 have e1:N3 w u x=neg (N3 u w x):=Qjaz (by simp only[N3,c7,e7,neg];grind) (by simp only[N3,c7,e7,neg];grind) (by simp only[N3,c7,e7,neg];grind)
 have e2:N3 u x w=neg (N3 u w x):=Qjaz (by simp only[N3,c7,e7,neg];grind) (by simp only[N3,c7,e7,neg];grind) (by simp only[N3,c7,e7,neg];grind)
 have e3:N3 x w u=neg (N3 u w x):=Qjaz (by simp only[N3,c7,e7,neg];grind) (by simp only[N3,c7,e7,neg];grind) (by simp only[N3,c7,e7,neg];grind)
 have e4:N3 w x u=N3 u w x:=Qjaz (by simp only[N3,c7,e7];grind) (by simp only[N3,c7,e7];grind) (by simp only[N3,c7,e7];grind)
 have e5:N3 x u w=N3 u w x:=Qjaz (by simp only[N3,c7,e7];grind) (by simp only[N3,c7,e7];grind) (by simp only[N3,c7,e7];grind)
 rw[e1,e2,e3,e4,e5];exact⟨Pc6 h,Pc6 h,Pc6 h,h,h⟩
theorem Be5{u w x:V3}(h:N3 u w x≠⟨0,0,0⟩):u≠w/\u≠x/\w≠x:=by
 refine⟨λe=>h ?_,λe=>h ?_,λe=>h ?_⟩<;>subst e<;>refine Qjaz ?_ ?_ ?_<;>simp only[N3,c7,e7]<;>grind
theorem ee1 {l : List V3} {u w x : V3} (hu : u ∈ l) (hw : w ∈ l) (hx : x ∈ l) (h : N3 u w x ≠ ⟨0, 0, 0⟩) :
  ∃a,a<l.length/\∃c,c<a/\∃k,k<c/\N3 (gL tV l a) (gL tV l c) (gL tV l k)≠⟨0,0,0⟩/\∀f:V3->Prop,f u->f w->f x->f (gL tV l a)/\f (gL tV l c)/\f (gL tV l k):=by
 obtain⟨i,hi,rfl⟩:=Qjs.1 hu;obtain⟨j,hj,rfl⟩:=Qjs.1 hw;obtain⟨k,hk,rfl⟩:=Qjs.1 hx;obtain⟨n1,n2,n3⟩:=Be5 h;obtain⟨s1,s2,s3,s4,s5⟩:=Pd3 h;have d1:i≠j:=λe=>n1 (by subst e;rfl)
 have d2:i≠k:=λe=>n2 (by subst e;rfl)
 have d3:j≠k:=λe=>n3 (by subst e;rfl)
 rw[<- nb4 tV hi,<- nb4 tV hj,<- nb4 tV hk] at *
 rcases Qjag d1 with h1|h1<;>rcases Qjag d2 with h2|h2<;>rcases Qjag d3 with h3|h3
 ·exact⟨k,hk,j,h3,i,h1,s3,λf a b c=>⟨c,b,a⟩⟩
 ·exact⟨j,hj,k,h3,i,h2,s4,λf a b c=>⟨b,c,a⟩⟩
 ·omega
 ·exact⟨j,hj,i,h1,k,h2,s1,λf a b c=>⟨b,a,c⟩⟩
 ·exact⟨k,hk,i,h2,j,h1,s5,λf a b c=>⟨c,a,b⟩⟩
 ·omega
 ·exact⟨i,hi,k,h2,j,h3,s2,λf a b c=>⟨a,c,b⟩⟩
 ·exact⟨i,hi,j,h1,k,h3,h,λf a b c=>⟨a,b,c⟩⟩
theorem B7{l:List V3}(hl:l.all inV=true)(p:Pln):p∈F0 l↔Ca2 l p:=by
 have hin:=Qja.1 hl;constructor
 ·intro hp;obtain⟨a,ha,c,hc,k,hk,h1,h2⟩:=(md3 l p).1 hp;have ma:=gLm ha;have mc:=gLm (show c<l.length by omega)
  have mk:=gLm (show k<l.length by omega)
  have ht:=(da4 h1).2
  rcases h2 with⟨rfl,h3⟩|⟨rfl,h3⟩
  ·exact kc9 ma mc mk ht ((hb6 ht.ok hl).1 h3)
  ·exact Qb4 ma mc mk ht ((hb6 (Qb0 ht.ok) hl).1 h3)
 ·intro h;obtain⟨u,w,x,hu,hw,hx,h3,t1,t2,t3⟩:=h.on;obtain⟨a,ha,c,hc,k,hk,hn,hall⟩:=ee1 hu hw hx h3;obtain⟨i1,i2,i3⟩:=hall (λv=>inV v=true) (hin u hu) (hin w hw) (hin x hx)
  obtain⟨e1,e2,e3⟩:=hall (λv=>dot p.n v=p.b) t1 t2 t3
  have h2:=va0 i1 i2 i3 hn;refine (md3 l p).2 ⟨a,ha,c,hc,k,hk,h2,?_⟩;have hh:=(hb6 h.ok hl).2 h.hd
  rcases ub7 (da4 h2).2 h.ok e1 e2 e3 with e|e
  ·exact .inl ⟨e,hh⟩
  ·exact .inr ⟨e,hh⟩
theorem td1{n:V3}(h:n≠⟨0,0,0⟩):0<dot n n:=by
 have sq:∀a:Int,0<=a*a:=λa=>by
  by_cases h:0<=a
  ·exact Int.mul_nonneg h h
  ·have:=Int.mul_nonneg (show 0<=-a by omega) (show 0<=-a by omega)
   rw[Int.neg_mul_neg] at this;exact this
 have z:∀{a:Int},a*a=0->a=0:=λh=>(Qjg.1 h).elim id id
 have s1:=sq n.x;have s2:=sq n.y;have s3:=sq n.z;by_cases h0:0<dot n n
 ·exact h0
 ·exfalso;simp only[dot] at h0;exact h (Qjaz (z (by omega)) (z (by omega)) (z (by omega)))
theorem td2{l:List V3}(hl:l.all inV=true){c:List Pln}(hc:∀p,Ca2 l p->p∈c):te2 l c:=λn b hn hf=>by
 have hin:=Qja.1 hl;obtain⟨u,w,x,hu,hw,hx,h3,t1,t2,t3⟩:=hf.on;have h2:=va0 (hin u hu) (hin w hw) (hin x hx) h3;have ht:=(da4 h2).2;generalize (A8 u w x).1=q at ht;obtain⟨s1,s2,s3⟩:=uc7 ht;have hnn:=td1 hn;have d1:dot n (e7 w u)=0:=by simp only[dot,e7] at *;grind
 have d2:dot n (e7 x u)=0:=by simp only[dot,e7] at *;grind
 -- the normals are parallel
 have par:dot n n*q.n.x=dot q.n n*n.x/\dot n n*q.n.y=dot q.n n*n.y/\dot n n*q.n.z=dot q.n n*n.z:=by
  obtain⟨ok,⟨g,hg,e1,e2,e3⟩,o⟩:=ht;have z:∀{x y:Int},g*(x-y)=0->x=y:=λh=>by have:=(Qjg.1 h).resolve_left (by omega);omega
  have eg:g*dot q.n n=(c7 (e7 w u) (e7 x u)).x*n.x+(c7 (e7 w u) (e7 x u)).y*n.y+(c7 (e7 w u) (e7 x u)).z*n.z:=by
   have:g*dot q.n n=(g*q.n.x)*n.x+(g*q.n.y)*n.y+(g*q.n.z)*n.z:=by simp only[dot];grind
   rw[this,e1,e2,e3];rfl
  have e1:g*q.n.x=(c7 (e7 w u) (e7 x u)).x:=e1;have e2:g*q.n.y=(c7 (e7 w u) (e7 x u)).y:=e2;have e3:g*q.n.z=(c7 (e7 w u) (e7 x u)).z:=e3;generalize e7 w u=p at *
  generalize e7 x u=r at *
  refine⟨z ?_,z ?_,z ?_⟩
  ·have:g*(dot n n*q.n.x-dot q.n n*n.x)=dot n n*(g*q.n.x)-(g*dot q.n n)*n.x:=by grind
   rw[this,e1,eg]
   have:dot n n*(c7 p r).x-((c7 p r).x*n.x+(c7 p r).y*n.y+(c7 p r).z*n.z)*n.x=(n.y*r.z-n.z*r.y)*dot n p-(n.y*p.z-n.z*p.y)*dot n r:=by simp only[dot,c7];grind
   rw[this,d1,d2];simp
  ·have:g*(dot n n*q.n.y-dot q.n n*n.y)=dot n n*(g*q.n.y)-(g*dot q.n n)*n.y:=by grind
   rw[this,e2,eg]
   have:dot n n*(c7 p r).y-((c7 p r).x*n.x+(c7 p r).y*n.y+(c7 p r).z*n.z)*n.y=(n.z*r.x-n.x*r.z)*dot n p-(n.z*p.x-n.x*p.z)*dot n r:=by simp only[dot,c7];grind
   rw[this,d1,d2];simp
  ·have:g*(dot n n*q.n.z-dot q.n n*n.z)=dot n n*(g*q.n.z)-(g*dot q.n n)*n.z:=by grind
   rw[this,e3,eg]
   have:dot n n*(c7 p r).z-((c7 p r).x*n.x+(c7 p r).y*n.y+(c7 p r).z*n.z)*n.z=(n.x*r.y-n.y*r.x)*dot n p-(n.x*p.y-n.y*p.x)*dot n r:=by simp only[dot,c7];grind
   rw[this,d1,d2];simp
 have fin:∀r:Pln,Thr u w x q->(r=q\/r=Z0 q)->0<dot r.n n->(dot n n*r.n.x=dot r.n n*n.x/\dot n n*r.n.y=dot r.n n*n.y/\dot n n*r.n.z=dot r.n n*n.z)->∃s t:Int,0<s/\0<t/\∃q∈c,t*q.n.x=s*n.x/\t*q.n.y=s*n.y/\t*q.n.z=s*n.z/\t*q.b=s*b:=λr ht hr hp ⟨p1,p2,p3⟩=>by
  have hru:dot r.n u=r.b:=by
   rcases hr with rfl|rfl
   ·exact s1
   ·exact (Fa8 q u).2 s1
  have ed:∀v,dot n n*dot r.n v=dot r.n n*dot n v:=λv=>by
   have:dot n n*dot r.n v=(dot n n*r.n.x)*v.x+(dot n n*r.n.y)*v.y+(dot n n*r.n.z)*v.z:=by
    generalize dot n n=t;simp only[dot];grind
   rw[this,p1,p2,p3];generalize dot r.n n=s;simp only[dot];grind
  have eb:dot n n*r.b=dot r.n n*b:=by rw[<- hru,ed,t1]
  have hd:∀v∈l,dot r.n v<=r.b:=λv hv=>by
   have h1:=Qjao (hf.hd v hv) (Int.le_of_lt hp);rw[<- ed,<- eb] at h1;exact Int.le_of_mul_le_mul_left h1 hnn
  have hF:Ca2 l r:=by
   rcases hr with rfl|rfl
   ·exact kc9 hu hw hx ht hd
   ·exact Qb4 hu hw hx ht hd
  exact⟨dot r.n n,dot n n,hp,hnn,r,hc r hF,p1,p2,p3,eb⟩
 by_cases h0:0<dot q.n n
 ·exact fin q ht (.inl rfl) h0 par
 ·refine fin (Z0 q) ht (.inr rfl) ?_ ?_
  ·rw[ub6]
   have:dot q.n n≠0:=λe=>by
    obtain⟨p1,p2,p3⟩:=par;rw[e] at p1 p2 p3;simp only[Qjah] at p1 p2 p3;have z:∀{x:Int},dot n n*x=0->x=0:=λh=>(Qjg.1 h).resolve_left (by omega)
    exact ab1 ht.ok (Qjaz (z p1) (z p2) (z p3))
   omega
  ·rw[ub6];obtain⟨p1,p2,p3⟩:=par;show dot n n*-q.n.x=_/\dot n n*-q.n.y=_/\dot n n*-q.n.z=_;rw[Int.mul_neg,Int.mul_neg,Int.mul_neg,p1,p2,p3,Int.neg_mul,Int.neg_mul,Int.neg_mul];exact⟨rfl,rfl,rfl⟩
end Go.Ev.Ce
namespace Go.Ev.Ce
open Go Go.Ev Go.Ev.L Go.Proofs Go.Sort
def eqV(x y:V3):Bool:=x.x==y.x&&(x.y==y.y&&(x.z==y.z&&true))
theorem kb8(x y:V3):eqV x y=true↔x=y:=by
 unfold eqV;simp only[Qjv,Qjt,beq_iff_eq];refine⟨λ⟨h1,h2,h3⟩=>Qjaz h1 h2 h3,λh=>by subst h;exact⟨rfl,rfl,rfl⟩⟩
theorem uc8{l:List V3}{j:Nat}(h:j<l.length):ldR tV (bL tV l) (0+j)=true:=by rw[Qjf];exact jd2 tV h
theorem Yb5{l:List V3}{j:Nat}(h:j<l.length):rdR tV (bL tV l) (0+j)=gL tV l j:=by rw[Qjf];exact jd1 tV h
theorem cd2(l:List V3)(n:Nat):G6 (bL tV l) n=bL tV (l.take n):=by unfold bL;rw[H5,m8,m8,List.map_take]
theorem uc9(l:List V3)(n:Nat):i7 (bL tV l) n=bL tV (l.drop n):=by unfold bL;rw[E6,m8,m8,List.map_drop]
theorem cd3(n:Nat):List.replicate n [i 0,i 0,i 0]=bL tV (List.replicate n ⟨0,0,0⟩):=by unfold bL;rw[m8,List.map_replicate];rfl
def dvF:V3->List V3->List V3
 |_,[]=>[]
 |a,x::l=>if eqV x a then dvF x l else x::dvF x l
def ddV:List V3->List V3
 |[]=>[]
 |x::l=>x::dvF x l
structure Pd4(l:List V3)(n:Nat)(cur:List V3)(m j:Nat)(R:List V3):Prop where
 len:cur.length=l.length
 t:cur.take m++dvF (gL tV l (j-1)) ((l.take n).drop j)=R
 d:cur.drop (j-1)=l.drop (j-1)
 le:m+1<=j
theorem Bc2 (l : List V3) (n o : Nat) (hn : n ≤ l.length) (hl : l.length ≤ 1000000000) (ho : o < n) (m : Nat) (cur : List V3) (R : List V3) (hd : Pd4 l n cur m (o + 1) R) :
  ∃t s,lp (p8 ⟨n,0+o,n-o⟩) ⟨(m:Int),((1:Nat):Int),bL tV cur⟩=(t,s)/\(t=1/\∃m' cur' k,s=⟨((m':Nat):Int),k,bL tV cur'⟩/\cur'.length=l.length/\cur'.take m'=R/\m'<=n):=by
 refine R6 (step:=p8 ⟨n,0+o,n-o⟩) (mk:=λj (x:Nat×List V3)=>(⟨(x.1:Int),(j:Int),bL tV x.2⟩:o4)) (n-o) (λj x=>Pd4 l n x.2 x.1 (o+j) R/\1<=j/\x.1<=n) (λt s=>t=1/\∃m' cur' k,s=⟨((m':Nat):Int),k,bL tV cur'⟩/\cur'.length=l.length/\cur'.take m'=R/\m'<=n) (by omega) (λj x hj hx=>?_) (λj x hj hx=>?_) 1 (m,cur) ⟨hd,Qjm _,by have:=hd.le;show m<=n;omega⟩
 ·obtain⟨m,cur⟩:=x;obtain⟨⟨h1,h2,h3,h4⟩,hj1,hmn⟩:=hx
  simp only at h1 h2 h3 h4 hmn
  have hoj:o+j<n:=by omega
  have hjc:o+j<cur.length:=by omega
  have hjc':o+(j-1)<cur.length:=by omega
  have hmc:m<cur.length:=by omega
  have hg':gL tV cur (o+(j-1))=gL tV l (o+j-1):=by rw[show o+(j-1)=o+j-1 by omega];exact Xb8 tV h3
  have hd1:cur.drop (o+j)=l.drop (o+j):=by have:=Pb3 h3 1;rw[show o+j-1+1=o+j by omega] at this;exact this
  have hg:gL tV cur (o+j)=gL tV l (o+j):=Xb8 tV hd1;have hWm:W ((m:Int)+1)=((m+1:Nat):Int):=by rw[aa0 (by omega) (by omega)];omega
  have hWj:W ((j:Int)-1)=((j-1:Nat):Int):=by rw[aa0 (by omega) (by omega)];omega
  have hb:Nat.blt m cur.length=true:=by rw[Nat.blt_eq];exact hmc
  have hrow:i8 (bL tV cur) m=tV.row (gL tV cur m):=N6 tV hmc;have sp:∀(v:V3) (x1 x2 x3:Int),O2 (tV.row v) 0 [i x1,i x2,i x3]=tV.row ⟨x1,x2,x3⟩:=λ_ _ _ _=>rfl
  have rl:∀v:V3,Nat.ble 3 (len (tV.row v))=true:=λ_=>rfl
  simp only[p8,J5,Int.toNat_natCast,Qjf,hWj,jd2 tV hjc,jd2 tV hjc',jd1 tV hjc,jd1 tV hjc',C0 hj (show n-o<=4611686018427387904 by omega),hWm,hg,hg',hrow,Aa2,hb,sp,rl,Ia4,i6 (show m<n by omega)]
  rw[btD (o5 hj)];simp only[i6 hj,i6 (show j-1<n-o by omega),w6,Qjai]
  rw[show ((gL tV l (o+j)).x==(gL tV l (o+j-1)).x&&((gL tV l (o+j)).y==(gL tV l (o+j-1)).y&&((gL tV l (o+j)).z==(gL tV l (o+j-1)).z&&true)))=eqV (gL tV l (o+j)) (gL tV l (o+j-1)) from rfl]
  have hcons:(l.take n).drop (o+j)=gL tV l (o+j)::(l.take n).drop (o+(j+1)):=by
   rw[Qjaq (by rw[Qjd];omega),List.getElem_take,nb4 tV (by omega)]
   rfl
  rw[hcons] at h2;have hlast:o+(j+1)-1=o+j:=by omega
  unfold dvF at h2;cases he:eqV (gL tV l (o+j)) (gL tV l (o+j-1)) with
  |true =>
   rw[he] at h2;simp only[if_true] at h2;refine .nx ⟨(m,cur),rfl,⟨⟨h1,?_,?_,by show m+1<=o+(j+1);omega⟩,by omega,hmn⟩⟩
   ·rw[hlast];exact h2
   ·rw[hlast];exact hd1
  |false =>
   rw[he] at h2;simp only[Qjh,if_false] at h2;refine .nx ⟨(m+1,cur.set m (gL tV l (o+j))),rfl,⟨⟨by rw[Qjw];exact h1,?_,?_,by show m+1+1<=o+(j+1);omega⟩,by omega,by show m+1<=n;omega⟩⟩
   ·rw[hlast];show (cur.set m (gL tV l (o+j))).take (m+1)++_=R;rw[Qjaj (by rw[Qjw];exact hmc),Qjaw,List.take_set_of_le (Qjm _),List.append_assoc]
    exact h2
   ·rw[hlast];show (cur.set m (gL tV l (o+j))).drop (o+j)=_;rw[List.drop_set_of_lt (by omega),hd1]
 ·obtain⟨m,cur⟩:=x;obtain⟨⟨h1,h2,h3,h4⟩,hj1,hmn⟩:=hx
  simp only at h1 h2 h3 h4 hmn
  refine⟨1,?_,rfl,m,cur,_,rfl,h1,?_,hmn⟩
  ·simp only[p8,J5];rw[bfD (by omega)]
  ·rw[Qjav (by rw[Qjd];omega)] at h2
   unfold dvF at h2;rw[Qjq] at h2;exact h2
theorem cd4 (l : List V3) (n : Nat) (hn : n ≤ l.length) (hl : l.length ≤ 1000000000) :
  ∃m r,L1 ⟨n,bL tV l⟩=⟨1,m,bL tV r⟩/\m<=r.length/\r.take m=ddV (l.take n)/\r.length=l.length:=by
 unfold L1 L0
 simp only
 by_cases h2:(n:Int)<2
 ·rw[btD h2];refine⟨n,l,rfl,hn,?_,rfl⟩
  have:n=0\/n=1:=by omega
  rcases this with rfl|rfl
  ·rfl
  ·cases l with
   |nil=>rfl
   |cons x l=>rfl
 ·rw[bfD h2];have h1n:1<=n:=by omega
  have hI : ∀ j, j < n → 1 ≤ j → l.take j ++ dvF (gL tV l (j - 1)) ((l.take n).drop j) = ddV (l.take n) →
    (eqV (gL tV l j) (gL tV l (j-1))=true->Pd4 l n l j (j+1) (ddV (l.take n)))/\(eqV (gL tV l j) (gL tV l (j-1))=false->l.take (j+1)++dvF (gL tV l (j+1-1)) ((l.take n).drop (j+1))=ddV (l.take n)):=by
   intro j hj hj1 hR;have hcons:(l.take n).drop j=gL tV l j::(l.take n).drop (j+1):=by
    rw[Qjaq (by rw[Qjd];omega),List.getElem_take,nb4 tV (by omega)]
   rw[hcons] at hR;unfold dvF at hR;constructor
   ·intro he;rw[he] at hR;simp only[if_true] at hR;exact⟨rfl,hR,rfl,Qjm _⟩
   ·intro he;rw[he] at hR;simp only[Qjh,if_false] at hR;rw[Oa8 tV (show j<l.length by omega),List.append_assoc]
    exact hR
  have inner:∀k,k<n->1<=k->Pd4 l n l k (k+1) (ddV (l.take n))->∃m' cur' k',lp (p8 ⟨n,0+k,n-k⟩) ⟨(k:Int),1,bL tV l⟩=(1,⟨((m':Nat):Int),k',bL tV cur'⟩)/\cur'.length=l.length/\cur'.take m'=ddV (l.take n)/\m'<=n:=by
   intro k hk hk1 hc;obtain⟨t,s,e1,rfl,m',cur',k',rfl,e2,e3,e4⟩:=Bc2 l n k hn hl hk k l _ hc;exact⟨m',cur',k',e1,e2,e3,e4⟩
  have key:=R6 (step:=K9 ⟨n,bL tV l⟩) (mk:=λj (_:Unit)=>(⟨(j:Int)⟩:r4)) n (λj _=>1<=j/\j<=n/\l.take j++dvF (gL tV l (j-1)) ((l.take n).drop j)=ddV (l.take n))
   (λt s=>(t=1/\∃k:Nat,s=⟨(k:Int)⟩/\k<n/\1<=k/\Pd4 l n l k (k+1) (ddV (l.take n)))\/(t=2/\l.take n=ddV (l.take n))) (by omega) (λj x hj hx=>?_) (λj x hj hx=>?_) 1 () ⟨Qjm _,h1n,by
    cases l with
    |nil=>simp only[List.length_nil] at hn;omega
    |cons x l =>
     cases n with
     |zero=>omega
     |succ n=>rfl⟩
  ·obtain⟨t,s,e1,e2⟩:=key;rw[show (⟨1⟩:r4)=⟨((1:Nat):Int)⟩ from rfl,e1]
   rcases e2 with⟨rfl,k,rfl,hk,hk1,hc⟩|⟨rfl,he⟩
   ·obtain⟨m',cur',k',e2,e3,e4,e5⟩:=inner k hk hk1 hc;simp only[Int.toNat_natCast,e2];simp only[Qjf,Nat.sub_zero];refine⟨m',cur'.take m'++(List.replicate (n-m') ⟨0,0,0⟩++cur'.drop (m'+(n-m'))),?_,?_,?_,?_⟩
    ·rw[cd2,cd3,uc9,bb2,bb2];rfl
    ·rw[Qjc,Qjd,e3];omega
    ·rw[Qjaa (by rw[Qjd,e3];omega),Qjax,Nat.min_self,e4]
    ·rw[Qjc,Qjc,Qjd,Qjay,Qjat,e3];omega
   ·exact⟨n,l,rfl,hn,he,rfl⟩
  ·obtain⟨hj1,hjn,hR⟩:=hx;obtain⟨i1,i2⟩:=hI j hj hj1 hR;have hWj:W ((j:Int)-1)=((j-1:Nat):Int):=by rw[aa0 (by omega) (by omega)];omega
   have hjl:j<l.length:=by omega
   have hjl':j-1<l.length:=by omega
   simp only[K9,J6,Int.toNat_natCast,hWj,uc8 hjl,uc8 hjl',Yb5 hjl,Yb5 hjl',C0 hj (show n<=4611686018427387904 by omega)]
   rw[btD (o5 hj),bt (i6 hj),bt (i6 (show j-1<n by omega)),bt (i6 (show j<n+1 by omega))]
   simp only[w6];rw[show ((gL tV l j).x==(gL tV l (j-1)).x&&((gL tV l j).y==(gL tV l (j-1)).y&&((gL tV l j).z==(gL tV l (j-1)).z&&true)))=eqV (gL tV l j) (gL tV l (j-1)) from rfl]
   cases he:eqV (gL tV l j) (gL tV l (j-1)) with
   |false=>exact .nx ⟨(),rfl,by omega,by omega,i2 he⟩
   |true =>
    obtain⟨m',cur',k',e2,e3,e4,e5⟩:=inner j hj hj1 (i1 he);rw[e2];simp only[i6 (show m'<n+1 by omega)]
    exact .ex (.inl ⟨rfl,j,rfl,hj,hj1,i1 he⟩)
  ·obtain⟨hj1,hjn,hR⟩:=hx;refine⟨2,?_,.inr ⟨rfl,?_⟩⟩
   ·simp only[K9,J6];rw[bfD (by omega)]
   ·have:j=n:=by omega
    subst this;rw[Qjav (by rw[Qjd];omega)] at hR
    unfold dvF at hR;rw[Qjq] at hR;exact hR
def Pd5(l:List V3):Prop:=l.Pairwise LtV
theorem Yb6{x y z:V3}(h1:LtV x y)(h2:LtV y z):LtV x z:=by unfold LtV at *;omega
theorem Qb5(x:V3):¬ LtV x x:=by unfold LtV;omega
theorem ee2(x y:V3):LtV x y\/x=y\/LtV y x:=by
 by_cases h1:LtV x y
 ·exact .inl h1
 ·by_cases h2:LtV y x
  ·exact .inr (.inr h2)
  ·refine .inr (.inl ?_);unfold LtV at h1 h2;exact Qjaz (by omega) (by omega) (by omega)
theorem md4(l:List V3):List.Perm (nb5 l) l:=List.mergeSort_perm l _
theorem Cd6(x y z:V3)(h1:(!ltOf cb6 y x)=true)(h2:(!ltOf cb6 z y)=true):(!ltOf cb6 z x)=true:=by
 rw[ya6] at *
 simp only[Bool.not_eq_true',decide_eq_false_iff_not] at *
 unfold LtV at *
 omega
theorem Cd7(x y:V3):((!ltOf cb6 y x)||(!ltOf cb6 x y))=true:=by
 rw[ya6,ya6];by_cases h:LtV y x
 ·have h2:¬ LtV x y:=λh2=>Qb5 x (Yb6 h2 h)
  simp[h2]
 ·simp[h]
theorem Pc9(l:List V3):(nb5 l).Pairwise λx y=>(!ltOf cb6 y x)=true:=List.pairwise_mergeSort Cd6 Cd7 l
theorem td3(p:V3):∀(a:V3) (l:List V3),p∈a::dvF a l↔p∈a::l
 |a,[]=>by simp[dvF]
 |a,x::l=>by
  have ih:=td3 p x l;unfold dvF;split
  ·rename_i h;rw[kb8] at h;subst h;rw[ih];simp
  ·simp only[Qjj] at ih ⊢;rw[ih]
theorem te4(p:V3):∀l:List V3,p∈ddV l↔p∈l
 |[]=>Iff.rfl
 |x::l=>td3 p x l
theorem td4:∀(a:V3) (l:List V3),(a::l).Pairwise (λx y=>(!ltOf cb6 y x)=true)->Pd5 (a::dvF a l)
 |a,[],_=>List.pairwise_singleton _ _
 |a,x::l,h=>by
  obtain⟨h1,h2⟩:=Qjx.1 h;have ih:=td4 x l h2;have hle:=h1 x Qjk;rw[ya6] at hle;have hle:¬ LtV x a:=by simpa using hle
  unfold dvF;split
  ·rename_i he;rw[kb8] at he;subst he;exact ih
  ·rename_i hne;have hlt:LtV a x:=by
    rcases ee2 a x with h|h|h
    ·exact h
    ·exact absurd ((kb8 _ _).2 h.symm) hne
    ·exact absurd h hle
   refine Qjx.2 ⟨λp hp=>?_,ih⟩
   rcases Qjj.1 hp with e|hp'
   ·subst e;exact hlt
   ·exact Yb6 hlt ((Qjx.1 ih).1 p hp')
theorem md5(l:List V3):Pd5 (ddV (nb5 l)):=by
 have h:=Pc9 l;cases hs:nb5 l with
 |nil=>exact .nil
 |cons a l'=>rw[hs] at h;exact td4 a l' h
noncomputable def dis(l:List V3):List V3:=ddV (nb5 l)
theorem yb3(l:List V3)(v:V3):v∈dis l↔v∈l:=by unfold dis;rw[te4,(md4 l).mem_iff]
theorem Hc3(l:List V3):(dis l).Nodup:=List.Pairwise.imp (λ{x y} (h:LtV x y) (e:x=y)=>Qb5 y (e ▸ h)) (md5 l)
theorem Qc0(l:List V3):(dis l).length<=l.length:=by
 have:=List.Nodup.length_le_of_subset (Hc3 l) (λv hv=>(yb3 l v).1 hv)
 exact this
theorem Hc4(l:List V3)(n:Nat)(hn:n<=l.length):slR tV (bL tV l) 0 n=l.take n:=Tb1 tV (by rw[Qjd];omega) λk hk=>by
 rw[Qjf,N6 tV (by omega)]
 congr 1;simp[gL,Qjad,List.getElem?_take,hk]
theorem Yb7(l:List V3)(n:Nat)(hn:n<=l.length):okS tV (bL tV l) 0 n=true:=bb1 tV (f:=λk=>gL tV l k) λk hk=>by rw[Qjf,N6 tV (by omega)]
theorem Hc5(a:V3)(l:List V3)(hl:l.length<=1000000):aa1 (a,l)=⟨1,(a::l).length,bL tV (a::l)⟩:=by
 have ec:r5 (λk=>tV.row (gL tV (a::l) k)) (List.range (l.length+1))=bL tV (a::l):=Hd8 tV (a::l)
 unfold aa1 P6;simp only[ec,Aa2];have r:Nat.ble ((0+(a::l).length)*24) room=true:=by rw[Qjar];unfold room;simp only[List.length_cons];omega
 rw[r,Qjf];rfl
theorem Qb6(a:V3)(l:List V3)(hl:l.length<=1000000):∃m r,L1 ⟨(a::l).length,app (bL tV (nb5 (slR tV (bL tV (a::l)) 0 (a::l).length))) (i7 (bL tV (a::l)) (a::l).length)⟩=⟨1,m,bL tV r⟩/\m<=r.length/\r.take m=dis (a::l)/\r.length=l.length+1:=by
 have hs:(nb5 (a::l)).length=(a::l).length:=Gc5 _;rw[Gb3,uc9,bb2];obtain⟨m,r,k1,k2,k3,k4⟩:=cd4 (nb5 (a::l)++(a::l).drop (a::l).length) (a::l).length (by rw[Qjc,hs];omega) (by rw[Qjc,hs,Qjat];simp only[List.length_cons];omega)
 refine⟨m,r,k1,k2,?_,by rw[k4,Qjc,hs,Qjat];simp only[List.length_cons];omega⟩
 rw[k3,Qjaa (by rw[hs];omega),List.take_of_length_le (by rw[hs];omega)]
 rfl
theorem cd5(l:List V3)(hl:l.length<=2000000)(r:List V3):(Bool.and (Nat.ble l.length room) (Bool.and (Nat.ble l.length (len (bL tV (l++r)))) (okS tV (bL tV (l++r)) 0 l.length)))=true:=by
 rw[Yb7 _ _ (by rw[Qjc];omega),Aa2,Qjt,Qjt,Qjar,Qjar]
 refine⟨by unfold room;omega,by rw[Qjc];omega,rfl⟩
theorem cc6(a:V3)(l:List V3)(hl:l.length<=1000000):Rd (one (r1L tV)) (ka4 (a,l)) (λr=>r=dis (a::l)):=by
 obtain⟨m,r,k1,k2,k3,_⟩:=Qb6 a l hl;have hok:okL tV (l.length+1) (λk=>tV.row (gL tV (a::l) k))=true:=bb1 tV (f:=λk=>gL tV (a::l) k) λ_ _=>rfl
 have hr:=cd5 (a::l) (by simp only[List.length_cons];omega) []
 rw[Qjq] at hr;unfold ka4;simp only[qd2,qd3,Hc5 a l hl,hok,k1,w6,Qjab,hr];refine⟨_,r.take m,rfl,?_,k3⟩;show Bool.rec (motive:=λ_=>Option (List V3)) none (some (slR tV (bL tV r) 0 m)) (Bool.and true (okS tV (bL tV r) 0 m))=_
 rw[Hc4 r m k2,Yb7 r m k2];rfl
theorem md6(a:V3)(l:List V3)(hl:l.length<=1000000):La0 (a,l)=dis (a::l):=(cc6 a l hl).p
theorem md7(a:V3)(l:List V3)(hl:l.length<=1000000):La1 (a,l)=true:=(cc6 a l hl).g
end Go.Ev.Ce
namespace Go.Ev.Ce
open Go Go.Ev Go.Ev.L Go.Proofs
theorem cd6(p:Pln)(v:V3):Ba1 p v=some (i (Q5 p v),[]):=by
 unfold Ba1 Q5;simp only[ce4,ce5,(db3 v).1,(db3 v).2,rd8,rd9,w6];cases hp:okp p with
 |false=>rfl
 |true =>
  cases hv:inV v with
  |false=>rfl
  |true =>
   have hb:=Hb8 hp;have hd:=Od6 hb hv;have e:w9 p.n v=dot p.n v:=by
    unfold w9;simp only[Hb4,Vb8];exact ob5 (hd.mono (by omega))
   rw[e];simp only[Bool.not_true,Sa3,Qjai,if_true,bb5];by_cases h1:dot p.n v<p.b
   ·rw[if_pos h1,if_pos (by omega)]
   ·rw[if_neg h1];by_cases h2:dot p.n v>p.b
    ·rw[if_pos h2,if_neg (by omega),if_pos (by omega)]
    ·rw[if_neg h2,if_neg (by omega),if_neg (by omega)]
theorem kb9(p:Pln)(v:V3):C7 p v=Q5 p v:=by unfold C7;rw[cd6];rfl
theorem Oa9(p:Pln)(v:V3):L9 p v=true:=by unfold L9;rw[cd6];rfl
theorem ee3{v:V3}(h1:Sm 1000000000000000000 v.x)(h2:Sm 1000000000000000000 v.y)(h3:Sm 1000000000000000000 v.z):V2 [v.x,v.y,v.z]=g3 v/\V4 [v.x,v.y,v.z]=true:=by
 have hd:=tc6 [v.x,v.y,v.z] (by simp) (by
  intro x hx;simp only[Qjj,List.not_mem_nil,or_false] at hx
  rcases hx with rfl|rfl|rfl<;>assumption)
 have hg:([v.x,v.y,v.z].foldl (λg x=>Nat.gcd g x.natAbs) 0:Nat)=Nat.gcd (Nat.gcd v.x.natAbs v.y.natAbs) v.z.natAbs:=by
  simp only[List.foldl_cons,List.foldl_nil,Nat.gcd_zero_left]
 exact⟨by unfold V2;rw[hd,hg];rfl,by unfold V4;rw[hd];rfl⟩
theorem Pd6 {v : V3} (h1 : Sm 1000000000000000000 v.x) (h2 : Sm 1000000000000000000 v.y) (h3 : Sm 1000000000000000000 v.z) :
  Ba0 v=if g3 v=0 then some (.tup [.agg (tV.row ⟨0,0,0⟩),i 0],[]) else some (.tup [.agg (tV.row ⟨W (Int.tdiv v.x (g3 v)),W (Int.tdiv v.y (g3 v)),W (Int.tdiv v.z (g3 v))⟩),i (g3 v)],[]):=by
 obtain⟨e1,e2⟩:=ee3 h1 h2 h3;unfold Ba0;simp only[e1,e2,w6];by_cases h:g3 v=0
 ·rw[if_pos h,bt (by simpa using h)];rfl
 ·rw[if_neg h,bf (by simpa using h),bf (by simpa using h),bf (by simpa using h),bf (by simpa using h)];rfl
theorem cc7(a c d:V3):ja9 a c d=some (.tup [.agg (tP.row (A8 a c d).1),b (A8 a c d).2],[]):=by
 unfold ja9 A8;simp only[(db3 _).1,(db3 _).2];cases ha:inV a with
 |false=>rfl
 |true =>
  cases hc:inV c with
  |false=>rfl
  |true =>
   cases hd:inV d with
   |false=>rfl
   |true =>
    obtain⟨e,k1,k2,k3⟩:=db2 ha hc hd;have e':A3 (K8 c a) (K8 d a)=c7 (sub c a) (sub d a):=e;rw[e'];generalize c7 (sub c a) (sub d a)=n at *
    have m1:=k1.mono (m:=1000000000000000000) (by omega)
    have m2:=k2.mono (m:=1000000000000000000) (by omega)
    have m3:=k3.mono (m:=1000000000000000000) (by omega)
    have hpr:=Pd6 m1 m2 m3;have gp:Na3 n=true:=by unfold Na3;rw[hpr];split<;>rfl
    by_cases h0:g3 n=0
    ·have pp:sa1 n=(⟨0,0,0⟩,0):=by unfold sa1;rw[hpr,if_pos h0];rfl
     have hz:w9 ⟨0,0,0⟩ a=0:=by unfold w9;simp only[Qjah];rfl
     simp only[gp,pp,hz,Qjai,if_true,h0];rfl
    ·have hp:=yb1 n;have q1:=da3 (g:=g3 n) k1 (by omega)
     have q2:=da3 (g:=g3 n) k2 (by omega)
     have q3:=da3 (g:=g3 n) k3 (by omega)
     rw[ob5 (q1.mono (by omega)),ob5 (q2.mono (by omega)),ob5 (q3.mono (by omega))] at hpr
     have pp:sa1 n=(⟨Int.tdiv n.x (g3 n),Int.tdiv n.y (g3 n),Int.tdiv n.z (g3 n)⟩,g3 n):=by unfold sa1;rw[hpr,if_neg h0];rfl
     have hdot:w9 ⟨Int.tdiv n.x (g3 n),Int.tdiv n.y (g3 n),Int.tdiv n.z (g3 n)⟩ a=dot ⟨Int.tdiv n.x (g3 n),Int.tdiv n.y (g3 n),Int.tdiv n.z (g3 n)⟩ a:=by
      unfold w9;simp only[Hb4,Vb8];obtain⟨⟨a1,a2⟩,⟨a3,a4⟩,a5,a6⟩:=(sa8 a).1 ha;have r1:=mb q1.1 q1.2 a1 a2;have r2:=mb q2.1 q2.2 a3 a4;have r3:=mb q3.1 q3.2 a5 a6;rw[aa0 (by omega) (by omega)]
      rfl
     simp only[gp,pp,hdot,Qjai,if_true,h0,if_false,show g3 n>0 from by omega,decide_true]
     rfl
theorem lb0(a b c:V3):G3 a b c=A8 a b c:=by unfold G3;rw[cc7];rfl
theorem Hb9(a b c:V3):ca0 a b c=true:=by unfold ca0;rw[cc7];rfl
theorem Pd7(v:V3)(p:Pln):Ha2 ⟨v.x,v.y,v.z,p.n.x,p.n.y,p.n.z,p.b⟩=⟨1,Q5 p v != 0⟩:=by
 unfold Ha2 ma0;simp only[kb9,Oa9,w6]
theorem ee4(l:List V3)(p:Pln)(hl:l.length<=1000000000):T3 ⟨l,p.n.x,p.n.y,p.n.z,p.b⟩=⟨1,if l.any (λv=>Q5 p v != 0) then ((l.findIdx (λv=>Q5 p v != 0):Nat):Int) else -1⟩:=by
 have h:=Oa4 (step:=E8 ⟨l,(l.length:Int),p.n.x,p.n.y,p.n.z,p.b⟩) (mk:=λj=>(⟨(j:Int)⟩:n7)) (c:=λv=>Q5 p v != 0) (u:=1) (fin:=2) tV l hl
  (λj hj=>by
   simp only[E8,C8,Int.toNat_natCast,Pd7,C0 hj (by omega)]
   rw[bt (sc7 hj),bt (i6 hj)]
   rfl)
  (by simp only[E8,C8];rw[bf (Ob1 (Qje _))]) 0 (Qji _)
 rw[Qjo] at h;unfold T3 D8;simp only[o6,l9];rw[show (⟨0⟩:n7)=⟨((0:Nat):Int)⟩ from rfl,h]
 split
 ·simp only[Qjf];rfl
 ·rfl
theorem td5(l:List V3)(p:Pln)(hl:l.length<=1000000000):o8 ⟨l,p.n.x,p.n.y,p.n.z,p.b⟩=⟨1,l.any λv=>Q5 p v != 0⟩:=by
 unfold o8 y8;simp only[o6,l9,ee4 l p hl];split
 ·rename_i h;rw[h,show decide (((l.findIdx (λv=>Q5 p v != 0):Nat):Int)>=0)=true from decide_eq_true (by omega)];rfl
 ·rename_i h;rw[Qjak] at h;rw[h];rfl
theorem ee5(v:V3)(p:Pln):wa0 ⟨v.x,v.y,v.z,p.n.x,p.n.y,p.n.z,p.b⟩=⟨1,decide (Q5 p v>0)⟩:=by
 unfold wa0 ca1;simp only[kb9,Oa9,w6]
theorem ee6(l:List V3)(p:Pln)(hl:l.length<=1000000000):T6 ⟨l,p.n.x,p.n.y,p.n.z,p.b⟩=⟨1,if l.any (λv=>decide (Q5 p v>0)) then ((l.findIdx (λv=>decide (Q5 p v>0)):Nat):Int) else -1⟩:=by
 have h:=Oa4 (step:=E9 ⟨l,(l.length:Int),p.n.x,p.n.y,p.n.z,p.b⟩) (mk:=λj=>(⟨(j:Int)⟩:n8)) (c:=λv=>decide (Q5 p v>0)) (u:=1) (fin:=2) tV l hl
  (λj hj=>by
   simp only[E9,C9,Int.toNat_natCast,ee5,C0 hj (by omega)]
   rw[bt (sc7 hj),bt (i6 hj)]
   rfl)
  (by simp only[E9,C9];rw[bf (Ob1 (Qje _))]) 0 (Qji _)
 rw[Qjo] at h;unfold T6 D9;simp only[o6,l9];rw[show (⟨0⟩:n8)=⟨((0:Nat):Int)⟩ from rfl,h]
 split
 ·simp only[Qjf];rfl
 ·rfl
theorem ee7(l:List V3)(p:Pln)(hl:l.length<=1000000000):M5 ⟨l,p.n.x,p.n.y,p.n.z,p.b⟩=⟨1,l.any λv=>decide (Q5 p v>0)⟩:=by
 unfold M5 y9;simp only[o6,l9,ee6 l p hl];split
 ·rename_i h;rw[h,show decide (((l.findIdx (λv=>decide (Q5 p v>0)):Nat):Int)>=0)=true from decide_eq_true (by omega)];rfl
 ·rename_i h;rw[Qjak] at h;rw[h];rfl
def bey(l:List V3)(p:Pln):Bool:=l.any λv=>decide (Q5 p v>0)
theorem Hc6(l:List V3)(p:Pln)(hl:l.length<=1000000000):ua4 l p=some (b (bey l p),[]):=by
 unfold ua4;simp only[o6,l9,ee7 l p hl];rfl
theorem Pd8(l:List V3)(p:Pln)(hl:l.length<=1000000000):Y4 l p=bey l p:=by unfold Y4;rw[Hc6 l p hl];rfl
theorem Pd9(l:List V3)(p:Pln)(hl:l.length<=1000000000):G5 l p=true:=by unfold G5;rw[Hc6 l p hl];rfl
theorem vc0{α:Type}(t:Ty α)(l:List α){j k:Nat}(h:k<j):gL t (l.take j) k=gL t l k:=by
 simp[gL,Qjad,List.getElem?_take,h]
theorem Qd0 (l : List V3) (i j : Nat) (hi : i < l.length) (hj : j < i) (hl : l.length ≤ 1000000) :
  lp (M2 ⟨(i:Int),(j:Int),(l.length:Int),(i:Int),(i:Int),(j:Int),(j:Int),l,l⟩) ⟨0⟩ =
   if (l.take j).any (λv=>(A8 v (gL tV l j) (gL tV l i)).2) then (1,⟨((l.take j).findIdx (λv=>(A8 v (gL tV l j) (gL tV l i)).2):Nat)⟩) else (2,⟨(j:Int)⟩):=by
 have hlen:(l.take j).length=j:=by rw[Qjd];omega
 have h:=Oa4 (step:=M2 ⟨(i:Int),(j:Int),(l.length:Int),(i:Int),(i:Int),(j:Int),(j:Int),l,l⟩) (mk:=λk=>(⟨(k:Int)⟩:G4)) (c:=λv=>(A8 v (gL tV l j) (gL tV l i)).2) (u:=1) (fin:=2) tV (l.take j) (by omega)
  (λk hk=>by
   rw[hlen] at hk;simp only[M2,ka1,Int.toNat_natCast,lb0,Hb9,vc0 tV l hk,o6,l9,td5 l _ (show l.length<=1000000000 by omega),C0 hk (by omega)]
   rw[btD (o5 hk),bt (i6 (by omega)),bt (i6 (by omega)),bt (i6 hi),w6]
   cases (A8 (gL tV l k) (gL tV l j) (gL tV l i)).2<;>rfl)
  (by rw[hlen];simp only[M2,ka1];rw[bfD (u9 (Qje _))]) 0 (Qji _)
 rw[Qjo,hlen] at h;rw[show (⟨0⟩:G4)=⟨((0:Nat):Int)⟩ from rfl,h]
 split
 ·simp only[Qjf]
 ·rfl
def ixs(n:Nat):List Int:=(List.range n).map λk:Nat=>(k:Int)
theorem Pa0(n:Nat):(ixs n).length=n:=by simp[ixs]
theorem td6{n k:Nat}(h:k<n):gL tI (ixs n) k=(k:Int):=by
 simp[gL,ixs,Qjad,List.getElem?_map,List.getElem?_range h]
noncomputable def sp2(l:List V3)(i:Nat)(m:Int):Bool:=(l.take m.toNat).any λv=>(A8 v (gL tV l m.toNat) (gL tV l i)).2
theorem Qd1 (l : List V3) (i : Nat) (hi : i < l.length) (hl : l.length ≤ 1000000) :
  lp (S5 ⟨(i:Int),(l.length:Int),(i:Int),(i:Int)⟩) ⟨0,l,l⟩=if (ixs i).any (sp2 l i) then (1,⟨((ixs i).findIdx (sp2 l i):Nat),l,l⟩) else (2,⟨(i:Int),l,l⟩):=by
 have h:=Oa4 (step:=S5 ⟨(i:Int),(l.length:Int),(i:Int),(i:Int)⟩) (mk:=λj=>(⟨(j:Int),l,l⟩:J3)) (c:=sp2 l i) (u:=1) (fin:=2) tI (ixs i) (by rw[Pa0];omega)
  (λj hj=>by
   rw[Pa0] at hj;simp only[S5,ka2,Int.toNat_natCast,Nat.sub_zero,o6,l9,Qd0 l i j hi hj hl,C0 hj (by omega),td6 hj]
   rw[btD (o5 hj),bt (i6 (by omega))]
   unfold sp2;simp only[Int.toNat_natCast];cases ((l.take j).any λv=>(A8 v (gL tV l j) (gL tV l i)).2)<;>rfl)
  (by rw[Pa0];simp only[S5,ka2];rw[bfD (u9 (Qje _))]) 0 (Qji _)
 rw[Qjo,Pa0] at h;rw[show (⟨0,l,l⟩:J3)=⟨((0:Nat):Int),l,l⟩ from rfl,h]
 split
 ·simp only[Qjf]
 ·rfl
noncomputable def sp1(l:List V3)(m:Int):Bool:=(ixs m.toNat).any (sp2 l m.toNat)
theorem te5 (l : List V3) (hl : l.length ≤ 1000000) :
  lp (ha0 ⟨(l.length:Int)⟩) ⟨0,l,l⟩=if (ixs l.length).any (sp1 l) then (1,⟨((ixs l.length).findIdx (sp1 l):Nat),l,l⟩) else (2,⟨(l.length:Int),l,l⟩):=by
 have h:=Oa4 (step:=ha0 ⟨(l.length:Int)⟩) (mk:=λj=>(⟨(j:Int),l,l⟩:R5)) (c:=sp1 l) (u:=1) (fin:=2) tI (ixs l.length) (by rw[Pa0];omega)
  (λi hi=>by
   rw[Pa0] at hi;simp only[ha0,ka3,Int.toNat_natCast,Nat.sub_zero,o6,l9,Qd1 l i hi hl,C0 hi (by omega),td6 hi]
   rw[btD (o5 hi),bt (i6 (by omega))]
   unfold sp1;simp only[Int.toNat_natCast];cases (ixs i).any (sp2 l i)<;>rfl)
  (by rw[Pa0];simp only[ha0,ka3];rw[bfD (u9 (Qje _))]) 0 (Qji _)
 rw[Qjo,Pa0] at h;rw[show (⟨0,l,l⟩:R5)=⟨((0:Nat):Int),l,l⟩ from rfl,h]
 split
 ·simp only[Qjf]
 ·rfl
theorem Qc1{α:Type}{l:List α}{c:α->Bool}(h:l.any c=true):l.findIdx c<l.length:=by
 obtain⟨x,h1,h2⟩:=Qjb.1 h;exact Qjal ⟨x,h1,h2⟩
theorem yb4{n:Nat}{c:Int->Bool}(h:(ixs n).any c=true):(ixs n).findIdx c<n/\c ((ixs n).findIdx c:Nat)=true:=by
 have hlt:=Qc1 h;have h1:=Qjac (xs:=ixs n) (p:=c) (w:=hlt);rw[Pa0] at hlt;refine⟨hlt,?_⟩;simpa [ixs] using h1
noncomputable def iF(l:List V3):Nat:=(ixs l.length).findIdx (sp1 l)
noncomputable def jF(l:List V3):Nat:=(ixs (iF l)).findIdx (sp2 l (iF l))
noncomputable def kF(l:List V3):Nat:=(l.take (jF l)).findIdx (λv=>(A8 v (gL tV l (jF l)) (gL tV l (iF l))).2)
noncomputable def plF(l:List V3):Pln:=(A8 (gL tV l (kF l)) (gL tV l (jF l)) (gL tV l (iF l))).1
noncomputable def Cb9(l:List V3):Bool:=if (ixs l.length).any (sp1 l) then !(l.any λv=>Q5 (plF l) v != 0) else true
theorem cd7(l:List V3)(hl:l.length<=1000000):Ia8 l=some (b (Cb9 l),[]):=by
 unfold Ia8 Cb9;simp only[o6,l9];rw[te5 l hl];by_cases h:(ixs l.length).any (sp1 l)=true
 ·obtain⟨hi,h1⟩:=yb4 h;have h1:(ixs (iF l)).any (sp2 l (iF l))=true:=h1;obtain⟨hj,h2⟩:=yb4 h1;have h2:(l.take (jF l)).any (λv=>(A8 v (gL tV l (jF l)) (gL tV l (iF l))).2)=true:=h2
  rw[if_pos h,if_pos h];simp only[Int.toNat_natCast,Nat.sub_zero];rw[show (ixs l.length).findIdx (sp1 l)=iF l from rfl,Qd1 l (iF l) hi hl,if_pos h1]
  simp only[Int.toNat_natCast,Nat.sub_zero];rw[show (ixs (iF l)).findIdx (sp2 l (iF l))=jF l from rfl,Qd0 l (iF l) (jF l) hi hj hl,if_pos h2]
  simp only[Int.toNat_natCast,lb0];rw[show (l.take (jF l)).findIdx (λv=>(A8 v (gL tV l (jF l)) (gL tV l (iF l))).2)=kF l from rfl,show (A8 (gL tV l (kF l)) (gL tV l (jF l)) (gL tV l (iF l))).1=plF l from rfl,td5 l _ (by omega)]
  rfl
 ·rw[if_neg h,if_neg h];rfl
theorem ee8(l:List V3)(hl:l.length<=1000000):Za6 l=Cb9 l:=by unfold Za6;rw[cd7 l hl];rfl
theorem ee9(l:List V3)(hl:l.length<=1000000):Za7 l=true:=by unfold Za7;rw[cd7 l hl];rfl
theorem Hc7(v:V3):pa3 v=some (b (!inV v),[]):=by
 unfold pa3;simp only[(db3 v).1,(db3 v).2,w6]
theorem Qd2(v:V3):Ba2 v=!inV v:=by unfold Ba2;rw[Hc7];rfl
theorem Qd3(v:V3):Ba3 v=true:=by unfold Ba3;rw[Hc7];rfl
theorem fe0(l:List V3)(hl:l.length<=1000000000):T9 ⟨l⟩=⟨1,if l.any (λv=>!inV v) then ((l.findIdx (λv=>!inV v):Nat):Int) else -1⟩:=by
 have h:=Oa4 (step:=F4 ⟨l,(l.length:Int)⟩) (mk:=λj=>(⟨(j:Int)⟩:n9)) (c:=λv=>!inV v) (u:=1) (fin:=2) tV l hl
  (λj hj=>by
   simp only[F4,D0,Int.toNat_natCast,Qd2,Qd3,C0 hj (by omega)]
   rw[bt (sc7 hj),bt (i6 hj),w6])
  (by simp only[F4,D0];rw[bf (Ob1 (Qje _))]) 0 (Qji _)
 rw[Qjo] at h;unfold T9 E0;simp only[o6,l9];rw[show (⟨0⟩:n9)=⟨((0:Nat):Int)⟩ from rfl,h]
 split
 ·simp only[Qjf];rfl
 ·rfl
theorem fe1(l:List V3)(hl:l.length<=1000000000):M8 ⟨l⟩=⟨1,l.any λv=>!inV v⟩:=by
 unfold M8 z6;simp only[o6,l9,fe0 l hl];split
 ·rename_i h;rw[h,show decide (((l.findIdx (λv=>!inV v):Nat):Int)>=0)=true from decide_eq_true (by omega)];rfl
 ·rename_i h;rw[Qjak] at h;rw[h];rfl
noncomputable def aa6(l:List V3):Int:=if (l.length:Int)>48 then 2 else if l.any (λv=>!inV v) then 3 else if Cb9 l then 11 else 0
theorem Hc8(l:List V3)(hl:l.length<=1000000):Ba4 l=some (i (aa6 l),[]):=by
 unfold Ba4 aa6;simp only[o6,l9,ha9,fe1 l (by omega),ee8 l hl,ee9 l hl]
 by_cases h:(l.length:Int)>48
 ·rw[btD h,if_pos h]
 ·rw[bfD h,if_neg h];cases l.any λv=>!inV v with
  |true=>rfl
  |false=>cases Cb9 l<;>rfl
theorem vc1(l:List V3)(hl:l.length<=1000000):sa2 l=aa6 l:=by unfold sa2;rw[Hc8 l hl];rfl
theorem vc2(l:List V3)(hl:l.length<=1000000):sa3 l=true:=by unfold sa3;rw[Hc8 l hl];rfl
theorem Qd4{p:Pln}(h:Bd p):sa0 p=Z0 p:=by
 unfold sa0 K8 Z0
 simp only
 have:=h.x1;have:=h.x2;have:=h.y1;have:=h.y2;have:=h.z1;have:=h.z2;have:=h.b1;have:=h.b2
 rw[aa0 (by omega) (by omega),aa0 (by omega) (by omega),aa0 (by omega) (by omega),aa0 (by omega) (by omega)]
 simp only[Int.zero_sub]
noncomputable def Qc2(p:Pln):List b7:=[i p.n.x,i p.n.y,i p.n.z,i p.b,b true]
noncomputable def ab2(l:List Pln):List (List b7):=l.map Qc2
theorem Hc9(x q:Pln):yb9 flK [i x.n.x,i x.n.y,i x.n.z,i x.b] (Qc2 q)=eqP q x:=by
 show Bool.and (decide (x.n.x=q.n.x)) (Bool.and (decide (x.n.y=q.n.y)) (Bool.and (decide (x.n.z=q.n.z)) (Bool.and (decide (x.b=q.b)) true)))=_;unfold eqP;have h:∀a c:Int,decide (a=c)=(c==a):=λa c=>by rw[Bool.eq_iff_iff,decide_eq_true_eq,beq_iff_eq];exact eq_comm
 rw[h,h,h,h]
theorem cd8(x:Pln):∀l,Ra0 4 [(0,.int .i64),(1,.int .i64),(2,.int .i64),(3,.int .i64)] [i x.n.x,i x.n.y,i x.n.z,i x.b] (ab2 l)=Qb1 l x
 |[]=>rfl
 |q::l=>by
  have ih:=cd8 x l;unfold Ra0 at ih ⊢;show Option.rec (motive:=λ_=>Bool) false (λr=>toB (hdA (i7 r 4))) (Bool.rec (motive:=λ_=>Option (List b7)) (Zb6 flK [i x.n.x,i x.n.y,i x.n.z,i x.b] (ab2 l)) (some (Qc2 q)) (yb9 flK [i x.n.x,i x.n.y,i x.n.z,i x.b] (Qc2 q)))=Qb1 (q::l) x
  rw[Hc9];unfold Qb1 at ih ⊢;rw[List.any_cons];cases eqP q x with
  |true=>rfl
  |false=>exact ih
theorem md8(x:Pln):∀l,Qb1 l x=false->Z3 [(0,.int .i64),(1,.int .i64),(2,.int .i64),(3,.int .i64)] [i x.n.x,i x.n.y,i x.n.z,i x.b] [i x.n.x,i x.n.y,i x.n.z,i x.b,b true] (ab2 l)=ab2 (l++[x])
 |[],_=>rfl
 |q::l,h=>by
  unfold Qb1 at h;rw[List.any_cons,Bool.or_eq_false_iff] at h;show Bool.rec (motive:=λ_=>List (List b7)) (Qc2 q::Z3 flK [i x.n.x,i x.n.y,i x.n.z,i x.b] (Qc2 x) (ab2 l)) (Qc2 x::ab2 l) (yb9 flK [i x.n.x,i x.n.y,i x.n.z,i x.b] (Qc2 q))=_
  rw[Hc9,h.1,show Z3 flK [i x.n.x,i x.n.y,i x.n.z,i x.b] (Qc2 x) (ab2 l)=_ from md8 x l h.2]
  rfl
noncomputable def Ib0(s:List Pln)(p:Pln):List Pln:=if Qb1 s p then s else s++[p]
theorem Qd5(s:List Pln)(p q:Pln):q∈Ib0 s p↔q∈s\/q=p:=by
 unfold Ib0;split
 ·rename_i h;rw[bd6] at h;exact⟨.inl,λh'=>h'.elim id λe=>e ▸ h⟩
 ·rw[Qjae,Qjap]
theorem vc3{s:List Pln}{p:Pln}(h:s.Nodup):(Ib0 s p).Nodup:=by
 unfold Ib0;split
 ·exact h
 ·rename_i hn;rw[bd6] at hn;rw[List.nodup_append];exact⟨h,by simp,λa ha b hb=>by rw[Qjap.1 hb];intro e;exact hn (e ▸ ha)⟩
theorem cd9(s:List Pln)(p:Pln):(Ib0 s p).length<=s.length+1:=by
 unfold Ib0;split
 ·omega
 ·simp
def fil(l:List V3)(s:List Pln):List Pln:=s.filter λp=>!bey l p
theorem lc0(l:List V3)(s:List Pln)(p:Pln):fil l (s++[p])=if bey l p then fil l s else fil l s++[p]:=by
 unfold fil;rw[Qjy,Qju,List.filter_nil];cases bey l p<;>simp
theorem Qc3(l:List V3)(s:List Pln):(fil l s).length<=s.length:=Qjam _ _
noncomputable def Db0(l:List V3)(a c:Nat)(s:List Pln)(k:Nat):List Pln :=
 if (A8 (gL tV l k) (gL tV l c) (gL tV l a)).2 then Ib0 (Ib0 s (A8 (gL tV l k) (gL tV l c) (gL tV l a)).1) (Z0 (A8 (gL tV l k) (gL tV l c) (gL tV l a)).1) else s
noncomputable def G2(l:List V3)(a:Nat)(s:List Pln)(c:Nat):List Pln:=(List.range c).foldl (Db0 l a c) s
noncomputable def G1(l:List V3)(s:List Pln)(a:Nat):List Pln:=(List.range a).foldl (G2 l a) s
noncomputable def G0(l:List V3):List Pln:=(List.range l.length).foldl (G1 l) []
theorem Ic0(l:List V3)(a c:Nat)(s:List Pln)(k:Nat):(Db0 l a c s k).length<=s.length+2:=by
 unfold Db0;split
 ·have h1:=cd9 (Ib0 s (A8 (gL tV l k) (gL tV l c) (gL tV l a)).1) (Z0 (A8 (gL tV l k) (gL tV l c) (gL tV l a)).1);have h2:=cd9 s (A8 (gL tV l k) (gL tV l c) (gL tV l a)).1;omega
 ·omega
theorem te6(l:List V3)(a:Nat)(s:List Pln)(c:Nat):(G2 l a s c).length<=s.length+2*c:=uc4 (Ic0 l a c) s c
theorem md9(l:List V3)(a:Nat)(s:List Pln):∀j,j<=a->a<=48->((List.range j).foldl (G2 l a) s).length<=s.length+96*j
 |0,_,_=>Qjm _
 |j+1,h,ha=>by
  rw[G8];have h1:=md9 l a s j (by omega) ha
  have h2:=te6 l a ((List.range j).foldl (G2 l a) s) j;omega
theorem Qc4(l:List V3)(hl:l.length<=48):∀j,j<=l.length->((List.range j).foldl (G1 l) []).length<=5000*j
 |0,_=>Qjm _
 |j+1,h=>by
  rw[G8];have h1:=Qc4 l hl j (by omega)
  have h2:(G1 l ((List.range j).foldl (G1 l) []) j).length<=_:=md9 l j ((List.range j).foldl (G1 l) []) j (Qjm _) (by omega)
  omega
@[reducible] noncomputable def mkf(l:List V3)(k:Nat)(s:List Pln):z7:=⟨phP (fil l s),(k:Int),ab2 s,(fil l s).length,bL tP (fil l s)⟩
theorem Yb8{n:Nat}{l:List Pln}(hn:n=l.length)(h:l.length<=1000000000):(Nat.beq n (len (bL tP l))&&Nat.ble ((n+1)*32) room)=true:=by
 subst hn;rw[Aa2,Qjab,Bool.true_and];exact be7 (by omega)
theorem td7(o:List Pln)(x:Pln):phP (o++[x])=1:=by cases o<;>rfl
theorem Qd6 (l : List V3) (hl : l.length ≤ 48) (a c k : Nat) (ha : a < l.length) (hc : c < a) (hk : k < c) (x1 x2 x3 x4 : Int) (s : List Pln) (ho : s.length ≤ 900000) :
  N9 ⟨(a:Int),(c:Int),x1,x2,x3,x4,(c:Int),l,l⟩ (mkf l k s)=.next (mkf l (k+1) (Db0 l a c s k)):=by
 have hfl:sa0 (A8 (gL tV l k) (gL tV l c) (gL tV l a)).1=Z0 (A8 (gL tV l k) (gL tV l c) (gL tV l a)).1:=Qd4 (de5 _ _ _);have hb:∀p,Y4 l p=bey l p:=λp=>Pd8 l p (by omega)
 have hg:∀p,G5 l p=true:=λp=>Pd9 l p (by omega)
 have hn:=C0 hk (show c<=4611686018427387904 by omega)
 have b1:inB (a:Int) l.length=true:=i6 ha;have b2:inB (c:Int) l.length=true:=i6 (by omega)
 have b3:inB (k:Int) l.length=true:=i6 (by omega)
 have hfl2:=Qc3 l s;unfold Db0;unfold mkf;generalize hT:A8 (gL tV l k) (gL tV l c) (gL tV l a)=T at *
 cases hO:fil l s with
 |nil =>
  show P7 Stp.next Stp.exit Stp.fail _ _=_;simp only[P7,lb0,Hb9,Int.toNat_natCast,o6,ha9,hT,hfl,hb,hg,hn,b1,b2,b3,cd8];rw[btD (o5 hk)];cases h2:T.2 with
  |false=>simp only[Qjh,if_false,hO];rfl
  |true =>
   simp only[if_true,w6];cases h3:Qb1 s T.1 with
   |true =>
    cases h4:Qb1 s (Z0 T.1) with
    |true=>simp only[Ib0,h3,h4,if_true,hO];rfl
    |false =>
     rw[md8 _ _ h4];cases h5:bey l (Z0 T.1)<;>(simp only[Ib0,h3,h4,h5,if_true,if_false,Qjh,lc0,hO];rfl)
   |false =>
    simp only[md8 _ _ h3,cd8];cases h5:bey l T.1<;>cases h4:Qb1 (s++[T.1]) (Z0 T.1)<;>(try simp only[md8 _ _ h4])<;>cases h6:bey l (Z0 T.1)<;>(simp only[Ib0,h3,h4,h5,h6,if_true,if_false,Qjh,lc0,hO];rfl)
 |cons q o =>
  have rr:(Nat.beq (q::o).length (len (bL tP (q::o)))&&Nat.ble (((q::o).length+1)*32) room)=true:=Yb8 rfl (by rw[<- hO];omega)
  have ap:∀(O:List Pln) (p:Pln),app (bL tP O) [[i p.n.x,i p.n.y,i p.n.z,i p.b]]=bL tP (O++[p]):=λO p=>bb2 tP O [p]
  have rr2:∀p:Pln,(Nat.beq ((q::o).length+1) (len (bL tP (q::o++[p])))&&Nat.ble (((q::o).length+1+1)*32) room)=true:=λp=>Yb8 (by simp) (by rw[<- hO,Qjc,List.length_singleton];omega)
  show P8 Stp.next Stp.exit Stp.fail _ _=_;simp only[P8,lb0,Hb9,Int.toNat_natCast,o6,ha9,hT,hfl,hb,hg,hn,b1,b2,b3,cd8,rr,ap,rr2];rw[btD (o5 hk)];cases h2:T.2 with
  |false=>simp only[Qjh,if_false,hO];rfl
  |true =>
   simp only[if_true,w6];cases h3:Qb1 s T.1 with
   |true =>
    cases h4:Qb1 s (Z0 T.1) with
    |true=>simp only[Ib0,h3,h4,if_true,hO];rfl
    |false =>
     rw[md8 _ _ h4];cases h5:bey l (Z0 T.1)<;>(simp only[Ib0,h3,h4,h5,if_true,if_false,Qjh,lc0,hO,td7,Qjc,List.length_singleton];rfl)
   |false =>
    simp only[md8 _ _ h3,cd8];cases h5:bey l T.1<;>cases h4:Qb1 (s++[T.1]) (Z0 T.1)<;>(try simp only[md8 _ _ h4])<;>cases h6:bey l (Z0 T.1)<;>(simp only[Ib0,h3,h4,h5,h6,if_true,if_false,Qjh,lc0,hO,td7,Qjc,List.length_singleton];rfl)
theorem te7 (l : List V3) (hl : l.length ≤ 48) (a c : Nat) (ha : a < l.length) (hc : c < a) (x1 x2 x3 x4 : Int) (s : List Pln) (ho : s.length ≤ 800000) :
  ∃j,lp (N9 ⟨(a:Int),(c:Int),x1,x2,x3,x4,(c:Int),l,l⟩) (mkf l 0 s)=(phP (fil l (G2 l a s c))+1,mkf l j (G2 l a s c)):=by
 have key:=R6 (step:=N9 ⟨(a:Int),(c:Int),x1,x2,x3,x4,(c:Int),l,l⟩) (mk:=mkf l) c (λj o=>j<=c/\o=(List.range j).foldl (Db0 l a c) s) (λt r=>t=phP (fil l (G2 l a s c))+1/\∃j:Nat,r=mkf l j (G2 l a s c)) (by omega)
  (λj o hj hi=>by
   obtain⟨_,hi⟩:=hi;have hlen:o.length<=900000:=by
    rw[hi]
    have:=uc4 (Ic0 l a c) s j
    omega
   rw[Qd6 l hl a c j ha hc hj x1 x2 x3 x4 o hlen];exact .nx ⟨_,rfl,by omega,by rw[G8,<- hi]⟩)
  (λj o hj hi=>by
   obtain⟨h1,hi⟩:=hi;have e:j=c:=by omega
   subst e;have hF:o=G2 l a s j:=hi;rw[<- hF];refine⟨_,?_,rfl,j,rfl⟩;unfold mkf;cases hO:fil l o with
   |nil =>
    show P7 Stp.next Stp.exit Stp.fail _ _=_;simp only[P7];rw[bfD (u9 (Qje _))];rfl
   |cons q o =>
    show P8 Stp.next Stp.exit Stp.fail _ _=_;simp only[P8];rw[bfD (u9 (Qje _))]
    rfl) 0 s ⟨Qji _,rfl⟩
 obtain⟨t,r,h1,rfl,j,rfl⟩:=key;exact⟨j,h1⟩
@[reducible] noncomputable def vc4(l:List V3)(k:Nat)(s:List Pln):u7:=⟨phP (fil l s),(k:Int),l,l,ab2 s,(fil l s).length,bL tP (fil l s)⟩
theorem te8 (l : List V3) (hl : l.length ≤ 48) (a : Nat) (ha : a < l.length) (x1 x2 : Int) (s : List Pln) (ho : s.length ≤ 700000) :
  ∃j,lp (V7 ⟨(a:Int),x1,x2,(a:Int)⟩) (vc4 l 0 s)=(phP (fil l (G1 l s a))+1,vc4 l j (G1 l s a)):=by
 have key:=R6 (step:=V7 ⟨(a:Int),x1,x2,(a:Int)⟩) (mk:=vc4 l) a (λj o=>j<=a/\o=(List.range j).foldl (G2 l a) s) (λt r=>t=phP (fil l (G1 l s a))+1/\∃j:Nat,r=vc4 l j (G1 l s a)) (by omega)
  (λj o hj hi=>by
   obtain⟨hja,hi⟩:=hi;have hlen:o.length<=800000:=by rw[hi];have:=md9 l a s j hja (by omega);omega
   have hn:=C0 hj (show a<=4611686018427387904 by omega)
   have bj:inB (j:Int) (l.length+1)=true:=i6 (by omega)
   obtain⟨j',e1⟩:=te7 l hl a j ha hj x1 x2 (a:Int) (j:Int) o hlen
   have fin : ∀ {r : u7}, r = vc4 l (j + 1) (G2 l a o j) → Nx (.next r) (fun t => t = phP (fil l (G1 l s a)) + 1 ∧ ∃ j' : Nat, vc4 l j o = vc4 l j' (G1 l s a))
     (λr=>∃o',r=vc4 l (j+1) o'/\(j+1<=a/\o'=(List.range (j+1)).foldl (G2 l a) s)):=λ{r} hs =>
    .nx ⟨_,hs,by omega,by rw[G8,<- hi]⟩
   clear hi
   generalize hF:G2 l a o j=R at *
   unfold vc4 at *
   unfold mkf at e1;cases hO:fil l o with
   |nil =>
    rw[hO] at e1 fin;show Nx (P9 Stp.next Stp.exit Stp.fail _ _) _ _;simp only[P9,o6,l9,hn,bj,Int.toNat_natCast,Nat.sub_zero];have e1:lp (N9 ⟨(a:Int),(j:Int),x1,x2,(a:Int),(j:Int),(j:Int),l,l⟩) ⟨0,0,ab2 o,0,[]⟩=_:=e1;rw[btD (o5 hj),e1];cases hR:fil l R with
    |nil=>exact fin (by rw[hR];rfl)
    |cons q R'=>exact fin (by rw[hR];rfl)
   |cons q o' =>
    rw[hO] at e1 fin;show Nx (Q0 Stp.next Stp.exit Stp.fail _ _) _ _;simp only[Q0,o6,l9,hn,bj,Int.toNat_natCast,Nat.sub_zero];have e1:lp (N9 ⟨(a:Int),(j:Int),x1,x2,(a:Int),(j:Int),(j:Int),l,l⟩) ⟨1,0,ab2 o,(q::o').length,bL tP (q::o')⟩=_:=e1;rw[btD (o5 hj),e1];cases hR:fil l R with
    |nil=>exact fin (by rw[hR];rfl)
    |cons q R'=>exact fin (by rw[hR];rfl))
  (λj o hj hi=>by
   obtain⟨h1,hi⟩:=hi;have e:j=a:=by omega
   subst e;have hF:o=G1 l s j:=hi;rw[<- hF];refine⟨_,?_,rfl,j,rfl⟩;unfold vc4;cases hO:fil l o with
   |nil =>
    show P9 Stp.next Stp.exit Stp.fail _ _=_;simp only[P9];rw[bfD (u9 (Qje _))];rfl
   |cons q o =>
    show Q0 Stp.next Stp.exit Stp.fail _ _=_;simp only[Q0];rw[bfD (u9 (Qje _))]
    rfl) 0 s ⟨Qji _,rfl⟩
 obtain⟨t,r,h1,rfl,j,rfl⟩:=key;exact⟨j,h1⟩
@[reducible] noncomputable def Qc5(l:List V3)(k:Nat)(s:List Pln):z8:=⟨phP (fil l s),(k:Int),l,l,ab2 s,(fil l s).length,bL tP (fil l s)⟩
theorem te9 (l : List V3) (hl : l.length ≤ 48) :
  ∃j,lp (wa2 ⟨(l.length:Int)⟩) ⟨0,0,l,l,[],0,[]⟩=(phP (fil l (G0 l))+1,Qc5 l j (G0 l)):=by
 have key:=R6 (step:=wa2 ⟨(l.length:Int)⟩) (mk:=Qc5 l) l.length (λj o=>j<=l.length/\o=(List.range j).foldl (G1 l) []) (λt r=>t=phP (fil l (G0 l))+1/\∃j:Nat,r=Qc5 l j (G0 l)) (by omega)
  (λj o hj hi=>by
   obtain⟨hja,hi⟩:=hi;have hlen:o.length<=700000:=by rw[hi];have:=Qc4 l hl j hja;omega
   have hn:=C0 hj (show l.length<=4611686018427387904 by omega)
   have bj:inB (j:Int) (l.length+1)=true:=i6 (by omega)
   obtain⟨j',e1⟩:=te8 l hl j hj (l.length:Int) (j:Int) o hlen
   have fin : ∀ {r : z8}, r = Qc5 l (j + 1) (G1 l o j) → Nx (.next r) (fun t => t = phP (fil l (G0 l)) + 1 ∧ ∃ j' : Nat, Qc5 l j o = Qc5 l j' (G0 l))
     (λr=>∃o',r=Qc5 l (j+1) o'/\(j+1<=l.length/\o'=(List.range (j+1)).foldl (G1 l) [])):=λ{r} hs =>
    .nx ⟨_,hs,by omega,by rw[G8,<- hi]⟩
   clear hi
   generalize hF:G1 l o j=R at *
   unfold Qc5 at *
   unfold vc4 at e1;cases hO:fil l o with
   |nil =>
    rw[hO] at e1 fin;show Nx (Q1 Stp.next Stp.exit Stp.fail _ _) _ _;simp only[Q1,o6,l9,hn,bj,Int.toNat_natCast,Nat.sub_zero];have e1:lp (V7 ⟨(j:Int),(l.length:Int),(j:Int),(j:Int)⟩) ⟨0,0,l,l,ab2 o,0,[]⟩=_:=e1;rw[btD (o5 hj),e1];cases hR:fil l R with
    |nil=>exact fin (by rw[hR];rfl)
    |cons q R'=>exact fin (by rw[hR];rfl)
   |cons q o' =>
    rw[hO] at e1 fin;show Nx (Q3 Stp.next Stp.exit Stp.fail _ _) _ _;simp only[Q3,o6,l9,hn,bj,Int.toNat_natCast,Nat.sub_zero];have e1:lp (V7 ⟨(j:Int),(l.length:Int),(j:Int),(j:Int)⟩) ⟨1,0,l,l,ab2 o,(q::o').length,bL tP (q::o')⟩=_:=e1;rw[btD (o5 hj),e1];cases hR:fil l R with
    |nil=>exact fin (by rw[hR];rfl)
    |cons q R'=>exact fin (by rw[hR];rfl))
  (λj o hj hi=>by
   obtain⟨h1,hi⟩:=hi;have e:j=l.length:=by omega
   subst e;have hF:o=G0 l:=hi;rw[<- hF];refine⟨_,?_,rfl,l.length,rfl⟩;unfold Qc5;cases hO:fil l o with
   |nil =>
    show Q1 Stp.next Stp.exit Stp.fail _ _=_;simp only[Q1];rw[bfD (u9 (Qje _))];rfl
   |cons q o =>
    show Q3 Stp.next Stp.exit Stp.fail _ _=_;simp only[Q3];rw[bfD (u9 (Qje _))]
    rfl) 0 [] ⟨Qji _,rfl⟩
 obtain⟨t,r,h1,rfl,j,rfl⟩:=key;exact⟨j,h1⟩
theorem nd0{F:List Pln}(h:∀p∈F,okp p=true){k:Nat}(hk:k<F.length):Bd (gL tP F k):=Hb8 (h _ (Ba8 tP hk))
theorem fe2{n:V3}{r:Pln}(hn:Sm 42467328 n.x/\Sm 42467328 n.y/\Sm 42467328 n.z)(hr:Bd r):w9 n r.n=dot n r.n:=by
 obtain⟨⟨a1,a2⟩,⟨a3,a4⟩,a5,a6⟩:=hn;have r1:=mb a1 a2 hr.x1 hr.x2;have r2:=mb a3 a4 hr.y1 hr.y2;have r3:=mb a5 a6 hr.z1 hr.z2;unfold w9;simp only[Hb4,Vb8];rw[aa0 (by omega) (by omega)]
 rfl
theorem fe3 (l : List Pln) (n : V3) (hn : Sm 42467328 n.x ∧ Sm 42467328 n.y ∧ Sm 42467328 n.z) (hF : ∀ p ∈ l, okp p = true) (hl : l.length ≤ 1000000000) :
  O5 ⟨l,n.x,n.y,n.z⟩=⟨1,if l.any (λr=>dot n r.n != 0) then ((l.findIdx (λr=>dot n r.n != 0):Nat):Int) else -1⟩:=by
 have h:=Oa4 (step:=C1 ⟨l,(l.length:Int),n.x,n.y,n.z⟩) (mk:=λj=>(⟨(j:Int)⟩:l6)) (c:=λr=>dot n r.n != 0) (u:=1) (fin:=2) tP l hl
  (λj hj=>by
   have e:=fe2 hn (nd0 hF hj);simp only[C1,A7,Int.toNat_natCast,La2,ca2,e,C0 hj (show l.length<=4611686018427387904 by omega)]
   rw[btD (o5 hj),bt (i6 hj)])
  (by simp only[C1,A7];rw[bfD (u9 (Qje _))]) 0 (Qji _)
 rw[Qjo] at h;unfold O5 B4;simp only[o6,l9];rw[show (⟨0⟩:l6)=⟨((0:Nat):Int)⟩ from rfl,h]
 split
 ·simp only[Qjf];rfl
 ·rfl
theorem fe4 (l : List Pln) (n : V3) (hn : Sm 42467328 n.x ∧ Sm 42467328 n.y ∧ Sm 42467328 n.z) (hF : ∀ p ∈ l, okp p = true) (hl : l.length ≤ 1000000000) :
  K1 ⟨l,n.x,n.y,n.z⟩=⟨1,l.any λr=>dot n r.n != 0⟩:=by
 unfold K1 s7;simp only[o6,l9,fe3 l n hn hF hl];split
 ·rename_i h;rw[h,show decide (((l.findIdx (λr=>dot n r.n != 0):Nat):Int)>=0)=true from decide_eq_true (by omega)];rfl
 ·rename_i h;rw[Qjak] at h;rw[h];rfl
noncomputable def Cd8(l:List Pln)(a c:Nat):Bool:=l.any λr=>dot (c7 (gL tP l a).n (gL tP l c).n) r.n != 0
noncomputable def vtx(l:List Pln):Bool:=(List.range l.length).any λa=>(List.range a).any (Cd8 l a)
theorem Cd9{p q:Pln}(hp:Bd p)(hq:Bd q):A3 p.n q.n=c7 p.n q.n/\Sm 42467328 (c7 p.n q.n).x/\Sm 42467328 (c7 p.n q.n).y/\Sm 42467328 (c7 p.n q.n).z:=by
 obtain⟨k1,k2,k3⟩:=tb9 hp.n hq.n;refine⟨?_,k1,k2,k3⟩;rw[ce1,ob5 (k1.mono (by omega)),ob5 (k2.mono (by omega)),ob5 (k3.mono (by omega))]
theorem nd1 (l : List Pln) (hF : ∀ p ∈ l, okp p = true) (hl : l.length ≤ 1000000) (a : Nat) (ha : a < l.length) (x9 x10 : Int) :
  ∃j,lp (Y6 ⟨l,l,x9,x10,a,(λk=>(λk=>tP.row (gL tP l k)) (0+k)),(a:Int),(gL tP l a).n.x,(gL tP l a).n.y,(gL tP l a).n.z,(gL tP l a).b⟩) ⟨0⟩=(if (List.range a).any (Cd8 l a) then 1 else 2,⟨((j:Nat):Int)⟩) :=
 uc3 (step:=Y6 ⟨l,l,x9,x10,a,(λk=>(λk=>tP.row (gL tP l k)) (0+k)),(a:Int),(gL tP l a).n.x,(gL tP l a).n.y,(gL tP l a).n.z,(gL tP l a).b⟩) (mk:=λj=>(⟨(j:Int)⟩:O0)) a (Cd8 l a) 1 2 (by omega)
  (λj hj=>by
   obtain⟨e,k1,k2,k3⟩:=Cd9 (nd0 hF ha) (nd0 hF (show j<l.length by omega))
   have rr:(⟨toI (hdA (tP.row (gL tP l j))),toI (hdA (tlA (tP.row (gL tP l j)))),toI (hdA (tlA (tlA (tP.row (gL tP l j)))))⟩:V3)=(gL tP l j).n:=rfl;have e':A3 ⟨(gL tP l a).n.x,(gL tP l a).n.y,(gL tP l a).n.z⟩ (gL tP l j).n=c7 (gL tP l a).n (gL tP l j).n:=e;simp only[Y6,da1,Int.toNat_natCast,Qjf,rr,e',re7,o6,l9,fe4 l _ ⟨k1,k2,k3⟩ hF (show l.length<=1000000000 by omega),C0 hj (show a<=4611686018427387904 by omega)]
   rw[btD (o5 hj),bt (i6 hj)];unfold Cd8;cases hz:((c7 (gL tP l a).n (gL tP l j).n).x==0&&((c7 (gL tP l a).n (gL tP l j).n).y==0&&((c7 (gL tP l a).n (gL tP l j).n).z==0&&true))) with
   |false=>rfl
   |true =>
    simp only[Qjv,Qjt,beq_iff_eq] at hz
    have:(l.any λr=>dot (c7 (gL tP l a).n (gL tP l j).n) r.n != 0)=false:=by
     rw[List.any_eq_false];intro r _
     have:dot (c7 (gL tP l a).n (gL tP l j).n) r.n=0:=by unfold dot;rw[hz.1,hz.2.1,hz.2.2];simp only[Qjah,Int.add_zero]
     rw[this]
     decide
    rw[this]
    rfl)
  (by simp only[Y6,da1];rw[bfD (u9 (Qje _))])
theorem Ic1(l:List Pln)(hF:∀p∈l,okp p=true)(hl:l.length<=1000000):ua6 l=some (b (vtx l),[]):=by
 obtain⟨j,h⟩:=uc3 (step:=Y7 ⟨(l.length:Int)⟩) (mk:=λj=>(⟨l,l,(j:Int)⟩:O1)) l.length (λa=>(List.range a).any (Cd8 l a)) 1 2 (by omega)
  (λj hj=>by
   obtain⟨j',h1⟩:=nd1 l hF hl j hj (l.length:Int) (j:Int);simp only[Y7,da2,o6,l9,Int.toNat_natCast,Nat.sub_zero,C0 hj (show l.length<=4611686018427387904 by omega)]
   rw[btD (o5 hj),bt (i6 hj),bt (i6 (show j<l.length+1 by omega)),h1]
   cases (List.range j).any (Cd8 l j)<;>rfl)
  (by simp only[Y7,da2];rw[bfD (u9 (Qje _))])
 have h:lp (Y7 ⟨(l.length:Int)⟩) ⟨l,l,0⟩=(if vtx l then 1 else 2,⟨l,l,((j:Nat):Int)⟩):=h
 unfold ua6;simp only[o6,l9];rw[h];cases vtx l<;>rfl
theorem dd0(l:List Pln)(hF:∀p∈l,okp p=true)(hl:l.length<=1000000):ma1 l=vtx l:=by unfold ma1;rw[Ic1 l hF hl];rfl
theorem dd1(l:List Pln)(hF:∀p∈l,okp p=true)(hl:l.length<=1000000):ma2 l=true:=by unfold ma2;rw[Ic1 l hF hl];rfl
theorem fe5(l:List Pln):vtx l=true↔∃p q s,p∈l/\q∈l/\s∈l/\mw p q s≠0:=by
 unfold vtx;rw[Qjb];constructor
 ·rintro⟨a,ha,h⟩;obtain⟨c,hc,h⟩:=Qjb.1 h;rw[Qjl] at ha hc;obtain⟨r,hr,h⟩:=Qjb.1 h;have h:dot (c7 (gL tP l a).n (gL tP l c).n) r.n≠0:=bne_iff_ne.1 h;exact⟨_,_,r,Ba8 tP ha,Ba8 tP (show c<l.length by omega),hr,λe=>h (by rw[<- e];simp only[mw,dot,c7];grind)⟩
 ·rintro⟨p,q,s,hp,hq,hs,hw⟩;obtain⟨i',hi,rfl⟩:=Qjs.1 hp;obtain⟨j',hj,rfl⟩:=Qjs.1 hq;have hne:i'≠j':=λe=>hw (by subst e;simp only[mw,dot,c7];grind)
  rw[<- nb4 tP hi,<- nb4 tP hj] at hw
  rcases Qjag hne with h|h
  ·refine⟨j',Qjl.2 hj,Qjb.2 ⟨i',Qjl.2 h,Qjb.2 ⟨s,hs,?_⟩⟩⟩
   have:dot (c7 (gL tP l j').n (gL tP l i').n) s.n≠0:=λe=>hw (by
    rw[show mw (gL tP l i') (gL tP l j') s=-dot (c7 (gL tP l j').n (gL tP l i').n) s.n from by simp only[mw,dot,c7];grind,e]
    rfl)
   exact bne_iff_ne.2 this
  ·refine⟨i',Qjl.2 hi,Qjb.2 ⟨j',Qjl.2 h,Qjb.2 ⟨s,hs,?_⟩⟩⟩
   have:dot (c7 (gL tP l i').n (gL tP l j').n) s.n≠0:=λe=>hw (by rw[<- e];simp only[mw,dot,c7];grind)
   exact bne_iff_ne.2 this
structure OkF(F:List Pln):Prop where
 l:F.length<=1000000
 v:∀p∈F,okp p=true
noncomputable def own(F:List Pln)(v:V3):List Pln:=F.filter λp=>Q5 p v==0
noncomputable def kv(F:List Pln)(v:V3):Bool:=vtx (own F v)
theorem Dd0(F:List Pln)(v:V3)(hF:F.length<=1000000):∃j,lp (fa5 ⟨F,(F.length:Int),F,v.x,v.y,v.z⟩) ⟨0,0,0,[]⟩=(phP (own F v)+1,⟨phP (own F v),((j:Nat):Int),(own F v).length,bL tP (own F v)⟩):=by
 have key:=R6 (step:=fa5 ⟨F,(F.length:Int),F,v.x,v.y,v.z⟩) (mk:=λj (o:List Pln)=>(⟨phP o,(j:Int),o.length,bL tP o⟩:l5)) F.length (λj o=>j<=F.length/\o=(F.take j).filter λp=>Q5 p v==0) (λt s=>t=phP (own F v)+1/\∃j:Nat,s=⟨phP (own F v),(j:Int),(own F v).length,bL tP (own F v)⟩) (by omega)
  (λj o hj hi=>by
   obtain⟨_,hi⟩:=hi;have hlen:o.length<=1000000:=by
    rw[hi];have h1:=Qjam (λp=>Q5 p v==0) (F.take j)
    have h2:=List.length_take_le j F;omega
   have hn:=C0 hj (show F.length<=4611686018427387904 by omega)
   have hb:=i6 hj;have hT:(F.take (j+1)).filter (λp=>Q5 p v==0)=o++(if (Q5 (gL tP F j) v==0)=true then [gL tP F j] else []):=by
    rw[Oa8 tP hj,Qjy,<- hi,Qju,List.filter_nil]
   have hnext : ∀ {s : l5} {o' : List Pln}, o' = (F.take (j + 1)).filter (fun p => Q5 p v == 0) → s = ⟨phP o', ((j + 1 : Nat) : Int), o'.length, bL tP o'⟩ → Nx (.next s) (fun t => t = phP (own F v) + 1 ∧ ∃ j' : Nat, (⟨phP o, (j : Int), o.length, bL tP o⟩ : l5) = ⟨phP (own F v), (j' : Int), (own F v).length, bL tP (own F v)⟩)
     (λs=>∃o',s=(⟨phP o',((j+1:Nat):Int),o'.length,bL tP o'⟩:l5)/\(j+1<=F.length/\o'=(F.take (j+1)).filter λp=>Q5 p v==0)):=λ{s o'} ho' hs=>.nx ⟨o',hs,by omega,ho'⟩
   clear hi
   cases o with
   |nil =>
    show Nx (F6 Stp.next Stp.exit Stp.fail _ _) _ _;simp only[F6,Int.toNat_natCast,kb9,Oa9,hn,hb];rw[btD (o5 hj)];cases hs:Q5 (gL tP F j) v==0 with
    |true=>exact hnext (o':=[gL tP F j]) (by rw[hT,hs];rfl) rfl
    |false=>exact hnext (o':=[]) (by rw[hT,hs];rfl) rfl
   |cons q o =>
    have rr:(Nat.beq (q::o).length (len (bL tP (q::o)))&&Nat.ble (((q::o).length+1)*32) room)=true:=Yb8 rfl (by omega)
    have ap:∀(O:List Pln) (p:Pln),app (bL tP O) [[i p.n.x,i p.n.y,i p.n.z,i p.b]]=bL tP (O++[p]):=λO p=>bb2 tP O [p]
    show Nx (F7 Stp.next Stp.exit Stp.fail _ _) _ _;simp only[F7,Int.toNat_natCast,kb9,Oa9,hn,hb,rr,ap];rw[btD (o5 hj)];cases hs:Q5 (gL tP F j) v==0 with
    |true=>exact hnext (o':=q::o++[gL tP F j]) (by rw[hT,hs];rfl) (by rw[Qjc];rfl)
    |false=>exact hnext (o':=q::o) (by rw[hT,hs,if_neg (by simp),Qjq]) rfl)
  (λj o hj hi=>by
   obtain⟨h1,hi⟩:=hi;have e:j=F.length:=by omega
   subst e;have hO:o=own F v:=by rw[hi,List.take_length];rfl
   rw[<- hO];cases o with
   |nil =>
    refine⟨1,?_,rfl,F.length,rfl⟩;show F6 Stp.next Stp.exit Stp.fail _ _=_;simp only[F6];rw[bfD (u9 (Qje _))]
   |cons q o =>
    refine⟨2,?_,rfl,F.length,rfl⟩;show F7 Stp.next Stp.exit Stp.fail _ _=_;simp only[F7];rw[bfD (u9 (Qje _))]) 0 [] ⟨Qji _,by simp⟩
 obtain⟨t,s,h1,rfl,j,rfl⟩:=key;exact⟨j,h1⟩
theorem Qc6(v:V3)(F:List Pln)(hF:OkF F):Q4 ⟨v.x,v.y,v.z,F⟩=⟨1,!kv F v,F⟩:=by
 obtain⟨j,h⟩:=Dd0 F v hF.l;have hv:∀p∈own F v,okp p=true:=λp hp=>hF.v p (Qjz.1 hp).1
 have hl:(own F v).length<=1000000:=Nat.le_trans (Qjam _ _) hF.l;unfold Q4 Y8 kv;simp only[o6,l9];rw[h];cases ho:own F v with
 |nil =>
  have e:ma1 []=vtx []:=dd0 [] (λp hp=>by cases hp) (by simp)
  have e':ma2 []=true:=dd1 [] (λp hp=>by cases hp) (by simp)
  rw[e,e'];rfl
 |cons q o =>
  rw[ho] at hv hl;simp only[Gb3,Tb2,dd0 _ hv hl,dd1 _ hv hl];rfl
theorem ke8{α:Type}{l:List α}{n:Nat}{c:α->Bool}(h:(l.take n).any c=true):(l.take n).findIdx c<(l.take n).length:=by
 rw[Qjb] at h;obtain⟨p,hp,hc⟩:=h;exact Qjal ⟨p,hp,hc⟩
theorem fe6(l:List V3)(n:Nat)(X:List Pln)(hn:n<=l.length)(hl:l.length<=1000000000)(hX:OkF X):U4 ⟨n,bL tV l,X⟩=⟨1,if (l.take n).any (λp=>!kv X p) then (((l.take n).findIdx (λp=>!kv X p):Nat):Int) else -1,X⟩:=by
 have hlen:(l.take n).length=n:=by rw[Qjd];omega
 have h:=Oa4 (step:=F8 ⟨n,(n:Int),bL tV l⟩) (mk:=λj=>(⟨(j:Int),X⟩:o0)) (c:=λp=>!kv X p) (u:=1) (fin:=2) tV (l.take n) (by omega)
  (λj hj=>by
   rw[hlen] at hj;have hj':j<l.length:=by omega
   simp only[F8,D2,Int.toNat_natCast,o6,l9,uc8 hj',Yb5 hj',Qc6 _ _ hX,vc0 tV l hj,C0 hj (show n<=4611686018427387904 by omega)]
   rw[btD (o5 hj),bt (i6 hj)]
   rfl)
  (by rw[hlen];simp only[F8,D2];rw[bfD (u9 (Qje _))]) 0 (Qji _)
 rw[Qjo,hlen] at h;unfold U4 E1;simp only[o6,l9];rw[show (⟨0,X⟩:o0)=⟨((0:Nat):Int),X⟩ from rfl,h]
 cases ha:(l.take n).any λp=>!kv X p with
 |false=>rfl
 |true =>
  have hf:=ke8 ha;rw[hlen] at hf;simp only[if_true,Qjf,Int.toNat_natCast,Yb5 (show (l.take n).findIdx (λp=>!kv X p)<l.length by omega),Qc6 _ _ hX,o6]
  rfl
structure fe7(l:List V3)(n:Nat)(f:V3->Bool)(cur:List V3)(m j:Nat):Prop where
 len:cur.length=l.length
 t:cur.take m=(l.take j).filter f
 d:cur.drop j=l.drop j
 le:m<=j
 lm:m<=n
theorem Qc7 (l : List V3) (n : Nat) (hnl : n ≤ l.length) (X : List Pln) (hl : l.length ≤ 1000000000) (hX : OkF X) (m j : Nat) (cur : List V3) (hd : fe7 l n (kv X) cur m j) (hjn : j ≤ n) :
  ∃t s,lp (A0 ⟨n⟩) ⟨(m:Int),(j:Int),bL tV cur,X⟩=(t,s)/\(t=1/\∃m' cur',s=⟨((m':Nat):Int),((n:Nat):Int),bL tV cur',X⟩/\fe7 l n (kv X) cur' m' n):=by
 refine R6 (step:=A0 ⟨n⟩) (mk:=λj (x:Nat×List V3)=>(⟨(x.1:Int),(j:Int),bL tV x.2,X⟩:p9)) n (λj x=>fe7 l n (kv X) x.2 x.1 j/\j<=n) (λt s=>t=1/\∃m' cur',s=⟨((m':Nat):Int),((n:Nat):Int),bL tV cur',X⟩/\fe7 l n (kv X) cur' m' n) (by omega) (λj x hj hx=>?_) (λj x hj hx=>?_) j (m,cur) ⟨hd,hjn⟩
 ·obtain⟨m,cur⟩:=x;obtain⟨⟨h1,h2,h3,h4,h5⟩,_⟩:=hx
  simp only at h1 h2 h3 h4 h5
  have hjc:j<cur.length:=by omega
  have hmc:m<cur.length:=by omega
  have hg:gL tV cur j=gL tV l j:=Xb8 tV h3;have hWm:W ((m:Int)+1)=((m+1:Nat):Int):=by rw[aa0 (by omega) (by omega)];omega
  have hb:Nat.blt m cur.length=true:=by rw[Nat.blt_eq];exact hmc
  have hrow:i8 (bL tV cur) m=tV.row (gL tV cur m):=N6 tV hmc;have sp:∀(v:V3) (x1 x2 x3:Int),O2 (tV.row v) 0 [i x1,i x2,i x3]=tV.row ⟨x1,x2,x3⟩:=λ_ _ _ _=>rfl
  have rl:∀v:V3,Nat.ble (0+3) (len (tV.row v))=true:=λ_=>rfl
  simp only[A0,D4,Int.toNat_natCast,o6,l9,uc8 hjc,Yb5 hjc,Qc6 _ _ hX,C0 hj (show n<=4611686018427387904 by omega),hWm]
  rw[btD (o5 hj),bt (i6 hj)];simp only[Qjf,hrow,Aa2,hb,sp,Ia4,i6 (show m<n by omega),hg]
  have ht:=Oa8 tV (show j<l.length by omega)
  have hd1:cur.drop (j+1)=l.drop (j+1):=Pb3 h3 1;cases hk:kv X (gL tV l j) with
  |true =>
   refine .nx ⟨(m+1,cur.set m (gL tV l j)),rfl,⟨by rw[Qjw];exact h1,?_,?_,by omega,by show m+1<=n;omega⟩,by omega⟩
   ·show (cur.set m (gL tV l j)).take (m+1)=_;rw[ht,Qjy,Qjaj (by rw[Qjw];exact hmc),Qjaw,List.take_set_of_le (Qjm _),h2,Qju,hk,if_pos rfl,List.filter_nil]
   ·show (cur.set m (gL tV l j)).drop (j+1)=_;rw[List.drop_set_of_lt (by omega),hd1]
  |false =>
   refine .nx ⟨(m,cur),rfl,⟨h1,?_,hd1,by omega,h5⟩,by omega⟩
   show cur.take m=_;rw[ht,Qjy,h2,Qju,hk,if_neg (by simp),List.filter_nil,Qjq]
 ·obtain⟨m,cur⟩:=x;obtain⟨hx,hjn⟩:=hx;have e:j=n:=by omega
  subst e;refine⟨1,?_,rfl,m,cur,rfl,hx⟩;simp only[A0,D4];rw[bfD (by omega)]
theorem nd2 (l : List V3) (n : Nat) (hnl : n ≤ l.length) (X : List Pln) (hl : l.length ≤ 1000000000) (hX : OkF X) :
  ∃m r,U7 ⟨n,bL tV l,X⟩=⟨1,m,bL tV r,X⟩/\m<=r.length/\r.take m=(l.take n).filter (kv X):=by
 have hlen:(l.take n).length=n:=by rw[Qjd];omega
 unfold U7 E2;simp only[o6,l9,fe6 l n X hnl hl hX];cases ha:(l.take n).any λp=>!kv X p with
 |false =>
  refine⟨n,l,rfl,hnl,?_⟩
  symm
  rw[List.filter_eq_self];intro p hp
  have:=List.any_eq_false.1 ha p hp
  simpa using this
 |true =>
  have hf:=ke8 ha;have hk:kv X (gL tV (l.take n) ((l.take n).findIdx λp=>!kv X p))=false:=by
   have:=Qjac (xs:=l.take n) (p:=λp=>!kv X p) (w:=hf)
   rw[nb4 tV hf];simpa using this
  have ht:=Pb2 (λp=>!kv X p) (l.take n)
  simp only[Bool.not_not] at ht;generalize hF:(l.take n).findIdx (λp=>!kv X p)=F at *
  rw[hlen] at hf;rw[vc0 tV l hf] at hk;rw[Qjax,Nat.min_eq_left (by omega)] at ht
  have hW:W ((F:Int)+1)=((F+1:Nat):Int):=C0 hf (by omega)
  have hne:((F:Int)==-1)=false:=by rw[beq_eq_false_iff_ne];omega
  obtain⟨t,s,e1,rfl,m,cur,e2,e3⟩:=Qc7 l n hnl X hl hX F (F+1) l ⟨rfl,by rw[Oa8 tV (show F<l.length by omega),Qjy,ht,Qju,hk,if_neg (by simp),List.filter_nil,Qjq],rfl,by omega,by omega⟩ (by omega)
  have hm:m<=n:=e3.lm;have hin:inB (m:Int) (n+1)=true:=i6 (by omega)
  simp only[if_true,hW,hne,e1,e2,Int.toNat_natCast,hin,Qjf,Nat.sub_zero];refine⟨m,cur.take m++(List.replicate (n-m) ⟨0,0,0⟩++cur.drop (m+(n-m))),?_,?_,?_⟩
  ·rw[cd2,cd3,uc9,bb2,bb2];rfl
  ·rw[Qjc,Qjc,Qjd,Qjay,e3.len];omega
  ·rw[Qjaa (by rw[Qjd,e3.len];omega),Qjax,Nat.min_self,e3.t]
noncomputable def na2(F:List Pln)(l:List V3):List V3:=(dis l).filter (kv F)
theorem Qc8(a:V3)(l:List V3)(hl:l.length<=1000000):∃m r,sa7 (a,l)=⟨1,m,bL tV r⟩/\m<=r.length/\r.take m=dis (a::l)/\r.length<=1000000000:=by
 obtain⟨m,r,k1,k2,k3,k4⟩:=Qb6 a l hl;have hok:okL tV (l.length+1) (λk=>tV.row (gL tV (a::l) k))=true:=bb1 tV (f:=λk=>gL tV (a::l) k) λ_ _=>rfl
 have hr:=cd5 (a::l) (by simp only[List.length_cons];omega) []
 rw[Qjq] at hr;unfold sa7 Y9;simp only[qd2,qd3,Hc5 a l hl,hok,k1,w6,Qjab,hr];exact⟨m,r,rfl,k2,k3,by omega⟩
end Go.Ev.Ce
namespace Go.Ev.Ce
open Go Go.Ev Go.Ev.L Go.Proofs Go.Sort
theorem Dd1(l:List V3)(a c k:Nat)(s:List Pln)(p:Pln):p∈Db0 l a c s k↔p∈s\/((A8 (gL tV l k) (gL tV l c) (gL tV l a)).2=true/\(p=(A8 (gL tV l k) (gL tV l c) (gL tV l a)).1\/p=Z0 (A8 (gL tV l k) (gL tV l c) (gL tV l a)).1)):=by
 unfold Db0;generalize A8 (gL tV l k) (gL tV l c) (gL tV l a)=T;cases h2:T.2 with
 |false=>simp
 |true=>simp only[if_true,Qd5,true_and,or_assoc]
theorem ue0(l:List V3)(p:Pln):p∈G0 l↔∃a,a<l.length/\∃c,c<a/\∃k,k<c/\((A8 (gL tV l k) (gL tV l c) (gL tV l a)).2=true/\(p=(A8 (gL tV l k) (gL tV l c) (gL tV l a)).1\/p=Z0 (A8 (gL tV l k) (gL tV l c) (gL tV l a)).1)):=by
 have h:p∈G0 l↔p∈[]\/_:=Va9 (λo a p=>Va9 (λo c p=>Va9 (λo k p=>Dd1 l a c k o p) o p c) o p a) [] p l.length
 rw[h];simp only[List.not_mem_nil,false_or]
theorem Qc9{f:List Pln->Nat->List Pln}(h:∀o k,o.Nodup->(f o k).Nodup){o:List Pln}(ho:o.Nodup):∀n,((List.range n).foldl f o).Nodup
 |0=>ho
 |n+1=>by rw[G8];exact h _ _ (Qc9 h ho n)
theorem Qd7(l:List V3):(G0 l).Nodup:=Qc9 (λo a ho=>Qc9 (λo c ho=>Qc9 (λo k ho=>by
 show (Db0 l a c o k).Nodup;unfold Db0;split
 ·exact vc3 (vc3 ho)
 ·exact ho) ho c) ho a) List.nodup_nil l.length
theorem fe8{l:List V3}(hl:l.all inV=true)(p:Pln):p∈fil l (G0 l)↔Ca2 l p:=by
 have hin:=Qja.1 hl;have hb:(!bey l p)=hold p l:=rfl;unfold fil;rw[Qjz,ue0,hb];constructor
 ·rintro⟨⟨a,ha,c,hc,k,hk,h1,h2⟩,h3⟩;have ma:=gLm ha;have mc:=gLm (show c<l.length by omega)
  have mk:=gLm (show k<l.length by omega)
  have ht:=(da4 h1).2
  rcases h2 with rfl|rfl
  ·exact kc9 mk mc ma ht ((hb6 ht.ok hl).1 h3)
  ·exact Qb4 mk mc ma ht ((hb6 (Qb0 ht.ok) hl).1 h3)
 ·intro h;obtain⟨u,w,x,hu,hw,hx,h3,t1,t2,t3⟩:=h.on;obtain⟨a,ha,c,hc,k,hk,hn,hall⟩:=ee1 hu hw hx h3;obtain⟨i1,i2,i3⟩:=hall (λv=>inV v=true) (hin u hu) (hin w hw) (hin x hx)
  obtain⟨e1,e2,e3⟩:=hall (λv=>dot p.n v=p.b) t1 t2 t3
  have h2:=va0 i3 i2 i1 (Pd3 hn).2.2.1;exact⟨⟨a,ha,c,hc,k,hk,h2,ub7 (da4 h2).2 h.ok e3 e2 e1⟩,(hb6 h.ok hl).2 h.hd⟩
theorem Ic2{l r:List V3}(h:∀v,v∈r↔v∈l){p:Pln}(hp:Ca2 l p):Ca2 r p:=by
 obtain⟨⟨hd,u,w,x,hu,hw,hx,e⟩,ok⟩:=hp;exact⟨⟨λv hv=>hd v ((h v).1 hv),u,w,x,(h u).2 hu,(h w).2 hw,(h x).2 hx,e⟩,ok⟩
theorem nd3{l:List Pln}(h:l.Nodup):Ja3 (Bb2 l):=by
 have h1:=Pc4 l;have h2:(Bb2 l).Nodup:=(uc0 l).nodup_iff.2 h;have h3:=h1.and h2;refine h3.imp λ{x y} ⟨k1,k2⟩=>?_
 rw[Ea9] at k1;have k1:¬ LtP y x:=by simpa using k1
 rcases sd5 x y with h|h|h
 ·exact h
 ·exact absurd h k2
 ·exact absurd h k1
theorem fe9{l:List V3}(hl:l.all inV=true):(dis l).all inV=true:=Qja.2 λv hv=>Qja.1 hl v ((yb3 l v).1 hv)
theorem dd2{l:List V3}(hl:l.all inV=true):Bb2 (fil (dis l) (G0 (dis l)))=F0 l:=by
 refine Yb1 (nd3 ((Qd7 (dis l)).filter _)) (Yb2 l) λp=>?_
 rw[(uc0 _).mem_iff,fe8 (fe9 hl),B7 hl];exact⟨Ic2 λv=>(yb3 l v).symm,Ic2 (yb3 l)⟩
theorem ke9{l:List V3}(hl:l.all inV=true)(h4:Sol l):F0 l≠[]:=λe=>by
 have h:=yb2 h4 (td2 hl (c:=[]) λp hp=>by rw[<- B7 hl,e] at hp;exact hp) (x:=⟨100,0,0,1⟩) ⟨by show (0:Int)<1;omega,λp hp=>by cases hp⟩ (h:=⟨⟨1,0,0⟩,24⟩) λv hv=>by
  obtain⟨⟨a1,a2⟩,_,_⟩:=(sa8 v).1 (Qja.1 hl v hv);simp only[dot];omega
 simp only[rmZ] at h;omega
theorem hb7{l:List V3}(h48:l.length<=48)(hl:l.all inV=true)(h4:Sol l):aa6 l=0:=by
 have hin:=Qja.1 hl;unfold aa6;rw[if_neg (by omega),if_neg (by rw[<- List.not_all_eq_any_not,hl];simp)]
 have h1:(ixs l.length).any (sp1 l)=true:=by
  obtain⟨a,c,k,v,ha,hc,hk,hv,hd⟩:=h4;obtain⟨i',hi,j',hj,k',hk',hn,hall⟩:=ee1 ha hc hk (uc6 hd);obtain⟨i1,i2,i3⟩:=hall (λv=>inV v=true) (hin _ ha) (hin _ hc) (hin _ hk)
  have ht:=va0 i3 i2 i1 (Pd3 hn).2.2.1;have mem:∀{n m:Nat},m<n->((m:Nat):Int)∈ixs n:=λ{n m} h=>Qjp.2 ⟨m,Qjl.2 h,rfl⟩
  refine Qjb.2 ⟨_,mem hi,?_⟩;unfold sp1;rw[Int.toNat_natCast];refine Qjb.2 ⟨_,mem hj,?_⟩;unfold sp2;rw[Int.toNat_natCast];refine Qjb.2 ⟨gL tV l k',?_,ht⟩;rw[<- vc0 tV l hk'];exact Ba8 tV (by rw[Qjd];omega)
 have h2:Cb9 l=false:=by
  unfold Cb9;rw[if_pos h1];obtain⟨hi,k1⟩:=yb4 h1;have k1:(ixs (iF l)).any (sp2 l (iF l))=true:=k1;obtain⟨hj,k2⟩:=yb4 k1;have k2:(l.take (jF l)).any (λv=>(A8 v (gL tV l (jF l)) (gL tV l (iF l))).2)=true:=k2
  have hj:jF l<iF l:=hj;have hi:iF l<l.length:=hi;have hk:=Qc1 k2;have hk2:=Qjac (xs:=l.take (jF l)) (p:=λv=>(A8 v (gL tV l (jF l)) (gL tV l (iF l))).2) (w:=hk)
  rw[<- nb4 tV hk,vc0 tV l (by rw[Qjd] at hk;omega)] at hk2
  have hok:okp (plF l)=true:=(da4 hk2).2.ok;obtain⟨v,hv,hne⟩:=h4.off (ab1 hok) (plF l).b;rw[Bool.not_eq_false',Qjb];refine⟨v,hv,?_⟩
  have:Q5 (plF l) v≠0:=λe=>hne ((hb5 hok (hin v hv)).1 e)
  simpa using this
 rw[h2];rfl
theorem ge0(l r:List Pln)(n:Nat)(hn:n=l.length):(two (r1L tP) r1I).rd (.tup [.sl 0 0 n 0,i 0],[⟨60,4,bL tP (l++r),true,false,0⟩])=some (l,0):=by
 subst hn;have h:(r1L tP).rd [⟨60,4,bL tP (l++r),true,false,0⟩] (.sl 0 0 l.length 0)=some l:=by
  show Bool.rec (motive:=λ_=>Option (List Pln)) none (some (slR tP (bL tP (l++r)) 0 l.length)) (Bool.and true (okS tP (bL tP (l++r)) 0 l.length))=_
  rw[Nd2 _ _ (by rw[Qjc];omega),Nd3 _ _ (by rw[Qjc];omega),List.take_left']
  ·rfl
  ·rfl
 simp only[two,h];rfl
theorem Dd2(a:V3)(l:List V3)(h48:(a::l).length<=48)(hl:(a::l).all inV=true)(h4:Sol (a::l)):Rd (two (r1L tP) r1I) (ja0 (a,l)) (λr=>r=(F0 (a::l),0)):=by
 have hc:=hb7 h48 hl h4;have hdl:=Qc0 (a::l);have hll:l.length<=1000000:=by simp only[List.length_cons] at h48;omega
 obtain⟨j,e⟩:=te9 (dis (a::l)) (by omega)
 have hf:=dd2 hl;have hne:fil (dis (a::l)) (G0 (dis (a::l)))≠[]:=λe=>by
  rw[e] at hf;have h0:Bb2 []=[]:=Bd9;rw[h0] at hf;exact ke9 hl h4 hf.symm
 have hok:okL tV (l.length+1) (λk=>tV.row (gL tV (a::l) k))=true:=bb1 tV (f:=λk=>gL tV (a::l) k) λ_ _=>rfl
 have hlen:(fil (dis (a::l)) (G0 (dis (a::l)))).length<=1000000:=by
  have h1:=Qc3 (dis (a::l)) (G0 (dis (a::l)));have h2:(G0 (dis (a::l))).length<=_:=Qc4 (dis (a::l)) (by omega) _ (Qjm _)
  omega
 unfold ja0;simp only[o6,ha9,l9,qd2,qd3,hok,vc2 (a::l) (by omega),vc1 (a::l) (by omega),hc,md6 a l hll,md7 a l hll,e]
 generalize fil (dis (a::l)) (G0 (dis (a::l)))=O at *
 cases O with
 |nil=>exact absurd rfl hne
 |cons q o =>
  have hr:(Bool.and (Nat.ble (q::o).length room) (Bool.and (Nat.ble (q::o).length (len (bL tP (q::o)))) (okS tP (bL tP (q::o)) 0 (q::o).length)))=true:=by
   rw[Tb2,Aa2,Qjt,Qjt,Qjar,Qjar];refine⟨by unfold room;omega,Qjm _,rfl⟩
  simp only[phP,hr,Gb3,de1,bb2,hf];exact⟨_,(F0 (a::l),0),rfl,ge0 _ _ _ (by rw[<- hf,xb9]),rfl⟩
theorem Qd8{l:List V3}(hl:l.all inV=true){v:V3}(hv:v∈l):kv (F0 l) v=true↔Spn (F0 l) v:=by
 have hin:=Qja.1 hl;have hs:∀p∈F0 l,(Q5 p v==0)=true↔dot p.n v=p.b:=λp hp=>by rw[beq_iff_eq];exact hb5 (Pd2 hp).ok (hin v hv)
 unfold kv own;rw[fe5];constructor
 ·rintro⟨p,q,s,hp,hq,hs',hw⟩;rw[Qjz] at hp hq hs';exact⟨p,q,s,hp.1,hq.1,hs'.1,hw,(hs p hp.1).1 hp.2,(hs q hq.1).1 hq.2,(hs s hs'.1).1 hs'.2⟩
 ·rintro⟨p,q,s,hp,hq,hs',hw,e1,e2,e3⟩;exact⟨p,q,s,Qjz.2 ⟨hp,(hs p hp).2 e1⟩,Qjz.2 ⟨hq,(hs q hq).2 e2⟩,Qjz.2 ⟨hs',(hs s hs').2 e3⟩,hw⟩
end Go.Ev.Ce
namespace Go.Ev.Ce
open Go Go.Ev Go.Ev.L Go.Proofs
structure B8(v:V3):Prop where
 x:Sm 8 v.x
 y:Sm 8 v.y
 z:Sm 8 v.z
structure Mp(l:List V3):Prop where
 l4:4<=l.length
 l8:l.length<=8
 bd:∀v∈l,Sm 11 v.x/\Sm 11 v.y/\Sm 11 v.z
 nf:nf0 l=true
theorem Mp.inV{l:List V3}(h:Mp l):l.all inV=true:=Qja.2 λv hv=>by
 obtain⟨h1,h2,h3⟩:=h.bd v hv;exact (sa8 v).2 ⟨h1.mono (by omega),h2.mono (by omega),h3.mono (by omega)⟩
theorem Be6{l:List V3}(hl:l.all Ce.inV=true)(h4:Sol l):nf0 l=true:=by
 have hin:=Qja.1 hl;obtain⟨a,c,k,v,ha,hc,hk,hv,hd⟩:=h4;obtain⟨i',hi,j',hj,k',hk',hn,hall⟩:=ee1 ha hc hk (uc6 hd);obtain⟨i1,i2,i3⟩:=hall (λv=>Ce.inV v=true) (hin _ ha) (hin _ hc) (hin _ hk)
 have ht:=va0 i1 i2 i3 hn;refine Qjb.2 ⟨i',Qjl.2 hi,Qjb.2 ⟨j',Qjl.2 hj,Qjb.2 ⟨k',Qjl.2 hk',?_⟩⟩⟩;unfold nf Cd3;rw[ht,Bool.true_and,Qjb];have hok:=(da4 ht).2.ok;obtain⟨w,hw,hne⟩:=Sol.off ⟨a,c,k,v,ha,hc,hk,hv,hd⟩ (ab1 hok) (A8 (gL tV l i') (gL tV l j') (gL tV l k')).1.b;refine⟨w,hw,?_⟩
 have:Q5 (A8 (gL tV l i') (gL tV l j') (gL tV l k')).1 w≠0:=λe=>hne ((hb5 hok (hin w hw)).1 e)
 simpa using this
theorem Qd9{l:List V3}(h4:4<=l.length)(h8:l.length<=8)(hb:∀v∈l,B8 v)(hf:nf0 l=true):Mp l:=⟨h4,h8,λv hv=>⟨(hb v hv).x.mono (by omega),(hb v hv).y.mono (by omega),(hb v hv).z.mono (by omega)⟩,hf⟩
theorem ue1{l:List V3}(h4:4<=l.length)(h8:l.length<=8)(hb:∀v∈l,B8 v):Mp (((l.set 1 ⟨W ((gL tV l 0).x-3),(gL tV l 0).y,(gL tV l 0).z⟩).set 2 ⟨(gL tV l 0).x,W ((gL tV l 0).y-2),(gL tV l 0).z⟩).set 3 ⟨(gL tV l 0).x,(gL tV l 0).y,W ((gL tV l 0).z-1)⟩):=by
 match l,h4,h8,hb with
 |a::b::c::d::l,h4,h8,hb =>
  have ha:=hb a Qjk;have g0:gL tV (a::b::c::d::l) 0=a:=rfl;rw[g0];obtain⟨x1,x2⟩:=ha.x;obtain⟨y1,y2⟩:=ha.y;obtain⟨z1,z2⟩:=ha.z;rw[aa0 (n:=a.x-3) (by omega) (by omega),aa0 (n:=a.y-2) (by omega) (by omega),aa0 (n:=a.z-1) (by omega) (by omega)]
  show Mp (a::⟨a.x-3,a.y,a.z⟩::⟨a.x,a.y-2,a.z⟩::⟨a.x,a.y,a.z-1⟩::l);have bd:∀v∈(a::⟨a.x-3,a.y,a.z⟩::⟨a.x,a.y-2,a.z⟩::⟨a.x,a.y,a.z-1⟩::l:List V3),Sm 11 v.x/\Sm 11 v.y/\Sm 11 v.z:=λv hv=>by
   simp only[Qjj] at hv;unfold Sm
   rcases hv with rfl|rfl|rfl|rfl|hv
   ·omega
   ·simp only;omega
   ·simp only;omega
   ·simp only;omega
   ·have:=hb v (by simp[hv])
    obtain⟨⟨k1,k2⟩,⟨k3,k4⟩,k5,k6⟩:=this;omega
  refine⟨by simp only[List.length_cons];omega,by simp only[List.length_cons] at h8 ⊢;omega,bd,Be6 (Qja.2 λv hv=>?_) ?_⟩
  ·obtain⟨h1,h2,h3⟩:=bd v hv;exact (sa8 v).2 ⟨h1.mono (by omega),h2.mono (by omega),h3.mono (by omega)⟩
  ·refine⟨a,⟨a.x-3,a.y,a.z⟩,⟨a.x,a.y-2,a.z⟩,⟨a.x,a.y,a.z-1⟩,by simp,by simp,by simp,by simp,?_⟩
   have e:dot (N3 a ⟨a.x-3,a.y,a.z⟩ ⟨a.x,a.y-2,a.z⟩) (e7 ⟨a.x,a.y,a.z-1⟩ a)=-6:=by simp only[dot,N3,c7,e7];grind
   rw[e];decide
theorem Rd0 (x : List Int) (N : Nat) (h4 : 4 ≤ N) (h8 : N ≤ 8) (j0 : Int) (hj0 : 0 ≤ j0 ∧ j0 ≤ 10) :
  ∃idx out,lp (ba9 ⟨(N:Int)⟩) ⟨0,0,x,j0,0,[]⟩=(2,⟨1,(N:Int),x,idx,N,bL tV out⟩)/\out.length=N/\∀v∈out,B8 v:=by
 have key:=R6 (step:=ba9 ⟨(N:Int)⟩) (mk:=λj (a:Int×List V3)=>(⟨phV a.2,(j:Int),x,a.1,a.2.length,bL tV a.2⟩:o7)) N
  (λj a=>a.2.length=j/\0<=a.1/\a.1<=10+4*j/\j<=N/\∀v∈a.2,B8 v) (λt s=>t=2/\∃idx out,s=⟨1,(N:Int),x,idx,N,bL tV out⟩/\out.length=N/\∀v∈out,B8 v) (by omega) (λj a hj ha=>?_) (λj a hj ha=>?_) 0 (j0,[]) ⟨rfl,hj0.1,by omega,by omega,λv hv=>by cases hv⟩
 ·obtain⟨t,s,e1,rfl,idx,out,e2,e3⟩:=key;exact⟨idx,out,by rw[<- e2];exact e1,e3.1,e3.2⟩
 ·obtain⟨at0,out⟩:=a;obtain⟨ho,ha1,ha2,_,hB⟩:=ha
  simp only at ho ha1 ha2 hB
  have hn:=C0 hj (show N<=4611686018427387904 by omega)
  obtain⟨v1,j1,d1,p1,q1,c1,b1⟩:=Ha6 17 x at0 ha1 (by omega) (by omega) (by omega)
  obtain⟨v2,j2,d2,p2,q2,c2,b2⟩:=Ha6 17 x j1 (by omega) (by omega) (by omega) (by omega)
  obtain⟨v3,j3,d3,p3,q3,c3,b3⟩:=Ha6 17 x j2 (by omega) (by omega) (by omega) (by omega)
  obtain⟨v4,j4,d4,_,_,c4,b4⟩:=Ha6 6 x j3 (by omega) (by omega) (by omega) (by omega)
  have s1:Sm 8 (W (v1-8)):=by unfold Sm;rw[aa0 (by omega) (by omega)];omega
  have s2:Sm 8 (W (v2-8)):=by unfold Sm;rw[aa0 (by omega) (by omega)];omega
  have s3:Sm 8 (W (v3-8)):=by unfold Sm;rw[aa0 (by omega) (by omega)];omega
  have leaf : ∀ (E : Nat → Prop) (x1 x2 x3 : Int), Sm 8 x1 → Sm 8 x2 → Sm 8 x3 → Nx (.next (⟨1, ((j + 1 : Nat) : Int), x, j4, j + 1, bL tV (out ++ [⟨x1, x2, x3⟩])⟩ : o7)) E
    (λs=>∃a':Int×List V3,s=⟨phV a'.2,((j+1:Nat):Int),x,a'.1,a'.2.length,bL tV a'.2⟩/\a'.2.length=j+1/\0<=a'.1/\a'.1<=10+4*((j+1:Nat):Int)/\j+1<=N/\∀v∈a'.2,B8 v):=λE x1 x2 x3 k1 k2 k3=>by
   have hl:(out++[(⟨x1,x2,x3⟩:V3)]).length=j+1:=by simp[ho]
   exact .nx ⟨(j4,out++[⟨x1,x2,x3⟩]),by simp only[kc6,hl],hl,by show 0<=j4;omega,by show j4<=_;omega,by omega,λv hv=>by
    rcases Qjae.1 hv with h|h
    ·exact hB v h
    ·rw[Qjap.1 h];exact⟨k1,k2,k3⟩⟩
  cases out with
  |nil =>
   have hj0':j=0:=by simpa using ho.symm
   subst hj0';show Nx (P5 Stp.next Stp.exit Stp.fail _ _) _ _;simp only[P5,o6,l9,d1,d2,d3,d4,hn];rw[btD (o5 hj)];have f1:decide (((0:Nat):Int)>1)=false:=rfl;have f2:decide (((0:Nat):Int)>0)=false:=rfl;have f3:decide (((0:Nat):Int)>2)=false:=rfl;have lf:∀(E:Nat->Prop) (x1 x2 x3:Int),Sm 8 x1->Sm 8 x2->Sm 8 x3->Nx (.next (⟨1,((0+1:Nat):Int),x,j4,1,[[i x1,i x2,i x3]]⟩:o7)) E _:=leaf;simp only[f1,f2,f3,Sa3,Qjab,Qjv,w6];refine Nx.sl (λ_=>?_) (λ_=>?_)<;>refine Nx.sl (λ_=>?_) (λ_=>?_)
   all_goals first
    |exact lf _ _ _ _ (by assumption) (by assumption) (by assumption)
    |(refine Nx.sl (λ_=>?_) (λ_=>?_)<;>exact lf _ _ _ _ (by assumption) (by assumption) (by assumption))
  |cons o os =>
   have h1:1<=j:=by simp only[List.length_cons] at ho;omega
   generalize hO:o::os=O at *
   have hph:phV O=1:=by subst hO;rfl
   have w1:W ((j:Int)-1)=((j-1:Nat):Int):=by rw[aa0 (by omega) (by omega)];omega
   have i1:inB ((j-1:Nat):Int) j=true:=i6 (by omega)
   have r1:=ce9 (l:=O) (m:=j-1) (by omega)
   have r1':=ke5 (l:=O) (m:=j-1) (by omega)
   have rr:=ad8 ho (by omega)
   have gx:∀m,m<O.length->Sm 8 (toI (hdA (i7 (i8 (bL tV O) (0+m)) 0)))/\Sm 8 (toI (hdA (tlA (i7 (i8 (bL tV O) (0+m)) 0))))/\Sm 8 (toI (hdA (tlA (tlA (i7 (i8 (bL tV O) (0+m)) 0)))))/\Sm 8 (toI (hdA (i7 (i8 (bL tV O) (0+m)) 2))):=λm hm=>by
    rw[Qjf,N6 tV hm]
    have:=hB _ (Ba8 tV hm)
    exact⟨this.x,this.y,this.z,this.z⟩
   have md:∀{A C:Int},Sm 8 A->Sm 8 C->Sm 8 (W (Int.tdiv (W (A+C)) 2)):=λ{A C} ⟨h1,h2⟩ ⟨h3,h4⟩=>by
    unfold Sm;rw[aa0 (n:=A+C) (by omega) (by omega)]
    obtain⟨m1,m2,m3⟩:=ad7 (x:=A+C) (y:=2) (by omega)
    rw[aa0 (by omega) (by omega)]
    omega
   obtain⟨gx1,gy1,gz1,gw1⟩:=gx (j-1) (by omega)
   have f2:∀{inst:Decidable ((j:Int)>0)},@decide ((j:Int)>0) inst=true:=decide_eq_true (by omega)
   show Nx (sel (Nat.beq (phV O) 1) (o3 Stp.next Stp.exit Stp.fail _ _) _) _ _;rw[hph];show Nx (o3 Stp.next Stp.exit Stp.fail _ _) _ _;by_cases h2:2<=j
   ·have w2:W ((j:Int)-2)=((j-2:Nat):Int):=by rw[aa0 (by omega) (by omega)];omega
    have i2:inB ((j-2:Nat):Int) j=true:=i6 (by omega)
    have r2:=ce9 (l:=O) (m:=j-2) (by omega)
    obtain⟨gx2,gy2,gz2,gw2⟩:=gx (j-2) (by omega)
    have mx:=md gx1 gx2;have my:=md gy1 gy2;have mz:=md gz1 gz2;simp only[o3,o6,l9,d1,d2,d3,d4,hn,ho,w1,w2,i1,i2,Int.toNat_natCast,r1,r1',r2,rr,ub2];rw[btD (o5 hj)];simp only[Qjab,Qjv,w6]
    repeat' (first | exact leaf _ _ _ _ (by assumption) (by assumption) (by assumption) | refine Nx.sl (λ_=>?_) (λ_=>?_))
   ·have hj1:j=1:=by omega
    subst hj1;simp only[o3,o6,l9,d1,d2,d3,d4,hn,ho,w1,i1,Int.toNat_natCast,r1,r1',rr,ub2];have f1:decide (((1:Nat):Int)>1)=false:=rfl;rw[btD (o5 hj)];simp only[f1,Sa3,Qjab,Qjv,w6]
    repeat' (first | exact leaf _ _ _ _ (by assumption) (by assumption) (by assumption) | refine Nx.sl (λ_=>?_) (λ_=>?_))
 ·obtain⟨at0,out⟩:=a;obtain⟨ho,ha1,ha2,hjN,hB⟩:=ha
  simp only at ho ha1 ha2 hB
  have hj':j=N:=by omega
  subst hj';cases out with
  |nil=>simp only[List.length_nil] at ho;omega
  |cons o os =>
   refine⟨2,?_,rfl,at0,o::os,by rw[ho];rfl,ho,hB⟩
   show o3 Stp.next Stp.exit Stp.fail _ _=_;simp only[o3];rw[bfD (by omega)]
theorem Dd3(x:List Int):Rd (one (r1L tV)) (ia5 x) Mp:=by
 obtain⟨v,j,e1,a1,b1,c1,d1⟩:=Ha6 5 x 0 (by omega) (by omega) (by omega) (by omega)
 have hN:W (4+v)=(((4+v).toNat:Nat):Int):=by rw[aa0 (by omega) (by omega)];omega
 obtain⟨idx,out,e2,e3,hB⟩:=Rd0 x (4+v).toNat (by omega) (by omega) j (by omega)
 unfold ia5;simp only[o6,l9,e1,hN,e2];have h4:4<=(4+v).toNat:=by omega
 have h8:(4+v).toNat<=8:=by omega
 generalize (4+v).toNat=N at *
 have s1:lsL tV N (λk=>i8 (bL tV out) (0+k))=out:=by rw[<- e3];exact Gb3 tV out
 have s2:okL tV N (λk=>i8 (bL tV out) (0+k))=true:=by rw[<- e3];exact Tb2 tV out
 have gf:Fa2 out=true:=Nd0 out (by omega)
 rw[s1,s2,gf,se6 out (by omega)]
 simp only[Qjab,Qjv,w6,show Nat.beq 2 1=false from rfl,Sa3]
 refine Rd.sl (λ_=>?_) λhnf=>Pc3 e3.symm rfl (Qd9 (by omega) (by omega) hB (by simpa using hnf))
 have i0:inB 0 N=true:=i6 (j:=0) (by omega)
 have i1:inB 1 N=true:=i6 (j:=1) (by omega)
 have i2:inB 2 N=true:=i6 (j:=2) (by omega)
 have i3:inB 3 N=true:=i6 (j:=3) (by omega)
 have sp:∀(v:V3) (x1 x2 x3:Int),O2 (tV.row v) 0 [i x1,i x2,i x3]=tV.row ⟨x1,x2,x3⟩:=λ_ _ _ _=>rfl
 have rl:∀v:V3,Nat.ble (0+3) (len (tV.row v))=true:=λ_=>rfl
 have ck:∀v:V3,na5 [CK.int .i64,CK.int .i64,CK.int .i64] (i7 (tV.row v) 0)=true:=λ_=>rfl
 have gr:∀(l:List V3) (k:Nat),l.length=N->k<4->i8 (bL tV l) k=tV.row (gL tV l k):=λl k hl hk=>N6 tV (by omega)
 have bl:∀(l:List V3) (k:Nat),l.length=N->k<4->Nat.blt k (len (bL tV l))=true:=λl k hl hk=>by rw[Aa2,Nat.blt_eq];omega
 have ls:∀(l:List V3) (k:Nat) (v:V3),l.length=N->(l.set k v).length=N:=λl k v hl=>by rw[Qjw];exact hl
 rw[gr out 0 e3 (by omega),gr out 1 e3 (by omega)]
 simp only[sp,Ia4];rw[gr _ 2 (ls out 1 _ e3) (by omega)]
 simp only[sp,Ia4];rw[gr _ 3 (ls _ 2 _ (ls out 1 _ e3)) (by omega)]
 simp only[sp,Ia4,rl,ck,i0,i1,i2,i3,bl out 0 e3 (by omega),bl out 1 e3 (by omega),bl _ 2 (ls out 1 _ e3) (by omega),bl _ 3 (ls _ 2 _ (ls out 1 _ e3)) (by omega),Qjv,w6]
 exact Pc3 (by simp only[Qjw];omega) rfl (ue1 (by omega) (by omega) hB)
theorem dd3(x:List Int):Mp (p7 x):=(Dd3 x).p
theorem Q6{l:List V3}(h:aa6 l=0):l.length<=48/\l.all inV=true/\Sol l:=by
 unfold aa6 at h
 split at h
 ·cases h
 rename_i h48
 split at h
 ·cases h
 rename_i hin
 split at h
 ·cases h
 rename_i hf;have hl:l.all inV=true:=by
  rw[Qja];intro v hv;cases hi:inV v with
  |true=>rfl
  |false=>exact absurd (Qjb.2 ⟨v,hv,by rw[hi];rfl⟩) hin
 have hin2:=Qja.1 hl;refine⟨by omega,hl,?_⟩
 have hf:Cb9 l=false:=Bool.eq_false_iff.2 hf;unfold Cb9 at hf
 split at hf
 ·rename_i h1;obtain⟨hi,k1⟩:=yb4 h1;have k1:(ixs (iF l)).any (sp2 l (iF l))=true:=k1;obtain⟨hj,k2⟩:=yb4 k1;have k2:(l.take (jF l)).any (λv=>(A8 v (gL tV l (jF l)) (gL tV l (iF l))).2)=true:=k2
  have hj:jF l<iF l:=hj;have hi:iF l<l.length:=hi;have hk:=Qc1 k2;have hk2:=Qjac (xs:=l.take (jF l)) (p:=λv=>(A8 v (gL tV l (jF l)) (gL tV l (iF l))).2) (w:=hk)
  rw[Qjd] at hk;rw[<- nb4 tV (by rw[Qjd];exact hk),vc0 tV l (by omega)] at hk2
  have ht:=(da4 hk2).2;rw[Bool.not_eq_false',Qjb] at hf;obtain⟨v,hv,hne⟩:=hf;have hne:Q5 (plF l) v≠0:=bne_iff_ne.1 hne;have ht:Thr (gL tV l (kF l)) (gL tV l (jF l)) (gL tV l (iF l)) (plF l):=ht;have hkl:kF l<l.length:=by
   have:kF l<min (jF l) l.length:=hk
   omega
  have hoff:dot (plF l).n v≠(plF l).b:=λe=>hne ((hb5 ht.ok (hin2 v hv)).2 e)
  refine⟨_,_,_,v,gLm hkl,gLm (show jF l<l.length by omega),gLm hi,hv,λh0=>hoff ?_⟩
  obtain⟨ok,⟨g,hg,e1,e2,e3⟩,o⟩:=ht;have e:g*(dot (plF l).n v-(plF l).b)=dot (N3 (gL tV l (kF l)) (gL tV l (jF l)) (gL tV l (iF l))) (e7 v (gL tV l (kF l))):=by
   have e1:g*(plF l).n.x=(N3 (gL tV l (kF l)) (gL tV l (jF l)) (gL tV l (iF l))).x:=e1;have e2:g*(plF l).n.y=(N3 (gL tV l (kF l)) (gL tV l (jF l)) (gL tV l (iF l))).y:=e2;have e3:g*(plF l).n.z=(N3 (gL tV l (kF l)) (gL tV l (jF l)) (gL tV l (iF l))).z:=e3;rw[o];simp only[dot];rw[<- e1,<- e2,<- e3];simp only[e7]
   grind
  rw[h0] at e
  have:=(Qjg.1 e).resolve_left (by omega)
  omega
 ·cases hf
noncomputable def X5(l:List V3):List Pln×Int:=if aa6 l=0 then (F0 l,0) else ([],aa6 l)
noncomputable def hc9(l:List V3):List V3×Int:=if aa6 l=0 then (na2 (F0 l) l,0) else ([],aa6 l)
theorem hb8{l:List V3}(h48:l.length<=48)(hl:l.all inV=true):(F0 l).length<=1000000:=by
 have h1:=Qc3 (dis l) (G0 (dis l));have hd:=Qc0 l;have h2:(G0 (dis l)).length<=_:=Qc4 (dis l) (by omega) _ (Qjm _)
 rw[<- dd2 hl,xb9];omega
theorem lb1(a:V3)(l:List V3)(hl:l.length<=900000):Rd (two (r1L tP) r1I) (ja0 (a,l)) (λr=>r=X5 (a::l)):=by
 by_cases h:aa6 (a::l)=0
 ·obtain⟨h1,h2,h3⟩:=Q6 h;unfold X5;rw[if_pos h];exact Dd2 a l h1 h2 h3
 ·have hll:(a::l).length<=1000000:=by simp only[List.length_cons];omega
  have hne:(aa6 (a::l) != 0)=true:=bne_iff_ne.2 h;unfold X5 ja0;rw[if_neg h];simp only[o6,ha9,l9,vc2 (a::l) hll,vc1 (a::l) hll,hne,w6];exact⟨_,([],aa6 (a::l)),rfl,rfl,rfl⟩
theorem Qb7:aa6 []=11:=by
 unfold aa6 Cb9;rfl
noncomputable def ma3(l:List V3):List Pln×Int:=X5 l
noncomputable def va1(l:List V3):Bool:=decide (1<=l.length/\l.length<=900000)
noncomputable def Db1:Sum:=L4 (xa0 tV) λl=>.guard (va1 l) (.ret ((two (r1L tP) r1I).enc (ma3 l),[]))
noncomputable def Db2:Sum:=λargs blks=>match args,blks with
 |[.v (.slice none 0 0)],[]=>db0 args blks
 |_,_=>Db1 args blks
theorem ue2{f:Nat}{A B:Sum}(hA:i5 prog G f A)(hB:i5 prog G f B):i5 prog G f (λargs blks=>match args,blks with
 |[.v (.slice none 0 0)],[]=>A args blks
 |_,_=>B args blks):=by
 intro args blks r out he
 simp only at he
 split at he
 ·exact hA _ _ r out he
 ·exact hB _ _ r out he
theorem ub8:i5 prog G 22 Db1:=by
 refine Md2 (yb0 Cb1 λa r hr=>?_) (yb0 Va7 λa r hr=>?_) (yb0 tb7 λa r hr=>?_)
 ·obtain⟨p,c⟩:=a;obtain⟨hg,hr⟩:=DT.run_guard_some hr;have hl:c.length<=900000:=by
   have:=(of_decide_eq_true hg).2
   simp only[List.length_cons] at this;omega
  have hp:Oa5 (p,c)=X5 (p::c):=(lb1 p c hl).p;have hq:Oa6 (p,c)=true:=(lb1 p c hl).g;rw[hp,hq];exact hr
 ·obtain⟨hg,hr⟩:=DT.run_guard_some hr;exact absurd (of_decide_eq_true hg).1 (by simp)
 ·obtain⟨hg,hr⟩:=DT.run_guard_some hr;exact absurd (of_decide_eq_true hg).1 (by simp)
theorem vc5:i5 prog G 22 Db2:=ue2 Va7 ub8
theorem Qb8(a:V3)(l:List V3)(hl:l.length<=900000):Rd (two (r1L tV) r1I) (qa2 (a,l)) (λr=>r=hc9 (a::l)):=by
 have hok:okL tV (l.length+1) (λk=>tV.row (gL tV (a::l) k))=true:=bb1 tV (f:=λk=>gL tV (a::l) k) λ_ _=>rfl
 have hp:Oa5 (a,l)=X5 (a::l):=(lb1 a l hl).p;have hq:Oa6 (a,l)=true:=(lb1 a l hl).g;unfold hc9;unfold qa2;simp only[o6,ha9,l9,qd2,qd3,hok,hp,hq,w6];unfold X5;by_cases h:aa6 (a::l)=0
 ·obtain⟨h1,h2,h3⟩:=Q6 h;have hF:OkF (F0 (a::l)):=⟨hb8 h1 h2,λp hp=>(Pd2 hp).ok⟩
  obtain⟨m,r,e1,e2,e3,e4⟩:=Qc8 a l (by omega)
  obtain⟨m',r',k1,k2,k3⟩:=nd2 r m e2 (F0 (a::l)) e4 hF;rw[if_pos h,if_pos h];simp only[e1,k1];refine⟨_,(r'.take m',0),rfl,?_,by rw[k3,e3];rfl⟩
  have h:(r1L tV).rd [⟨25,3,bL tV r',true,false,0⟩] (.sl 0 0 m' 0)=some (r'.take m'):=by
   show Bool.rec (motive:=λ_=>Option (List V3)) none (some (slR tV (bL tV r') 0 m')) (Bool.and true (okS tV (bL tV r') 0 m'))=_
   rw[Hc4 _ _ k2,Yb7 _ _ k2];rfl
  simp only[two,h];rfl
 ·have hne:(aa6 (a::l) != 0)=true:=bne_iff_ne.2 h;rw[if_neg h,if_neg h];simp only[hne,w6];exact⟨_,([],aa6 (a::l)),rfl,rfl,rfl⟩
noncomputable def ic0(l:List V3):List V3×Int:=hc9 l
noncomputable def nb8(l:List V3):Bool:=decide (1<=l.length/\l.length<=900000)
noncomputable def ic1:Sum:=L4 (xa0 tV) λl=>.guard (nb8 l) (.ret ((two (r1L tV) r1I).enc (ic0 l),[]))
theorem Yb9:i5 prog G 32 ic1:=by
 refine Md2 (yb0 gc4 λa r hr=>?_) (yb0 Xb0 λa r hr=>?_) (yb0 Xb2 λa r hr=>?_)
 ·obtain⟨p,c⟩:=a;obtain⟨hg,hr⟩:=DT.run_guard_some hr;have hl:c.length<=900000:=by
   have:=(of_decide_eq_true hg).2
   simp only[List.length_cons] at this;omega
  have hp:tb5 (p,c)=hc9 (p::c):=(Qb8 p c hl).p;have hq:tb6 (p,c)=true:=(Qb8 p c hl).g;rw[hp,hq];exact hr
 ·obtain⟨hg,hr⟩:=DT.run_guard_some hr;exact absurd (of_decide_eq_true hg).1 (by simp)
 ·obtain⟨hg,hr⟩:=DT.run_guard_some hr;exact absurd (of_decide_eq_true hg).1 (by simp)
set_option maxRecDepth 100000
structure Pa1 where
 (ea0 ea1 ea2 ed7 d9 d8 f7:Int)
noncomputable def Bc3:List (Nat×Sum):=[(30,ia6)]
theorem vc6:k8 prog G Bc3:=⟨la9,trivial⟩
structure Pa2 where
 alt:Nat
 bs0:Bool
noncomputable def sa9{α:Type}(kk:Pa2->α)(x:Pa1):α:=let t1:=(C7 (⟨(⟨x.ea0,x.ea1,x.ea2⟩:V3),x.ed7⟩:Pln) (⟨x.d9,x.d8,x.f7⟩:V3));(sl (L9 (⟨(⟨x.ea0,x.ea1,x.ea2⟩:V3),x.ed7⟩:Pln) (⟨x.d9,x.d8,x.f7⟩:V3)) (kk ⟨1,decide (t1>0)⟩) (kk ⟨0,false⟩))
noncomputable def Pa3(x:Pa1):Pa2:=sa9 (λr=>r) x
noncomputable def db4(x:Pa1)(r:Pa2):DT (b7×List c8):=(.ite (Nat.beq r.alt 1) (.ret (b r.bs0,[⟨0,3,[[i x.d9,i x.d8,i x.f7]],true,false,0⟩])) .fail)
theorem Rc0{α β:Type}(F:α->β)(kk:Pa2->α)(x:Pa1):F (sa9 kk x)=sa9 (λr=>F (kk r)) x:=by unfold sa9;(repeat' apply q8 (f:=F))<;>rfl
noncomputable def Qb9:Sum:=Wa9 ⟨[.agg (kLq 4),sPq 0],[⟨0,3,true,some [kLq 3]⟩],λa H=>(⟨cIq a 0 0,cIq a 0 1,cIq a 0 2,cIq a 0 3,hIq H 0 0 0,hIq H 0 0 1,hIq H 0 0 2⟩,())⟩ (λx=>db4 x (Pa3 x))
theorem Bc4:i5 prog G 51 Qb9:=R4 (enc:=λx=>⟨[.agg [i x.ea0,i x.ea1,i x.ea2,i x.ed7],.ptr 0 0 0 0],[⟨0,3,[[i x.d9,i x.d8,i x.f7]],true,false,0⟩]⟩) (λa H=>by kernel_rfl) (bd b51 vc6) λx=>A6 (Eq.trans (b:=sa9 (λr=>(db4 x r).run) x) (by kernel_rfl) (Rc0 (λr=>(db4 x r).run) (λr=>r) x).symm)
structure O6 where
 J0:List Pln
 (d9 d8 f7:Int)
noncomputable def qa3:List (Nat×Sum):=[(51,Qb9)]
theorem Pa4:k8 prog G qa3:=⟨Bc4,trivial⟩
structure D5 where
 J0:List Pln
 (is7 d9 d8 f7:Int)
structure l7 where
 is8:Int
noncomputable def la1(p:D5)(s:l7):St:=⟨eL tP p.J0::.fn 51 [.ptr 0 0 0 0]::ra 5 (i p.is7::i s.is8::ra 10 []),[⟨0,3,[[i p.d9,i p.d8,i p.f7]],true,false,0⟩]⟩
noncomputable def A9{α:Type}(k:l7->α)(e:Nat->α)(z:α)(p:D5)(s:l7):α:=let t1:=(Pa3 ⟨(gL tP p.J0 s.is8.toNat).n.x,(gL tP p.J0 s.is8.toNat).n.y,(gL tP p.J0 s.is8.toNat).n.z,(gL tP p.J0 s.is8.toNat).b,p.d9,p.d8,p.f7⟩);(sl (decide (s.is8<p.is7)) (sl (inB s.is8 (List.length p.J0)) (sl (Nat.beq t1.alt 1) (sl t1.bs0 (e 1) (k ⟨W (s.is8+1)⟩)) z) z) (e 2))
noncomputable def C3(p:D5)(s:l7):Stp l7:=A9 .next .exit .fail p s
noncomputable def X6:Lo D5 l7:=⟨En qa3,1,qe4,[1,0,1,4,4],[0,1,7,8],.p,[⟨sLq tP::.fn 51 [.o (.ptr 0 0 0 0)]::ru2 5 (sIq::sIq::ru2 10 []),[⟨0,3,true,some [kLq 3]⟩],λa H=>(⟨aLq tP a 0,aIq a 7,hIq H 0 0 0,hIq H 0 0 1,hIq H 0 0 2⟩,⟨aIq a 8⟩)⟩],C3,[(none,λp s=>⟨[i s.is8],[⟨0,3,[[i p.d9,i p.d8,i p.f7]],true,false,0⟩]⟩),(some 0,λp s=>upq (la1 p s) [(9,b (decide (s.is8<p.is7)))])],la1⟩
theorem Ma1:X6.Ok:=Lo.ok [] (by kernel_rfl) .nil rfl (.cons (λa H=>by kernel_rfl) .nil) λp s=>(.of @A9 (λF _ _ _ _ _=>by unfold A9;(repeat' apply q8 (f:=F))<;>rfl) (by kernel_rfl))
structure O7 where
 alt:Nat
 is0:Int
noncomputable def B5{α:Type}(kk:O7->α)(x:O6):α:=let t1:=(lp (C3 (⟨rt tP x.J0,(↑(List.length x.J0):Int),x.d9,x.d8,x.f7⟩:D5)) (⟨0⟩:l7));(sl ((cnE tP x.J0)&&true) (sl (Nat.beq t1.1 1) (kk ⟨1,t1.2.is8⟩) (sl (Nat.beq t1.1 2) (kk ⟨1,-1⟩) (kk ⟨0,0⟩))) (kk ⟨0,0⟩))
noncomputable def O8(x:O6):O7:=B5 (λr=>r) x
noncomputable def aa3(x:O6)(r:O7):DT (b7×List c8):=(.ite (Nat.beq r.alt 1) (.ret (i r.is0,[⟨0,3,[[i x.d9,i x.d8,i x.f7]],true,false,0⟩])) .fail)
theorem Xa6{α β:Type}(F:α->β)(kk:O7->α)(x:O6):F (B5 kk x)=B5 (λr=>F (kk r)) x:=by unfold B5;(repeat' apply q8 (f:=F))<;>rfl
noncomputable def ta3:Sum:=Wa9 ⟨[sLq tP,.fn 51 [.o (.ptr 0 0 0 0)]],[⟨0,3,true,some [kLq 3]⟩],λa H=>(⟨aLq tP a 0,hIq H 0 0 0,hIq H 0 0 1,hIq H 0 0 2⟩,())⟩ (λx=>aa3 x (O8 x))
theorem Wa1:i5 prog G 82 ta3:=R4 (enc:=λx=>⟨[eL tP x.J0,.fn 51 [.ptr 0 0 0 0]],[⟨0,3,[[i x.d9,i x.d8,i x.f7]],true,false,0⟩]⟩) (λa H=>by kernel_rfl) (bd b82 Pa4) λx=>bb3 (.s .p (.s (.s .p (.b (.u X6.ls))) .p)) [X6.pr] (by kernel_rfl) (.cons Ma1 .nil) (Eq.trans (b:=B5 (λr=>(aa3 x r).run) x) (by kernel_rfl) (Xa6 (λr=>(aa3 x r).run) (λr=>r) x).symm)
structure K2 where
 J0:List Pln
 (d9 d8 f7:Int)
noncomputable def Ja4:List (Nat×Sum):=[(82,ta3)]
theorem Fa9:k8 prog G Ja4:=⟨Wa1,trivial⟩
structure K3 where
 alt:Nat
 bs0:Bool
noncomputable def s8{α:Type}(kk:K3->α)(x:K2):α:=let t1:=(O8 ⟨rt tP x.J0,x.d9,x.d8,x.f7⟩);(sl ((cnE tP x.J0)&&true) (sl (Nat.beq t1.alt 1) (kk ⟨1,decide (t1.is0>=0)⟩) (kk ⟨0,false⟩)) (kk ⟨0,false⟩))
noncomputable def K4(x:K2):K3:=s8 (λr=>r) x
noncomputable def S8(x:K2)(r:K3):DT (b7×List c8):=(.ite (Nat.beq r.alt 1) (.ret (b r.bs0,[⟨0,3,[[i x.d9,i x.d8,i x.f7]],true,false,0⟩])) .fail)
theorem Ma2{α β:Type}(F:α->β)(kk:K3->α)(x:K2):F (s8 kk x)=s8 (λr=>F (kk r)) x:=by unfold s8;(repeat' apply q8 (f:=F))<;>rfl
noncomputable def la2:Sum:=Wa9 ⟨[sLq tP,.fn 51 [.o (.ptr 0 0 0 0)]],[⟨0,3,true,some [kLq 3]⟩],λa H=>(⟨aLq tP a 0,hIq H 0 0 0,hIq H 0 0 1,hIq H 0 0 2⟩,())⟩ (λx=>S8 x (K4 x))
theorem Ja5:i5 prog G 50 la2:=R4 (enc:=λx=>⟨[eL tP x.J0,.fn 51 [.ptr 0 0 0 0]],[⟨0,3,[[i x.d9,i x.d8,i x.f7]],true,false,0⟩]⟩) (λa H=>by kernel_rfl) (bd b50 Fa9) λx=>A6 (Eq.trans (b:=s8 (λr=>(S8 x r).run) x) (by kernel_rfl) (Ma2 (λr=>(S8 x r).run) (λr=>r) x).symm)
noncomputable def dd4:List (Nat×Sum):=[(22,Db2),(20,Ta5),(50,la2)]
theorem Rc1:k8 prog G dd4:=⟨vc5,Za4,Ja5,trivial⟩
noncomputable def xa8(x:List V3)(y:V3):Option (b7×List c8):=let t1:=(ma3 (rt tV x));let t2:=(ia2 y);let t3:=(K4 ⟨rt tP t1.1,y.x,y.y,y.z⟩);(sl (okE tV x) (sl (va1 (rt tV x)) (sl (t1.2==0) (sl (ia3 y) (sl t2 (sl ((cnE tP t1.1)&&true) (sl (Nat.beq t3.alt 1) (some (b (!t3.bs0),[])) none) none) (some (b false,[]))) none) (some (b false,[]))) none) none)
noncomputable def Wa2(x:List V3)(y:V3):Bool:=V1 (one r1B) (xa8 x y)
noncomputable def Wa3(x:List V3)(y:V3):Bool:=okO (one r1B) (xa8 x y)
noncomputable def vc7:Sum:=za1 (xa0 tV) (Z4 tV) (λx y=>.guard (Wa3 x y) (.ret ((one r1B).enc (Wa2 x y),[])))
theorem dd5:i5 prog G 29 vc7:=Lb5 (bd b29 Rc1) (one r1B) (o:=xa8) λx y=>A6 (by kernel_rfl)
noncomputable def cc8:List (Nat×Sum):=[]
theorem Rc2:k8 prog G cc8:=trivial
structure Ca3 where
 Da7:List V3
 we3:Int
structure da5 where
 (vb9 ja2 ja3 ja4 wa5 wa6 wa7:Int)
noncomputable def Db3(p:Ca3)(s:da5):St:=⟨.unk::.unk::.ptr 0 0 0 0::.ptr 1 0 0 0::.unk::.ptr 2 0 0 0::.ptr 3 0 0 0::ra 13 (eL tV p.Da7::i p.we3::i s.vb9::ra 38 []),[⟨0,3,[[i 0,i 0,i 0]],true,false,0⟩,⟨0,3,[[i 0,i 0,i 0]],true,false,0⟩,⟨0,3,[[i s.ja2,i s.ja3,i s.ja4]],true,false,0⟩,⟨0,3,[[i s.wa5,i s.wa6,i s.wa7]],true,false,0⟩]⟩
noncomputable def qa4{α:Type}(k:da5->α)(e:Nat->α)(z:α)(p:Ca3)(s:da5):α:=(sl (decide (s.vb9<p.we3)) (sl (inB s.vb9 (List.length p.Da7)) (k ⟨W (s.vb9+1),(if (gL tV p.Da7 s.vb9.toNat).x<s.ja2 then (gL tV p.Da7 s.vb9.toNat).x else s.ja2),(if (gL tV p.Da7 s.vb9.toNat).y<s.ja3 then (gL tV p.Da7 s.vb9.toNat).y else s.ja3),(if (gL tV p.Da7 s.vb9.toNat).z<s.ja4 then (gL tV p.Da7 s.vb9.toNat).z else s.ja4),(if (gL tV p.Da7 s.vb9.toNat).x>s.wa5 then (gL tV p.Da7 s.vb9.toNat).x else s.wa5),(if (gL tV p.Da7 s.vb9.toNat).y>s.wa6 then (gL tV p.Da7 s.vb9.toNat).y else s.wa6),(if (gL tV p.Da7 s.vb9.toNat).z>s.wa7 then (gL tV p.Da7 s.vb9.toNat).z else s.wa7)⟩) z) (e 1))
noncomputable def ma4(p:Ca3)(s:da5):Stp da5:=qa4 .next .exit .fail p s
noncomputable def lb2:Lo Ca3 da5:=⟨En cc8,0,ye2,[1,1,1,0,1,4,4],[2,3,5,6,20,21,22],.p,[⟨sUq::sUq::sPq 0::sPq 1::sUq::sPq 2::sPq 3::ru2 13 (sLq tV::sIq::sIq::ru2 38 []),[⟨0,3,true,some [[.o (.lit .i64 0),.o (.lit .i64 0),.o (.lit .i64 0)]]⟩,⟨0,3,true,some [[.o (.lit .i64 0),.o (.lit .i64 0),.o (.lit .i64 0)]]⟩,⟨0,3,true,some [kLq 3]⟩,⟨0,3,true,some [kLq 3]⟩],λa H=>(⟨aLq tV a 20,aIq a 21⟩,⟨aIq a 22,hIq H 2 0 0,hIq H 2 0 1,hIq H 2 0 2,hIq H 3 0 0,hIq H 3 0 1,hIq H 3 0 2⟩)⟩],ma4,[(some 0,λp s=>upq (Db3 p s) [(23,b (decide (s.vb9<p.we3)))])],Db3⟩
theorem Bc5:lb2.Ok:=Lo.ok [] (by kernel_rfl) .nil rfl (.cons (λa H=>by kernel_rfl) .nil) λp s=>(.of @qa4 (λF _ _ _ _ _=>by unfold qa4;(repeat' apply q8 (f:=F))<;>rfl) (by kernel_rfl))
noncomputable def Wa4(x:List V3):Option (b7×List c8):=let t1:=(lp (ma4 (⟨rt tV x,(↑(List.length x):Int)⟩:Ca3)) (⟨0,(gL tV x 0).x,(gL tV x 0).y,(gL tV x 0).z,(gL tV x 0).x,(gL tV x 0).y,(gL tV x 0).z⟩:da5));(sl ((↑(List.length x):Int)==0) (some (.tup [.agg [i 0,i 0,i 0],.agg [i 0,i 0,i 0],b false],[])) (sl (inB 0 (List.length x)) (sl (inB 0 (List.length x)) (sl ((cnE tV x)&&true) (sl (Nat.beq t1.1 1) (some (.tup [.agg [i t1.2.ja2,i t1.2.ja3,i t1.2.ja4],.agg [i t1.2.wa5,i t1.2.wa6,i t1.2.wa7],b true],[])) none) none) none) none))
noncomputable def lb3(x:List V3):V3×V3×Bool:=V1 (oc7 r1V r1V r1B) (Wa4 x)
noncomputable def lb4(x:List V3):Bool:=okO (oc7 r1V r1V r1B) (Wa4 x)
noncomputable def vc8:Sum:=L4 (xa0 tV) (λx=>.guard (lb4 x) (.ret ((oc7 r1V r1V r1B).enc (lb3 x),[])))
theorem dd6:i5 prog G 25 vc8:=Ea5 (bd b25 Rc2) (oc7 r1V r1V r1B) (o:=Wa4) λx=>bb3 (.s .p (.s .p (.s .p (.s (.s .p (.b (.u lb2.ls))) .p)))) [lb2.pr] (by kernel_rfl) (.cons Bc5 .nil) (by kernel_rfl)
structure le0 where
 j5:List V3
 (d9 d8 f7:Int)
structure le1 where
 is5:Int
structure Rd1 where
 J0:List Pln
 (d9 d8 f7:Int)
structure Rd2 where
 ph:Nat
 is6:Int
 ns5:Nat
 eh1:List (List b7)
structure Rd3 where
 ns5:Nat
 (is7 is8:Int)
 eh0:List (List b7)
structure Rd4 where
 ph:Nat
 is9:Int
structure Rd5 where
 is7:Int
structure Rd6 where
 (ph ns5:Nat)
 is8:Int
 eh0:List (List b7)
structure Rd7 where
structure Rd8 where
 ph:Nat
 is7:Int
 ns5:Nat
 eh0:List (List b7)
structure Fd1 where
 j5:List V3
 De0:List Pln
structure Fd2 where
 ph:Nat
 is7:Int
 Ic8:List V3
structure le2 where
 j5:List V3
structure le3 where
 (is7 ja2 ja3 ja4 wa5 wa6 wa7:Int)
structure ue3 where
 Y5:List V3
 (d9 d8 f7 j6:Int)
structure ue4 where
 ph:Nat
 is6:Int
 ns5:Nat
 eh1:List (List b7)
structure ge1 where
 Y5:List V3
 (d9 d8 f7 E3 E4 E5 ja2 ja3 ja4:Int)
structure ge2 where
 is9:Int
structure ge3 where
 Y5:List V3
 (is8 d9 d8 f7 j6 E3 E4 E5:Int)
structure ge4 where
 (is7 is9:Int)
structure ge5 where
 (d9 d8 f7 j6 E3 E4 E5:Int)
structure ge6 where
 Y5:List V3
 (is7 is8:Int)
structure le4 where
 j5:List V3
 De0:List Pln
 Ic8:List V3
structure le5 where
 (is8 is9:Int)
noncomputable def vc9:List (Nat×Sum):=[]
theorem ic2:k8 prog G vc9:=trivial
noncomputable def db5(x:V3)(y:V3):Option (b7×List c8):=(some (.sl 0 0 8 0,[⟨25,3,[[i x.x,i x.y,i x.z],[i y.x,i x.y,i x.z],[i x.x,i y.y,i x.z],[i y.x,i y.y,i x.z],[i x.x,i x.y,i y.z],[i y.x,i x.y,i y.z],[i x.x,i y.y,i y.z],[i y.x,i y.y,i y.z]],true,false,0⟩]))
noncomputable def db6(x:V3)(y:V3):List V3:=V1 (one (r1L tV)) (db5 x y)
noncomputable def db7(x:V3)(y:V3):Bool:=okO (one (r1L tV)) (db5 x y)
noncomputable def Db4:Sum:=za1 (Z4 tV) (Z4 tV) (λx y=>.guard (db7 x y) (.ret ((one (r1L tV)).enc (db6 x y),[])))
theorem wc0:i5 prog G 24 Db4:=Lb5 (bd b24 ic2) (one (r1L tV)) (o:=db5) λx y=>A6 (by kernel_rfl)
structure fa6 where
 (ea0 ea1 ea2:Int)
 vd6:Nat
 Vd7:Nat->List b7
 (Vd8 Vd9 Wd0:Int)
noncomputable def Ja6:List (Nat×Sum):=[(27,Za5),(36,la8),(35,oa5)]
theorem ob7:k8 prog G Ja6:=⟨kb5,oa6,ra8,trivial⟩
structure P0 where
 De1:Nat
 Ib2:Nat->List b7
 (Wd1 d9 d8 f7:Int)
 ie8:Nat
 ie9:Nat->List b7
 (E3 E4 E5:Int)
structure o2 where
 (Xa8 wa5 wa6 wa7:Int)
noncomputable def Ca4(p:P0)(s:o2):St:=⟨.unk::.unk::.ptr 0 0 0 0::.ptr 1 0 0 0::.ptr 2 0 0 0::.ptr 3 0 0 0::ra 4 (.tree 3 p.De1 p.Ib2::i p.Wd1::i s.Xa8::ra 27 []),[⟨0,4,[[i p.d9,i p.d8,i p.f7,.tree 3 p.ie8 p.ie9]],true,false,0⟩,⟨0,3,[[i p.E3,i p.E4,i p.E5]],true,false,0⟩,⟨0,3,[[i 0,i 0,i 0]],true,false,0⟩,⟨0,3,[[i s.wa5,i s.wa6,i s.wa7]],true,false,0⟩]⟩
noncomputable def A1{α:Type}(k:o2->α)(e:Nat->α)(z:α)(p:P0)(s:o2):α:=let t1:=(K8 (⟨s.wa5,s.wa6,s.wa7⟩:V3) (⟨p.E3,p.E4,p.E5⟩:V3));let t2:=(K8 (⟨toI (hdA (p.Ib2 s.Xa8.toNat)),toI (hdA (tlA (p.Ib2 s.Xa8.toNat))),toI (hdA (tlA (tlA (p.Ib2 s.Xa8.toNat))))⟩:V3) (⟨p.E3,p.E4,p.E5⟩:V3));let t3:=(A3 t1 t2);let t4:=(w9 (⟨p.d9,p.d8,p.f7⟩:V3) t3);(sl (decide (s.Xa8<p.Wd1)) (sl (inB s.Xa8 p.De1) (sl ((Nat.ble 3 (len (p.Ib2 s.Xa8.toNat)))&&(na5 [CK.int .i64,CK.int .i64,CK.int .i64] (p.Ib2 s.Xa8.toNat))) (sl (!(((toI (hdA (p.Ib2 s.Xa8.toNat)))==p.E3)&&(((toI (hdA (tlA (p.Ib2 s.Xa8.toNat))))==p.E4)&&(((toI (hdA (tlA (tlA (p.Ib2 s.Xa8.toNat)))))==p.E5)&&true)))) (sl ((s.wa5==p.E3)&&((s.wa6==p.E4)&&((s.wa7==p.E5)&&true))) (k ⟨W (s.Xa8+1),toI (hdA (p.Ib2 s.Xa8.toNat)),toI (hdA (tlA (p.Ib2 s.Xa8.toNat))),toI (hdA (tlA (tlA (p.Ib2 s.Xa8.toNat))))⟩) (sl (decide (t4<0)) (k ⟨W (s.Xa8+1),toI (hdA (p.Ib2 s.Xa8.toNat)),toI (hdA (tlA (p.Ib2 s.Xa8.toNat))),toI (hdA (tlA (tlA (p.Ib2 s.Xa8.toNat))))⟩) (k ⟨W (s.Xa8+1),s.wa5,s.wa6,s.wa7⟩))) (k ⟨W (s.Xa8+1),s.wa5,s.wa6,s.wa7⟩)) z) z) (e 1))
noncomputable def N2(p:P0)(s:o2):Stp o2:=A1 .next .exit .fail p s
noncomputable def na3:Lo P0 o2:=⟨En Ja6,0,ye7,[1,1,0,1,4,4],[2,3,4,5,10,11,12],.p,[⟨sUq::sUq::sPq 0::sPq 1::sPq 2::sPq 3::ru2 4 (sTq 3::sIq::sIq::ru2 27 []),[⟨0,4,true,some [[.o (.int .i64),.o (.int .i64),.o (.int .i64),.o (.tree 3)]]⟩,⟨0,3,true,some [kLq 3]⟩,⟨0,3,true,some [[.o (.lit .i64 0),.o (.lit .i64 0),.o (.lit .i64 0)]]⟩,⟨0,3,true,some [kLq 3]⟩],λa H=>(⟨aNq a 10,aGq a 10,aIq a 11,hIq H 0 0 0,hIq H 0 0 1,hIq H 0 0 2,hNq H 0 0 3,hGq H 0 0 3,hIq H 1 0 0,hIq H 1 0 1,hIq H 1 0 2⟩,⟨aIq a 12,hIq H 3 0 0,hIq H 3 0 1,hIq H 3 0 2⟩)⟩],N2,[(some 0,λp s=>upq (Ca4 p s) [(13,b (decide (s.Xa8<p.Wd1)))])],Ca4⟩
theorem lb5:na3.Ok:=Lo.ok [] (by kernel_rfl) .nil rfl (.cons (λa H=>by kernel_rfl) .nil) λp s=>(.of @A1 (λF _ _ _ _ _=>by unfold A1;(repeat' apply q8 (f:=F))<;>rfl) (by kernel_rfl))
structure fa7 where
 alt:Nat
 (ea0 ea1 ea2:Int)
noncomputable def N7{α:Type}(kk:fa7->α)(x:fa6):α:=let t1:=(lp (N2 (⟨x.vd6,x.Vd7,(↑x.vd6:Int),x.ea0,x.ea1,x.ea2,x.vd6,x.Vd7,x.Vd8,x.Vd9,x.Wd0⟩:P0)) (⟨0,x.Vd8,x.Vd9,x.Wd0⟩:o2));(sl (Nat.beq t1.1 1) (kk ⟨1,t1.2.wa5,t1.2.wa6,t1.2.wa7⟩) (kk ⟨0,0,0,0⟩))
noncomputable def W4(x:fa6):fa7:=N7 (λr=>r) x
noncomputable def qa5(x:fa6)(r:fa7):DT (b7×List c8):=(.ite (Nat.beq r.alt 1) (.ret (.agg [i r.ea0,i r.ea1,i r.ea2],[])) .fail)
theorem Ab0{α β:Type}(F:α->β)(kk:fa7->α)(x:fa6):F (N7 kk x)=N7 (λr=>F (kk r)) x:=by unfold N7;(repeat' apply q8 (f:=F))<;>rfl
noncomputable def Ma6:Sum:=Wa9 ⟨[.agg [.o (.int .i64),.o (.int .i64),.o (.int .i64),.o (.tree 3)],.agg (kLq 3)],[],λa H=>(⟨cIq a 0 0,cIq a 0 1,cIq a 0 2,cNq a 0 3,cGq a 0 3,cIq a 1 0,cIq a 1 1,cIq a 1 2⟩,())⟩ (λx=>qa5 x (W4 x))
theorem ub9:i5 prog G 38 Ma6:=R4 (enc:=λx=>⟨[.agg [i x.ea0,i x.ea1,i x.ea2,.tree 3 x.vd6 x.Vd7],.agg [i x.Vd8,i x.Vd9,i x.Wd0]],[]⟩) (λa H=>by kernel_rfl) (bd b38 ob7) λx=>bb3 (.s .p (.s .p (.s (.s .p (.b (.u na3.ls))) .p))) [na3.pr] (by kernel_rfl) (.cons lb5 .nil) (Eq.trans (b:=N7 (λr=>(qa5 x r).run) x) (by kernel_rfl) (Ab0 (λr=>(qa5 x r).run) (λr=>r) x).symm)
noncomputable def Db5:List (Nat×Sum):=[(36,la8),(35,oa5)]
theorem wc1:k8 prog G Db5:=⟨oa6,ra8,trivial⟩
@[reducible] noncomputable def lb6:Sum:=Ib9 (En Db5) ye5
theorem Db6:i5 prog G 34 lb6:=bd b34 wc1
structure Pa5 where
 (ea0 ea1 ea2 is1 Ic9 Jc0 Jc1:Int)
 Jc2:Nat
 Jc3:Nat->List b7
 d9:Int
noncomputable def Db7:List (Nat×Sum):=[(38,Ma6),(36,la8),(35,oa5),(34,lb6)]
theorem wc2:k8 prog G Db7:=⟨ub9,oa6,ra8,Db6,trivial⟩
structure qa6 where
 (Ic9 Jc0 Jc1:Int)
 Jc2:Nat
 Jc3:Nat->List b7
 (Zb4 E3 E4 E5:Int)
structure S9 where
 (je0 d9 ja2 ja3 ja4:Int)
noncomputable def nb9(p:qa6)(s:S9):St:=⟨.unk::.unk::.fn 100038 [i p.Ic9,i p.Jc0,i p.Jc1,.tree 3 p.Jc2 p.Jc3]::.fn 34 [.ptr 0 0 0 0]::.ptr 1 0 0 0::ra 3 (.ptr 2 0 0 0::ra 5 (i p.Zb4::i s.je0::ra 11 [])),[⟨0,1,[[i s.d9]],true,false,0⟩,⟨0,3,[[i p.E3,i p.E4,i p.E5]],true,false,0⟩,⟨0,3,[[i s.ja2,i s.ja3,i s.ja4]],true,false,0⟩]⟩
noncomputable def Q7{α:Type}(k:S9->α)(e:Nat->α)(z:α)(p:qa6)(s:S9):α:=let t1:=(W4 ⟨p.Ic9,p.Jc0,p.Jc1,p.Jc2,p.Jc3,s.ja2,s.ja3,s.ja4⟩);let t2:=(A3 (⟨p.E3,p.E4,p.E5⟩:V3) (⟨s.ja2,s.ja3,s.ja4⟩:V3));let t3:=(w9 t2 (⟨t1.ea0,t1.ea1,t1.ea2⟩:V3));(sl (decide (s.je0<p.Zb4)) (sl (Nat.beq t1.alt 1) (k ⟨W (s.je0+1),W (s.d9+t3),t1.ea0,t1.ea1,t1.ea2⟩) z) (e 1))
noncomputable def la3(p:qa6)(s:S9):Stp S9:=Q7 .next .exit .fail p s
noncomputable def Wa5:Lo qa6 S9:=⟨En Db7,1,ye6,[1,1,1,4,4],[2,3,4,8,14,15],.p,[⟨sUq::sUq::.fn 100038 [.o (.int .i64),.o (.int .i64),.o (.int .i64),.o (.tree 3)]::.fn 34 [.o (.ptr 0 0 0 0)]::sPq 1::ru2 3 (sPq 2::ru2 5 (sIq::sIq::ru2 11 [])),[⟨0,1,true,some [[.o (.int .i64)]]⟩,⟨0,3,true,some [kLq 3]⟩,⟨0,3,true,some [kLq 3]⟩],λa H=>(⟨cIq a 2 0,cIq a 2 1,cIq a 2 2,cNq a 2 3,cGq a 2 3,aIq a 14,hIq H 1 0 0,hIq H 1 0 1,hIq H 1 0 2⟩,⟨aIq a 15,hIq H 0 0 0,hIq H 2 0 0,hIq H 2 0 1,hIq H 2 0 2⟩)⟩],la3,[(some 0,λp s=>upq (nb9 p s) [(16,b (decide (s.je0<p.Zb4)))])],nb9⟩
theorem ic3:Wa5.Ok:=Lo.ok [] (by kernel_rfl) .nil rfl (.cons (λa H=>by kernel_rfl) .nil) λp s=>(.of @Q7 (λF _ _ _ _ _=>by unfold Q7;(repeat' apply q8 (f:=F))<;>rfl) (by kernel_rfl))
structure Pa6 where
 alt:Nat
 d9:Int
noncomputable def ta0{α:Type}(kk:Pa6->α)(x:Pa5):α:=let t1:=(W4 ⟨x.Ic9,x.Jc0,x.Jc1,x.Jc2,x.Jc3,x.ea0,x.ea1,x.ea2⟩);let t2:=(lp (la3 (⟨x.Ic9,x.Jc0,x.Jc1,x.Jc2,x.Jc3,W (x.is1-2),x.ea0,x.ea1,x.ea2⟩:qa6)) (⟨0,x.d9,t1.ea0,t1.ea1,t1.ea2⟩:S9));(sl (Nat.beq t1.alt 1) (sl (Nat.beq t2.1 1) (kk ⟨1,t2.2.d9⟩) (kk ⟨0,0⟩)) (kk ⟨0,0⟩))
noncomputable def Pa7(x:Pa5):Pa6:=ta0 (λr=>r) x
noncomputable def db8(x:Pa5)(r:Pa6):DT (b7×List c8):=(.ite (Nat.beq r.alt 1) (.ret (.tup [],[⟨0,1,[[i r.d9]],true,false,0⟩])) .fail)
theorem Rc3{α β:Type}(F:α->β)(kk:Pa6->α)(x:Pa5):F (ta0 kk x)=ta0 (λr=>F (kk r)) x:=by unfold ta0;(repeat' apply q8 (f:=F))<;>rfl
noncomputable def Rb0:Sum:=Wa9 ⟨[.agg (kLq 3),sIq,.fn 100038 [.o (.int .i64),.o (.int .i64),.o (.int .i64),.o (.tree 3)],.fn 34 [.o (.ptr 0 0 0 0)]],[⟨0,1,true,some [[.o (.int .i64)]]⟩],λa H=>(⟨cIq a 0 0,cIq a 0 1,cIq a 0 2,aIq a 1,cIq a 2 0,cIq a 2 1,cIq a 2 2,cNq a 2 3,cGq a 2 3,hIq H 0 0 0⟩,())⟩ (λx=>db8 x (Pa7 x))
theorem Bc6:i5 prog G 37 Rb0:=R4 (enc:=λx=>⟨[.agg [i x.ea0,i x.ea1,i x.ea2],i x.is1,.fn 100038 [i x.Ic9,i x.Jc0,i x.Jc1,.tree 3 x.Jc2 x.Jc3],.fn 34 [.ptr 0 0 0 0]],[⟨0,1,[[i x.d9]],true,false,0⟩]⟩) (λa H=>by kernel_rfl) (bd b37 wc2) λx=>bb3 (.s .p (.s .p (.s .p (.b (.u Wa5.ls))))) [Wa5.pr] (by kernel_rfl) (.cons ic3 .nil) (Eq.trans (b:=ta0 (λr=>(db8 x r).run) x) (by kernel_rfl) (Rc3 (λr=>(db8 x r).run) (λr=>r) x).symm)
theorem Rc4:Ha4 []=X5 []/\Ha5 []=true:=by
 have h:ua9 []=some (.tup [.v (.slice none 0 0),i 11],[]):=by
  unfold ua9;simp only[o6,ha9,l9,vc2 [] (by simp),vc1 [] (by simp),Qb7]
  rfl
 unfold Ha4 Ha5 X5;rw[h,Qb7];exact⟨rfl,rfl⟩
theorem Be7:La9 []=hc9 []/\Ma0 []=true:=by
 have h:ka9 []=some (.tup [.v (.slice none 0 0),i 11],[]):=by
  unfold ka9;simp only[o6,ha9,l9,Rc4.1,Rc4.2,X5,Qb7];rfl
 unfold La9 Ma0 hc9;rw[h,Qb7];exact⟨rfl,rfl⟩
theorem td8 {α : Type} {f : Nat} {c : Cod α} {k kA kB : α → DT (b7 × List c8)} (hA : i5 prog G f (L4 c kA)) (hB : i5 prog G f (L4 c kB))
  (h:∀a r,(k a).run=some r->(kA a).run=some r\/(kB a).run=some r):i5 prog G f (L4 c k):=λargs blks r out he=>by
 unfold L4 at he
 split at he
 ·rename_i x;cases hd:c.dec x with
  |none=>rw[hd] at he;cases he
  |some a =>
   rw[hd] at he;obtain⟨h1,h2⟩:=DT.run_guard_some (show (DT.guard (c.grd x) (k a)).run=some (r,out) from he)
   rcases h a _ h2 with q|q
   ·refine hA [x] [] r out ?_;show (onO (c.dec x) λa=>DT.guard (c.grd x) (kA a)).run=_
    rw[hd];show (DT.guard (c.grd x) (kA a)).run=_;rw[h1];exact q
   ·refine hB [x] [] r out ?_;show (onO (c.dec x) λa=>DT.guard (c.grd x) (kB a)).run=_
    rw[hd];show (DT.guard (c.grd x) (kB a)).run=_;rw[h1];exact q
 ·cases he
noncomputable def va2(l:List V3):List Pln×Int:=X5 l
noncomputable def ma5(l:List V3):Bool:=decide (l.length<=900000)
noncomputable def db9:Sum:=L4 (xa0 tV) λl=>.guard (ma5 l) (.ret ((two (r1L tP) r1I).enc (va2 l),[]))
theorem vb0:i5 prog G 22 db9:=td8 ub8 tb8 λl r hr=>by
 obtain⟨hg,hr⟩:=DT.run_guard_some hr;cases l with
 |nil=>right;rw[Rc4.1,Rc4.2];exact hr
 |cons a c =>
  left
  have:=of_decide_eq_true hg
  rw[show va1 (a::c)=true from decide_eq_true ⟨by simp,this⟩]
  exact hr
noncomputable def Ma3(l:List V3):List V3×Int:=hc9 l
noncomputable def Ma4(l:List V3):Bool:=decide (l.length<=900000)
noncomputable def ob0:Sum:=L4 (xa0 tV) λl=>.guard (Ma4 l) (.ret ((two (r1L tV) r1I).enc (Ma3 l),[]))
theorem Zb0:i5 prog G 32 ob0:=td8 Yb9 Xb4 λl r hr=>by
 obtain⟨hg,hr⟩:=DT.run_guard_some hr;cases l with
 |nil=>right;rw[Be7.1,Be7.2];exact hr
 |cons a c =>
  left
  have:=of_decide_eq_true hg
  rw[show nb8 (a::c)=true from decide_eq_true ⟨by simp,this⟩]
  exact hr
noncomputable def eb0:List (Nat×Sum):=[(32,ob0),(22,db9),(30,ia6),(37,Rb0),(34,lb6)]
theorem wc3:k8 prog G eb0:=⟨Zb0,vb0,la9,Bc6,Db6,trivial⟩
structure N4 where
 ob3:List V3
 ha6:List Pln
 (od5 eb1:Int)
 xa9:List V3
 (od6 d9 E3 E4 E5 Pa9 ja2 ja3 ja4:Int)
structure o9 where
 ph:Nat
 Xa9:Int
 Qa0:Nat
 eh3:List (List b7)
noncomputable def hb9(p:N4)(s:o9):St:=⟨ra 4 (eL tV p.ob3::.unk::.unk::.ptr 0 0 0 0::.fn 34 [.ptr 0 0 0 0]::.unk::.ptr 1 0 0 0::.ptr 2 0 0 0::ra 19 (eL tP p.ha6::i p.od5::i p.eb1::ra 6 (eL tV p.xa9::i p.od6::i s.Xa9::ra 31 []))),[⟨0,1,[[i p.d9]],true,false,0⟩,⟨0,4,[[i p.E3,i p.E4,i p.E5,i p.Pa9]],true,false,0⟩,⟨0,0,[[i p.ja2,i p.ja3,i p.ja4,.v (.slice none 0 0)]],true,false,0⟩]⟩
noncomputable def ib0(p:N4)(s:o9):St:=⟨ra 4 (eL tV p.ob3::.unk::.unk::.ptr 0 0 0 0::.fn 34 [.ptr 0 0 0 0]::.unk::.ptr 1 0 0 0::.ptr 2 0 0 0::ra 19 (eL tP p.ha6::i p.od5::i p.eb1::ra 6 (eL tV p.xa9::i p.od6::i s.Xa9::ra 31 []))),[⟨0,1,[[i p.d9]],true,false,0⟩,⟨0,4,[[i p.E3,i p.E4,i p.E5,i p.Pa9]],true,false,0⟩,⟨0,0,[[i p.ja2,i p.ja3,i p.ja4,.sl 3 0 s.Qa0 0]],true,false,0⟩,⟨25,3,s.eh3,true,false,0⟩]⟩
noncomputable def ic4(p:N4)(s:o9):St:=(sel (Nat.beq s.ph 1) (ib0 p s) (hb9 p s))
noncomputable def Q8{α:Type}(k:o9->α)(e:Nat->α)(z:α)(p:N4)(s:o9):α:=let t1:=(C7 (⟨(⟨p.E3,p.E4,p.E5⟩:V3),p.Pa9⟩:Pln) (gL tV p.xa9 s.Xa9.toNat));(sl (decide (s.Xa9<p.od6)) (sl (inB s.Xa9 (List.length p.xa9)) (sl (L9 (⟨(⟨p.E3,p.E4,p.E5⟩:V3),p.Pa9⟩:Pln) (gL tV p.xa9 s.Xa9.toNat)) (sl (t1==0) (k ⟨1,W (s.Xa9+1),1,[[i (gL tV p.xa9 s.Xa9.toNat).x,i (gL tV p.xa9 s.Xa9.toNat).y,i (gL tV p.xa9 s.Xa9.toNat).z]]⟩) (k ⟨0,W (s.Xa9+1),0,[]⟩)) z) z) (e 1))
noncomputable def Q9{α:Type}(k:o9->α)(e:Nat->α)(z:α)(p:N4)(s:o9):α:=let t1:=(C7 (⟨(⟨p.E3,p.E4,p.E5⟩:V3),p.Pa9⟩:Pln) (gL tV p.xa9 s.Xa9.toNat));(sl (decide (s.Xa9<p.od6)) (sl (inB s.Xa9 (List.length p.xa9)) (sl (L9 (⟨(⟨p.E3,p.E4,p.E5⟩:V3),p.Pa9⟩:Pln) (gL tV p.xa9 s.Xa9.toNat)) (sl (t1==0) (sl (Nat.beq s.Qa0 (len s.eh3)&&Nat.ble ((s.Qa0+1)*24) room) (k ⟨1,W (s.Xa9+1),s.Qa0+1,app s.eh3 [[i (gL tV p.xa9 s.Xa9.toNat).x,i (gL tV p.xa9 s.Xa9.toNat).y,i (gL tV p.xa9 s.Xa9.toNat).z]]⟩) z) (k ⟨1,W (s.Xa9+1),s.Qa0,s.eh3⟩)) z) z) (e 2))
noncomputable def la4(p:N4)(s:o9):Stp o9:=(sel (Nat.beq s.ph 1) (Q9 .next .exit .fail p s) (Q8 .next .exit .fail p s))
noncomputable def Wa6:Lo N4 o9:=⟨En eb0,0,qe1,[1,1,1,1,1,1,1,0,1,4,4,1,1,0,4,1,1,0,1,4,4],[4,7,8,10,11,31,32,33,40,41,42],.p,[⟨ru2 4 (sLq tV::sUq::sUq::sPq 0::.fn 34 [.o (.ptr 0 0 0 0)]::sUq::sPq 1::sPq 2::ru2 19 (sLq tP::sIq::sIq::ru2 6 (sLq tV::sIq::sIq::ru2 31 []))),[⟨0,1,true,some [[.o (.int .i64)]]⟩,⟨0,4,true,some [kLq 4]⟩,⟨0,0,true,some [[.o (.int .i64),.o (.int .i64),.o (.int .i64),.o .nil]]⟩],λa H=>(⟨aLq tV a 4,aLq tP a 31,aIq a 32,aIq a 33,aLq tV a 40,aIq a 41,hIq H 0 0 0,hIq H 1 0 0,hIq H 1 0 1,hIq H 1 0 2,hIq H 1 0 3,hIq H 2 0 0,hIq H 2 0 1,hIq H 2 0 2⟩,⟨0,aIq a 42,0,[]⟩)⟩,⟨ru2 4 (sLq tV::sUq::sUq::sPq 0::.fn 34 [.o (.ptr 0 0 0 0)]::sUq::sPq 1::sPq 2::ru2 19 (sLq tP::sIq::sIq::ru2 6 (sLq tV::sIq::sIq::ru2 31 []))),[⟨0,1,true,some [[.o (.int .i64)]]⟩,⟨0,4,true,some [kLq 4]⟩,⟨0,0,true,some [[.o (.int .i64),.o (.int .i64),.o (.int .i64),.o (.sl 3 0 (some 0) none)]]⟩,⟨25,3,true,none⟩],λa H=>(⟨aLq tV a 4,aLq tP a 31,aIq a 32,aIq a 33,aLq tV a 40,aIq a 41,hIq H 0 0 0,hIq H 1 0 0,hIq H 1 0 1,hIq H 1 0 2,hIq H 1 0 3,hIq H 2 0 0,hIq H 2 0 1,hIq H 2 0 2⟩,⟨1,aIq a 42,slN (slT (rwT (elT H 2) 0) 3),elT H 3⟩)⟩],la4,[(some 2,λp s=>upq (hb9 p s) [(43,b (decide (s.Xa9<p.od6)))]),(some 2,λp s=>upq (ib0 p s) [(43,b (decide (s.Xa9<p.od6)))])],ic4⟩
theorem ic5:Wa6.OkM:=Lo.okM [] (by kernel_rfl) .nil rfl (.cons (λa H=>by kernel_rfl) (.cons (λa H=>by kernel_rfl) .nil)) λp s=>(.sel (Nat.beq s.ph 1) (.of @Q9 (λF _ _ _ _ _=>by unfold Q9;(repeat' apply q8 (f:=F))<;>rfl) (by kernel_rfl)) (.of @Q8 (λF _ _ _ _ _=>by unfold Q8;(repeat' apply q8 (f:=F))<;>rfl) (by kernel_rfl)))
structure qa7 where
 od5:Int
structure J7 where
 ob3:List V3
 ha6:List Pln
 (eb1 d9:Int)
noncomputable def ob1(p:qa7)(s:J7):St:=⟨ra 4 (eL tV s.ob3::.unk::.unk::.ptr 0 0 0 0::.fn 34 [.ptr 0 0 0 0]::ra 22 (eL tP s.ha6::i p.od5::i s.eb1::ra 40 [])),[⟨0,1,[[i s.d9]],true,false,0⟩]⟩
noncomputable def R2{α:Type}(k:J7->α)(e:Nat->α)(z:α)(p:qa7)(s:J7):α:=let t1:=(lp (la4 (⟨rt tV s.ob3,rt tP s.ha6,p.od5,s.eb1,rt tV s.ob3,(↑(List.length s.ob3):Int),s.d9,(gL tP s.ha6 s.eb1.toNat).n.x,(gL tP s.ha6 s.eb1.toNat).n.y,(gL tP s.ha6 s.eb1.toNat).n.z,(gL tP s.ha6 s.eb1.toNat).b,(gL tP s.ha6 s.eb1.toNat).n.x,(gL tP s.ha6 s.eb1.toNat).n.y,(gL tP s.ha6 s.eb1.toNat).n.z⟩:N4)) (⟨0,0,0,[]⟩:o9));let t2:=(Pa7 ⟨(rdR tV t1.2.eh3 0).x,(rdR tV t1.2.eh3 0).y,(rdR tV t1.2.eh3 0).z,(↑t1.2.Qa0:Int),(gL tP s.ha6 s.eb1.toNat).n.x,(gL tP s.ha6 s.eb1.toNat).n.y,(gL tP s.ha6 s.eb1.toNat).n.z,t1.2.Qa0,(λk=>i8 t1.2.eh3 (0+k)),s.d9⟩);(sl (decide (s.eb1<p.od5)) (sl (inB s.eb1 (List.length s.ha6)) (sl ((cnE tV s.ob3)&&((cnE tP s.ha6)&&((cnE tV s.ob3)&&true))) (sl (Nat.beq t1.1 1) (k ⟨rt tV s.ob3,rt tP s.ha6,W (s.eb1+1),s.d9⟩) (sl (Nat.beq t1.1 2) (sl (decide ((↑t1.2.Qa0:Int)>2)) (sl (inB 0 t1.2.Qa0) (sl (ldR tV t1.2.eh3 0) (sl (Nat.beq t2.alt 1) (k ⟨rt tV s.ob3,rt tP s.ha6,W (s.eb1+1),t2.d9⟩) z) z) z) (k ⟨rt tV s.ob3,rt tP s.ha6,W (s.eb1+1),s.d9⟩)) z)) z) z) (e 1))
noncomputable def la5(p:qa7)(s:J7):Stp J7:=R2 .next .exit .fail p s
noncomputable def Wa7:Lo qa7 J7:=⟨En eb0,0,qe1,[1,1,1,1,1,1,1,0,1,4,4],[4,7,8,31,32,33],.s .p (.s .p (.s (.b (.s .p (.s .p (.s (.s .p (.b (.u Wa6.lsM))) .p)))) .p)),[⟨ru2 4 (sLq tV::sUq::sUq::sPq 0::.fn 34 [.o (.ptr 0 0 0 0)]::ru2 22 (sLq tP::sIq::sIq::ru2 40 [])),[⟨0,1,true,some [[.o (.int .i64)]]⟩],λa H=>(⟨aIq a 32⟩,⟨aLq tV a 4,aLq tP a 31,aIq a 33,hIq H 0 0 0⟩)⟩],la5,[(some 0,λp s=>upq (ob1 p s) [(34,b (decide (s.eb1<p.od5)))])],ob1⟩
theorem ic6:Wa7.OkM:=Lo.okM [Wa6.prM] (by kernel_rfl) (.cons ic5 .nil) rfl (.cons (λa H=>by kernel_rfl) .nil) λp s=>(.of @R2 (λF _ _ _ _ _=>by unfold R2;(repeat' apply q8 (f:=F))<;>rfl) (by kernel_rfl))
noncomputable def Ca5(x:List V3):Option (b7×List c8):=let t1:=(Ma3 (rt tV x));let t2:=(va2 (rt tV t1.1));let t3:=(lp (la5 (⟨(↑(List.length t2.1):Int)⟩:qa7)) (⟨rt tV t1.1,rt tP t2.1,0,0⟩:J7));(sl (okE tV x) (sl (Ma4 (rt tV x)) (sl (t1.2 != 0) (some (.tup [i 0,i t1.2],[])) (sl (okE tV t1.1) (sl (ma5 (rt tV t1.1)) (sl (t2.2 != 0) (some (.tup [i 0,i t2.2],[])) (sl ((cnE tV t1.1)&&((cnE tP t2.1)&&true)) (sl (Nat.beq t3.1 1) (some (.tup [i t3.2.d9,i 0],[])) none) none)) none) none)) none) none)
noncomputable def D6(x:List V3):Int×Int:=V1 (two r1I r1I) (Ca5 x)
noncomputable def B9(x:List V3):Bool:=okO (two r1I r1I) (Ca5 x)
noncomputable def Ca6:Sum:=L4 (xa0 tV) (λx=>.guard (B9 x) (.ret ((two r1I r1I).enc (D6 x),[])))
theorem Ha8:i5 prog G 11 Ca6:=Ea5 (bd b11 wc3) (two r1I r1I) (o:=Ca5) λx=>Gc0 (.s .p (.s .p (.s .p (.s .p (.s .p (.s .p (.s .p (.s (.s .p (.b (.u Wa7.lsM))) .p)))))))) [Wa7.prM] (by kernel_rfl) (.cons ic6 .nil) (by kernel_rfl)
end Go.Ev.Ce
namespace Go.Ev.Ce
def sig{α:Type}(l:List α)(f:α->Int):Int:=l.foldr (λx s=>f x+s) 0
section
variable{α β:Type}
theorem Pa8(f:α->Int):sig [] f=0:=rfl
theorem m9(x:α)(l:List α)(f:α->Int):sig (x::l) f=f x+sig l f:=rfl
theorem yb5(f:α->Int):∀a c:List α,sig (a++c) f=sig a f+sig c f
 |[],c=>by rw[List.nil_append,Pa8,Qjau]
 |x::a,c=>by rw[List.cons_append,m9,m9,yb5 f a c,Int.add_assoc]
theorem U8{f g:α->Int}:∀{l:List α},(∀x∈l,f x=g x)->sig l f=sig l g
 |[],_=>rfl
 |x::l,h=>by rw[m9,m9,h x (by simp),U8 λy hy=>h y (by simp[hy])]
theorem td9(f g:α->Int):∀l:List α,sig l (λx=>f x+g x)=sig l f+sig l g
 |[]=>rfl
 |x::l=>by rw[m9,m9,m9,td9 f g l];omega
theorem Rb1(f g:α->Int):∀l:List α,sig l (λx=>f x-g x)=sig l f-sig l g
 |[]=>rfl
 |x::l=>by rw[m9,m9,m9,Rb1 f g l];omega
theorem Rc5(f:α->Int):∀l:List α,sig l (λx=>-f x)=-sig l f
 |[]=>rfl
 |x::l=>by rw[m9,m9,Rc5 f l];omega
theorem ud0(k:Int)(f:α->Int):∀l:List α,sig l (λx=>k*f x)=k*sig l f
 |[]=>by rw[Pa8,Pa8,Qjn]
 |x::l=>by rw[m9,m9,ud0 k f l,Int.mul_add]
theorem Ca7{f:α->Int}:∀{l:List α},(∀x∈l,f x=0)->sig l f=0
 |[],_=>rfl
 |x::l,h=>by rw[m9,h x (by simp),Ca7 λy hy=>h y (by simp[hy]),Qjau]
theorem Rb2(c:List β)(f:α->β->Int):∀a:List α,sig a (λx=>sig c (f x))=sig c (λy=>sig a (λx=>f x y))
 |[]=>(Ca7 λ_ _=>rfl).symm
 |x::a=>by rw[m9,Rb2 c f a,<- td9];exact U8 λy _=>rfl
theorem dd7{f:α->Int}{a c:List α}(h:a.Perm c):sig a f=sig c f:=by
 induction h with
 |nil=>rfl
 |cons x _ ih=>rw[m9,m9,ih]
 |swap x y l=>rw[m9,m9,m9,m9];omega
 |trans _ _ h1 h2=>rw[h1,h2]
theorem lc1(g:α->β)(f:β->Int):∀l:List α,sig (l.map g) f=sig l (λx=>f (g x))
 |[]=>rfl
 |x::l=>by rw[List.map_cons,m9,m9,lc1 g f l]
theorem lb7(c:α->Bool)(f:α->Int):∀l:List α,sig (l.filter c) f=sig l (λx=>if c x=true then f x else 0)
 |[]=>rfl
 |x::l=>by
  rw[Qju,m9];split
  ·rw[m9,lb7 c f l]
  ·rw[lb7 c f l,Qjau]
theorem Rd9{f g:α->Int}:∀{l:List α},(∀x∈l,f x<=g x)->sig l f<=sig l g
 |[],_=>Int.le_refl _
 |x::l,h=>by
  rw[m9,m9]
  have:=h x (by simp)
  have:=Rd9 (l:=l) λy hy=>h y (by simp[hy])
  omega
theorem wc4{f:α->Int}{l:List α}(h:∀x∈l,0<=f x):0<=sig l f:=by
 have:=Rd9 (f:=λ_=>0) h
 rw[Ca7 (λ_ _=>rfl)] at this
 exact this
theorem lb8{f:α->Int}{x:α}:∀{l:List α},l.Nodup->x∈l->(∀y∈l,y≠x->f y=0)->sig l f=f x
 |[],_,h,_=>by cases h
 |y::l,hn,hx,h=>by
  obtain⟨h1,h2⟩:=List.nodup_cons.1 hn;rw[m9]
  rcases Qjj.1 hx with rfl|hx
  ·rw[Ca7 (λz hz=>h z (by simp[hz]) λe=>h1 (e ▸ hz)),Int.add_zero]
  ·rw[h y (by simp) (λe=>h1 (e ▸ hx)),lb8 h2 hx λz hz=>h z (by simp[hz]),Qjau]
theorem ge7{a c:List α}(ha:a.Nodup)(hc:c.Nodup)(h:∀x,x∈a↔x∈c):a.Perm c:=(List.perm_ext_iff_of_nodup ha hc).2 h
theorem dd8{a c:List α}(ha:a.Nodup)(hc:c.Nodup)(hs:∀x∈a,x∈c)(hl:c.length<=a.length):a.Perm c:=by
 refine ge7 ha hc λx=>⟨hs x,λhx=>?_⟩
 apply Qjaf;intro hn
 have:=List.Nodup.length_le_of_subset (List.nodup_cons.2 ⟨hn,ha⟩) (λy hy=>(Qjj.1 hy).elim (λe=>e ▸ hx) (hs y))
 simp only[List.length_cons] at this;omega
theorem Sd0{a:List α}{f:α->α->Int}(h:∀x∈a,∀y∈a,f x y=-f y x):sig a (λx=>sig a (f x))=0:=by
 have e1:=Rb2 a f a;have e2:sig a (λy=>sig a λx=>f x y)=-sig a (λy=>sig a (f y)):=by
  rw[<- Rc5];refine U8 λy hy=>?_
  rw[<- Rc5];exact U8 λx hx=>h x hx y hy
 omega
end
end Go.Ev.Ce
namespace Go.Ev.Ce
open Go Go.Ev Go.Ev.L Go.Proofs
structure Ins(r:List Pln)(x:Pt):Prop where
 w:0<x.pw
 h:∀p∈r,0<rmZ p x
theorem Ins.inr{r:List Pln}{x:Pt}(h:Ins r x):Inr r x:=⟨h.w,λp hp=>Int.le_of_lt (h.h p hp)⟩
theorem Ins.mono{r r':List Pln}{x:Pt}(h:Ins r x)(hs:∀p∈r',p∈r):Ins r' x:=⟨h.w,λp hp=>h.h p (hs p hp)⟩
theorem Inr.mono{r r':List Pln}{x:Pt}(h:Inr r x)(hs:∀p∈r',p∈r):Inr r' x:=⟨h.w,λp hp=>h.h p (hs p hp)⟩
theorem Ins.app{r r':List Pln}{x:Pt}(h:Ins r x)(h':Ins r' x):Ins (r++r') x:=⟨h.w,λp hp=>(Qjae.1 hp).elim (h.h p) (h'.h p)⟩
theorem Inr.app{r r':List Pln}{x:Pt}(h:Inr r x)(h':Inr r' x):Inr (r++r') x:=⟨h.w,λp hp=>(Qjae.1 hp).elim (h.h p) (h'.h p)⟩
theorem far{f g:Pln->Int}:∀l:List Pln,(∀p∈l,0<f p)->∃N:Int,0<=N/\∀M,N<=M->∀p∈l,0<M*f p+g p
 |[],_=>⟨0,Int.le_refl _,λ_ _ p hp=>by cases hp⟩
 |a::l,h=>by
  obtain⟨N,h0,h1⟩:=far l λp hp=>h p (List.mem_cons_of_mem _ hp)
  have ha:=h a Qjk;refine⟨max N ((g a).natAbs+1),by omega,λM hM p hp=>?_⟩
  rcases Qjj.1 hp with rfl|hp
  ·have:M*1<=M*f p:=Qjao (by omega) (by omega)
   omega
  ·exact h1 M (by omega) p hp
theorem ue5:∀p∈ws,okp p=true:=Qja.1 (by decide)
theorem da6{n:V3}(h:n≠⟨0,0,0⟩):0<dot n n:=by
 have k:∀a:Int,0<=a*a/\(a≠0->0<a*a):=λa=>by
  rcases Int.lt_trichotomy a 0 with h|h|h
  ·have:=Qjas h h;exact⟨by omega,λ_=>this⟩
  ·subst h;exact⟨by decide,λh=>absurd rfl h⟩
  ·have:=Int.mul_pos h h;exact⟨by omega,λ_=>this⟩
 unfold dot
 have:=k n.x;have:=k n.y;have:=k n.z
 by_cases hx:n.x=0
 ·by_cases hy:n.y=0
  ·by_cases hz:n.z=0
   ·exact absurd (Qjaz hx hy hz) h
   ·have:=(k n.z).2 hz;omega
  ·have:=(k n.y).2 hy;omega
 ·have:=(k n.x).2 hx;omega
theorem pc5{c:List Pln}(h:(chk c==0)=true):∀p∈c++ws,okp p=true:=λp hp=>by
 rw[beq_iff_eq,tc8] at h
 rcases Qjae.1 hp with hp|hp
 ·exact h.2 p hp
 ·exact ue5 p hp
def Fv:V3:=⟨10000,100,1⟩
structure Crs(l:List V3)(p:Pln)(v:V3):Prop where
 h:∃u w,u∈l/\w∈l/\dot p.n u=p.b/\dot p.n w=p.b/\dot Fv w<dot Fv v/\dot Fv v<dot Fv u/\N3 v u w≠⟨0,0,0⟩
 on:dot p.n v=p.b
section
variable{l:List V3}(hl:l.all inV=true)
include hl
theorem Rb3(hs:Sol l){p q:Pln}(hp:Ca2 l p)(hq:Ca2 l q){u w x:V3}(hu:u∈l)(hw:w∈l)(hx:x∈l)(h3:N3 u w x≠⟨0,0,0⟩)(p1:dot p.n u=p.b)(p2:dot p.n w=p.b)(p3:dot p.n x=p.b)(q1:dot q.n u=q.b)(q2:dot q.n w=q.b)(q3:dot q.n x=q.b):p=q:=by
 have hi:=Qja.1 hl;have hT:=(da4 (va0 (hi u hu) (hi w hw) (hi x hx) h3)).2;have fl:∀{p:Pln},Ca2 l p->Ca2 l (Z0 p)->False:=λ{p} h h'=>by
  obtain⟨v,hv,hne⟩:=hs.off (ab1 h.ok) p.b;have a:=h.hd v hv;have c:=h'.hd v hv;rw[ub6] at c;have c:-dot p.n v<=-p.b:=c;omega
 rcases ub7 hT hp.ok p1 p2 p3 with e|e<;>rcases ub7 hT hq.ok q1 q2 q3 with e'|e'
 ·rw[e,e']
 ·rw[e',<- e] at hq;exact (fl hp hq).elim
 ·rw[e,<- e'] at hp;exact (fl hq hp).elim
 ·rw[e,e']
end
theorem dd9{α β:Type}{R:α->β->Prop}{X:List α}{L:List β}(hX:X.Nodup)(h:∀q∈X,∃y∈L,R q y)(hi:∀q∈X,∀r∈X,∀y,R q y->R r y->q=r):X.length<=L.length:=by
 have h':∀q:{ q // q∈X },∃y,y∈L/\R q.1 y:=λq=>by
  obtain⟨y,h1,h2⟩:=h q.1 q.2;exact⟨y,h1,h2⟩
 obtain⟨f,hf⟩:=Classical.axiomOfChoice h';have hn:(X.attach.map f).Nodup:=by
  unfold List.Nodup;rw[List.pairwise_map];have hXa:X.attach.Nodup:=by
   unfold List.Nodup;have h0:(X.attach.map Subtype.val).Nodup:=by rw[List.attach_map_subtype_val];exact hX
   unfold List.Nodup at h0;rw[List.pairwise_map] at h0;exact h0.imp λhne e=>hne (by rw[e])
  refine List.Pairwise.imp (λ{a c} hne e=>hne (Subtype.ext (hi a.1 a.2 c.1 c.2 (f a) (hf a).2 (by rw[e];exact (hf c).2)))) hXa
 have:=List.Nodup.length_le_of_subset hn λy hy=>by
  obtain⟨q,_,rfl⟩:=Qjp.1 hy;exact (hf q).1
 simpa using this
theorem na9{n N d:V3}(h:c7 n N=⟨0,0,0⟩):dot N N*dot n d=dot n N*dot N d:=by
 have e:dot N N*dot n d-dot n N*dot N d=dot (c7 n N) (c7 d N):=by simp only[dot,c7];grind
 rw[h] at e;have z:dot ⟨0,0,0⟩ (c7 d N)=0:=by simp[dot]
 rw[z] at e;exact Int.eq_of_sub_eq_zero e
theorem qa8{n a c:V3}(h1:dot n a=0)(h2:dot n c=0):c7 n (c7 a c)=⟨0,0,0⟩:=by
 refine Qjaz ?_ ?_ ?_
 ·have:(c7 n (c7 a c)).x=a.x*dot n c-c.x*dot n a:=by simp only[c7,dot];grind
  rw[this,h1,h2];simp
 ·have:(c7 n (c7 a c)).y=a.y*dot n c-c.y*dot n a:=by simp only[c7,dot];grind
  rw[this,h1,h2];simp
 ·have:(c7 n (c7 a c)).z=a.z*dot n c-c.z*dot n a:=by simp only[c7,dot];grind
  rw[this,h1,h2];simp
theorem F9(n a c:V3):dot n (e7 a c)=dot n a-dot n c:=by simp only[dot,e7];grind
theorem Rc6 {l : List V3} (hl : l.all inV = true) {n u w x : V3} (hu : u ∈ l) (hw : w ∈ l) (hx : x ∈ l) (h3 : N3 u w x ≠ ⟨0, 0, 0⟩) (hle : ∀ v ∈ l, dot n v ≤ dot n u) (e1 : dot n w = dot n u) (e2 : dot n x = dot n u) (hoff : ∃ v ∈ l, dot n v ≠ dot n u) :
  ∃p,Ca2 l p/\dot p.n u=p.b/\dot p.n w=p.b/\dot p.n x=p.b:=by
 have hi:=Qja.1 hl;have hT:=(da4 (va0 (hi u hu) (hi w hw) (hi x hx) h3)).2;obtain⟨s1,s2,s3⟩:=uc7 hT;have hT0:=hT;obtain⟨ok,⟨g,hg,g1,g2,g3'⟩,_⟩:=hT;generalize (A8 u w x).1=p at *
 have hN:dot (N3 u w x) (N3 u w x)>0:=da6 h3;have hpar:c7 n (N3 u w x)=⟨0,0,0⟩:=by
  have a1:dot n (e7 w u)=0:=by rw[F9];omega
  have a2:dot n (e7 x u)=0:=by rw[F9];omega
  exact qa8 a1 a2
 have hd:∀v,dot (N3 u w x) (N3 u w x)*(dot n v-dot n u)=dot n (N3 u w x)*(g*(dot p.n v-p.b)):=λv=>by
  rw[<- F9,na9 hpar,<- s1];congr 1
  have:g*(dot p.n v-dot p.n u)=(g*p.n.x)*(v.x-u.x)+(g*p.n.y)*(v.y-u.y)+(g*p.n.z)*(v.z-u.z):=by simp only[dot];grind
  rw[this,g1,g2,g3'];simp only[N3,dot,e7,c7,sub]
 rcases Int.lt_trichotomy (dot n (N3 u w x)) 0 with h|h|h
 ·refine⟨Z0 p,Qb4 hu hw hx hT0 λv hv=>?_,(Fa8 p u).2 s1,(Fa8 p w).2 s2,(Fa8 p x).2 s3⟩
  rw[ub6];show -dot p.n v<=-p.b;have k1:=hd v;have k2:dot (N3 u w x) (N3 u w x)*(dot n v-dot n u)<=0:=Qjr (by omega) (by have:=hle v hv;omega)
  apply Qjaf;intro hno
  have:=Qjas h (Int.mul_neg_of_pos_of_neg hg (show dot p.n v-p.b<0 by omega))
  omega
 ·exfalso;obtain⟨v,hv,hne⟩:=hoff;have k1:=hd v;rw[h,Qjah] at k1
  have:=(Qjg.1 k1).resolve_left (by omega)
  omega
 ·refine⟨p,kc9 hu hw hx hT0 λv hv=>?_,s1,s2,s3⟩
  have k1:=hd v;have k2:dot (N3 u w x) (N3 u w x)*(dot n v-dot n u)<=0:=Qjr (by omega) (by have:=hle v hv;omega)
  apply Qjaf;intro hno
  have:=Int.mul_pos h (Int.mul_pos hg (show 0<dot p.n v-p.b by omega))
  omega
structure Sim(l:List V3)(T:V3->V3):Prop where
 li:l.all inV=true
 mi:(l.map T).all inV=true
 dn:∀n:V3,∃n':V3,∃k:Int,0<k/\∀u∈l,∀w∈l,dot n' (T u)-dot n' (T w)=k*(dot n u-dot n w)
 up:∀n':V3,∃n:V3,∃k:Int,0<k/\∀u∈l,∀w∈l,dot n u-dot n w=k*(dot n' (T u)-dot n' (T w))
 n3:∀u∈l,∀w∈l,∀x∈l,N3 u w x≠⟨0,0,0⟩↔N3 (T u) (T w) (T x)≠⟨0,0,0⟩
theorem nd4{k x:Int}(hk:0<k)(h:x<=0):k*x<=0:=Qjr (by omega) h
theorem ha4{k x:Int}(hk:0<k)(h:k*x=0):x=0:=(Qjg.1 h).resolve_left (by omega)
def Car(l:List V3)(T:V3->V3)(p q:Pln):Prop:=∃u w x,u∈l/\w∈l/\x∈l/\N3 u w x≠⟨0,0,0⟩/\(dot p.n u=p.b/\dot p.n w=p.b/\dot p.n x=p.b)/\dot q.n (T u)=q.b/\dot q.n (T w)=q.b/\dot q.n (T x)=q.b/\(∀v∈l,dot p.n v=p.b↔dot q.n (T v)=q.b)
section
variable{l:List V3}{T:V3->V3}(h:Sim l T)(hs:Sol l)(hs':Sol (l.map T))
include h hs hs'
theorem Sim.mem{v:V3}(hv:v∈l):T v∈l.map T:=Qjp.2 ⟨v,hv,rfl⟩
theorem Sim.down{q:Pln}(hq:q∈F0 (l.map T)):∃p∈F0 l,Car l T p q:=by
 have hf:=(B7 h.mi q).1 hq;obtain⟨u',w',x',hu',hw',hx',h3,t1,t2,t3⟩:=hf.on;obtain⟨u,hu,rfl⟩:=Qjp.1 hu';obtain⟨w,hw,rfl⟩:=Qjp.1 hw';obtain⟨x,hx,rfl⟩:=Qjp.1 hx';obtain⟨n,k,hk,hn⟩:=h.up q.n;have h3':=(h.n3 u hu w hw x hx).2 h3;have hle:∀v∈l,dot n v<=dot n u:=λv hv=>by
  have e:=hn v hv u hu
  have:=nd4 hk (show dot q.n (T v)-dot q.n (T u)<=0 by have:=hf.hd _ (Sim.mem h hs hs' hv);omega)
  omega
 have e1:dot n w=dot n u:=by
  have e:=hn w hw u hu;rw[t2,t1,Qjan,Qjn] at e;omega
 have e2:dot n x=dot n u:=by
  have e:=hn x hx u hu;rw[t3,t1,Qjan,Qjn] at e;omega
 have hoff:∃v∈l,dot n v≠dot n u:=by
  obtain⟨v',hv',hne⟩:=hs'.off (ab1 hf.ok) q.b;obtain⟨v,hv,rfl⟩:=Qjp.1 hv';refine⟨v,hv,λe=>hne ?_⟩
  have e':=hn v hv u hu
  have:=ha4 hk (show k*(dot q.n (T v)-dot q.n (T u))=0 by omega)
  omega
 obtain⟨p,hp,p1,p2,p3⟩:=Rc6 h.li hu hw hx h3' hle e1 e2 hoff;refine⟨p,(B7 h.li p).2 hp,u,w,x,hu,hw,hx,h3',⟨p1,p2,p3⟩,t1,t2,t3,λv hv=>?_⟩
 -- on p if and only if n is highest there
 have hT:=(da4 (va0 (Qja.1 h.li u hu) (Qja.1 h.li w hw) (Qja.1 h.li x hx) h3')).2;have hN:dot (N3 u w x) (N3 u w x)>0:=da6 h3';have c1:c7 n (N3 u w x)=⟨0,0,0⟩:=qa8 (by rw[F9];omega) (by rw[F9];omega)
 have c2:c7 p.n (N3 u w x)=⟨0,0,0⟩:=qa8 (by rw[F9];omega) (by rw[F9];omega)
 have d1:=na9 (d:=e7 v u) c1;have d2:=na9 (d:=e7 v u) c2;rw[F9] at d1 d2;have n1:dot n (N3 u w x)≠0:=λe=>by
  obtain⟨v0,hv0,hne⟩:=hoff;have d0:=na9 (d:=e7 v0 u) c1;rw[F9,e,Qjah] at d0
  have:=ha4 hN d0
  omega
 have n2:dot p.n (N3 u w x)≠0:=λe=>by
  obtain⟨v0,hv0,hne⟩:=hs.off (ab1 hp.ok) p.b;have d0:=na9 (d:=e7 v0 u) c2;rw[F9,e,Qjah] at d0
  have:=ha4 hN d0
  omega
 have e':=hn v hv u hu;constructor
 ·intro hv';rw[show dot p.n v-dot p.n u=0 by omega,Qjn] at d2
  have z:=(Qjg.1 d2.symm).resolve_left n2;rw[z,Qjn] at d1
  have:=ha4 hN d1
  have:=ha4 hk (show k*(dot q.n (T v)-dot q.n (T u))=0 by omega)
  omega
 ·intro hv';rw[hv',t1,Qjan,Qjn] at e';rw[e',Qjn] at d1;have z:=(Qjg.1 d1.symm).resolve_left n1;rw[z,Qjn] at d2
  have:=ha4 hN d2
  omega
theorem Sim.img{p p':Pln}(hp:p∈F0 l)(ok:okp p'=true)(hd:∀v∈l,dot p'.n (T v)<=p'.b)(on:∀v∈l,dot p.n v=p.b->dot p'.n (T v)=p'.b):p'∈F0 (l.map T):=by
 have hf:=(B7 h.li p).1 hp;obtain⟨u,w,x,hu,hw,hx,h3,t1,t2,t3⟩:=hf.on;refine (B7 h.mi p').2 ⟨⟨λv' hv'=>?_,T u,T w,T x,Sim.mem h hs hs' hu,Sim.mem h hs hs' hw,Sim.mem h hs hs' hx,(h.n3 u hu w hw x hx).1 h3,on u hu t1,on w hw t2,on x hx t3⟩,ok⟩
 obtain⟨v,hv,rfl⟩:=Qjp.1 hv';exact hd v hv
theorem Sim.upf{p:Pln}(hp:p∈F0 l):∃q∈F0 (l.map T),Car l T p q:=by
 have hf:=(B7 h.li p).1 hp;obtain⟨u,w,x,hu,hw,hx,h3,t1,t2,t3⟩:=hf.on;obtain⟨n,k,hk,hn⟩:=h.dn p.n;have h3':=(h.n3 u hu w hw x hx).1 h3;obtain⟨q,hq,q1,q2,q3⟩:=Rc6 (n:=n) h.mi (Sim.mem h hs hs' hu) (Sim.mem h hs hs' hw) (Sim.mem h hs hs' hx) h3' (λv' hv'=>by
  obtain⟨v,hv,rfl⟩:=Qjp.1 hv';have e:=hn v hv u hu
  have:=nd4 hk (show dot p.n v-dot p.n u<=0 by have:=hf.hd v hv;omega)
  omega) (by
  have e:=hn w hw u hu;rw[t2,t1,Qjan,Qjn] at e
  omega) (by
  have e:=hn x hx u hu;rw[t3,t1,Qjan,Qjn] at e
  omega) (by
  obtain⟨v,hv,hne⟩:=hs.off (ab1 hf.ok) p.b;refine⟨T v,Sim.mem h hs hs' hv,λe=>hne ?_⟩
  have e':=hn v hv u hu
  have:=ha4 hk (show k*(dot p.n v-dot p.n u)=0 by omega)
  omega)
 obtain⟨p2,hp2,u',w',x',hu',hw',hx',h3'',on2,r1,r2,r3,hall⟩:=Sim.down h hs hs' ((B7 h.mi q).2 hq);have e:p2=p:=Rb3 h.li hs ((B7 h.li p2).1 hp2) hf hu hw hx h3 ((hall u hu).2 q1) ((hall w hw).2 q2) ((hall x hx).2 q3) t1 t2 t3;subst e;exact⟨q,(B7 h.mi q).2 hq,u',w',x',hu',hw',hx',h3'',on2,r1,r2,r3,hall⟩
theorem Sim.len:(F0 (l.map T)).length=(F0 l).length:=by
 refine Nat.le_antisymm ?_ ?_
 ·refine dd9 (R:=λq p=>Car l T p q) (Yb3 (Yb2 _)) (λq hq=>Sim.down h hs hs' hq) λq hq r hr p h1 h2=>?_
  obtain⟨u,w,x,hu,hw,hx,h3,⟨p1,p2,p3⟩,q1,q2,q3,_⟩:=h1;obtain⟨_,_,_,_,_,_,_,_,_,_,_,hall⟩:=h2;exact Rb3 h.mi hs' ((B7 h.mi q).1 hq) ((B7 h.mi r).1 hr) (Sim.mem h hs hs' hu) (Sim.mem h hs hs' hw) (Sim.mem h hs hs' hx) ((h.n3 u hu w hw x hx).1 h3) q1 q2 q3 ((hall u hu).1 p1) ((hall w hw).1 p2) ((hall x hx).1 p3)
 ·refine dd9 (R:=λp q=>Car l T p q) (Yb3 (Yb2 _)) (λp hp=>Sim.upf h hs hs' hp) λp hp r hr q h1 h2=>?_
  obtain⟨u,w,x,hu,hw,hx,h3,⟨p1,p2,p3⟩,q1,q2,q3,_⟩:=h1;obtain⟨_,_,_,_,_,_,_,_,_,_,_,hall⟩:=h2;exact Rb3 h.li hs ((B7 h.li p).1 hp) ((B7 h.li r).1 hr) hu hw hx h3 p1 p2 p3 ((hall u hu).2 q1) ((hall w hw).2 q2) ((hall x hx).2 q3)
end
theorem Ie9(O:List V3)(v:V3):app (bL tV O) [[i v.x,i v.y,i v.z]]=bL tV (O++[v]):=bb2 tV O [v]
def rch(n e:V3):Int:=(n.x.natAbs:Int)*e.x+(n.y.natAbs:Int)*e.y+(n.z.natAbs:Int)*e.z
def pq(e:V3)(s:Int)(p:Pln):Pln:=⟨p.n,p.b+s*rch p.n e⟩
def okq(e:V3)(s:Int)(p:Pln):Bool:=okp p&&smb 2097152 (p.b+s*rch p.n e)
structure B12(e:V3):Prop where
 x1:0<=e.x
 x2:e.x<=12
 y1:0<=e.y
 y2:e.y<=12
 z1:0<=e.z
 z2:e.z<=12
section
variable(c:List Pln)(e:V3)(s:Int)
structure PI(j:Nat)(o:List Pln):Prop where
 le:j<=c.length
 o:o=(c.take j).map (pq e s)
 a:(c.take j).all (okq e s)=true
end
section
variable(c:List Pln)(e:V3)(hc:c.length<=1000000)
include hc
end
theorem vb1:∀(l r:List V3),l.Pairwise LtV->r.Pairwise LtV->(∀v,v∈l↔v∈r)->l=r
 |[],[],_,_,_=>rfl
 |[],y::r,_,_,h=>absurd ((h y).2 (Qjk ..)) (by simp)
 |x::l,[],_,_,h=>absurd ((h x).1 (Qjk ..)) (by simp)
 |x::l,y::r,h1,h2,h=>by
  obtain⟨a1,a2⟩:=Qjx.1 h1;obtain⟨b1,b2⟩:=Qjx.1 h2;have e:x=y:=by
   rcases Qjj.1 ((h x).1 (Qjk ..)) with e|hx
   ·exact e
   ·rcases Qjj.1 ((h y).2 (Qjk ..)) with e|hy
    ·exact e.symm
    ·exact absurd (Yb6 (b1 x hx) (a1 y hy)) (Qb5 y)
  subst e
  have:l=r:=vb1 l r a2 b2 λv=>by
   have hv:=h v;simp only[Qjj] at hv;constructor
   ·intro hm
    rcases hv.1 (.inr hm) with e|h'
    ·subst e;exact absurd (a1 v hm) (Qb5 v)
    ·exact h'
   ·intro hm
    rcases hv.2 (.inr hm) with e|h'
    ·subst e;exact absurd (b1 v hm) (Qb5 v)
    ·exact h'
  rw[this]
noncomputable def nrm(F:List Pln)(v:V3):List V3:=(own F v).map λp=>p.n
def N46(n:V3):Prop:=Sm 4608 n.x/\Sm 4608 n.y/\Sm 4608 n.z
section
variable(N:List V3)(hN:∀n∈N,N46 n)(hl:N.length<=1000000)
include hN hl
end
end Go.Ev.Ce
