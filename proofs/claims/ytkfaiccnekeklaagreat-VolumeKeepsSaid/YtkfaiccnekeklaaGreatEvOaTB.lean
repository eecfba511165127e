/- Own work. -/
import Derived.Test.YtkfaiccnekeklaaGreatEvJ1
set_option linter.all false
def Qja:=@List.all_eq_true
def Qjb:=@List.any_eq_true
def Qjc:=@List.length_take
def Qjd:=@List.length_append
def Qje:=@Nat.lt_irrefl
def Qjf:=@Nat.zero_add
def Qjg:=@Int.mul_eq_zero
def Qjh:=@Bool.false_eq_true
def Qji:=@List.mem_range
def Qjj:=@Nat.zero_le
def Qjk:=@List.mem_cons
def Qjl:=@List.mem_cons_self
def Qjm:=@Nat.le_refl
def Qjn:=@Int.mul_zero
def Qjo:=@List.drop_zero
def Qjp:=@List.mem_map
def Qjq:=@List.append_nil
def Qjr:=@List.getD_eq_getElem?_getD
def Qjs:=@Int.mul_nonpos_of_nonneg_of_nonpos
def Qjt:=@List.mem_iff_getElem
def Qju:=@Bool.and_eq_true
def Qjv:=@List.filter_cons
def Qjw:=@Bool.and_true
def Qjx:=@List.length_set
def Qjy:=@List.pairwise_cons
def Qjz:=@List.filter_append
def Qjaa:=@List.mem_filter
def Qjab:=@List.take_append_of_le_length
def Qjac:=@Nat.beq_refl
def Qjad:=@List.findIdx_getElem
def Qjae:=@List.mem_append
def Qjaf:=@Classical.byContradiction
def Qjag:=@Nat.lt_or_gt_of_ne
def Qjah:=@Int.zero_mul
def Qjai:=@Bool.and_self
def Qjaj:=@List.take_succ_eq_append_getElem
def Qjak:=@List.length_drop
def Qjal:=@Bool.not_eq_true
def Qjam:=@List.findIdx_lt_length_of_exists
def Qjan:=@List.length_filter_le
def Qjao:=@Nat.ble_eq
def Qjap:=@Int.sub_self
def Qjaq:=@Int.mul_le_mul_of_nonneg_left
def Qjar:=@List.getElem?_take
def Qjas:=@List.mem_singleton
def Qjat:=@List.drop_eq_getElem_cons
def Qjau:=@Int.mul_pos_of_neg_of_neg
def Qjav:=@Int.zero_add
def Qjaw:=@List.drop_eq_nil_of_le
def Qjax:=@List.getElem_set_self
def Qjay:=@List.take_take
def Qjaz:=@List.length_replicate
def Qjba:=@Go.Ev.Ce.V3.ext'
namespace Go.Ev.Ce
open Go Go.Ev Go.Ev.L Go.Proofs
theorem re4{l:List V3}(hf:nf0 l=true):Sol l:=(He1 hf).h
theorem ce4{v:V3}(h:g3 v=0):v=⟨0,0,0⟩:=by
 unfold g3 at h;have h:Nat.gcd (Nat.gcd v.x.natAbs v.y.natAbs) v.z.natAbs=0:=by omega
 rw[Nat.gcd_eq_zero_iff,Nat.gcd_eq_zero_iff] at h;exact Qjba (by show v.x=0;omega) (by show v.y=0;omega) (by show v.z=0;omega)
theorem ua3{a c k:V3}(ha:inV a=true)(hc:inV c=true)(hk:inV k=true)(h:N3 a c k≠⟨0,0,0⟩):(A7 a c k).2=true:=by
 unfold A7;rw[ha,hc,hk];simp only[Qjai,if_true];rw[if_neg (λh0=>h (ce4 h0):¬ g3 (c8 (sub c a) (sub k a))=0)]
theorem Fc8{a c k:V3}{p:Pln}(h:Thr a c k p):N3 a c k≠⟨0,0,0⟩:=λe=>by
 obtain⟨ok,⟨g,hg,e1,e2,e3⟩,_⟩:=h;have e':c8 (sub c a) (sub k a)=⟨0,0,0⟩:=e;rw[e'] at e1 e2 e3;have z:∀{x:Int},g*x=0->x=0:=λh=>(Qjg.1 h).resolve_left (by omega)
 exact Ya8 ok (Qjba (z e1) (z e2) (z e3))
theorem tc1{a c k:V3}{p:Pln}(h:Thr a c k p):dot p.n a=p.b/\dot p.n c=p.b/\dot p.n k=p.b:=by
 obtain⟨ok,⟨g,hg,e1,e2,e3⟩,o⟩:=h;have z:∀{x y:Int},g*(x-y)=0->x=y:=λh=>by have:=(Qjg.1 h).resolve_left (by omega);omega
 refine⟨o.symm,?_,?_⟩
 ·rw[o];apply z
  have:g*(dot p.n c-dot p.n a)=(g*p.n.x)*(c.x-a.x)+(g*p.n.y)*(c.y-a.y)+(g*p.n.z)*(c.z-a.z):=by simp only[dot];grind
  rw[this,e1,e2,e3];simp only[c8,sub];grind
 ·rw[o];apply z
  have:g*(dot p.n k-dot p.n a)=(g*p.n.x)*(k.x-a.x)+(g*p.n.y)*(k.y-a.y)+(g*p.n.z)*(k.z-a.z):=by simp only[dot];grind
  rw[this,e1,e2,e3];simp only[c8,sub];grind
theorem Ea7(p:Pln)(v:V3):dot (Y8 p).n v=(Y8 p).b↔dot p.n v=p.b:=by
 rw[tb4];show -dot p.n v=-p.b↔_;omega
theorem tb6{a c k:V3}{p q:Pln}(h:Thr a c k q)(hp:okp p=true)(t1:dot p.n a=p.b)(t2:dot p.n c=p.b)(t3:dot p.n k=p.b):p=q\/p=Y8 q:=by
 obtain⟨s1,s2,s3⟩:=tc1 h;obtain⟨ok,⟨g,hg,e1,e2,e3⟩,o⟩:=h;have d1:dot p.n (sub c a)=0:=by simp only[dot,sub] at *;grind
 have d2:dot p.n (sub k a)=0:=by simp only[dot,sub] at *;grind
 have hc:c8 q.n p.n=⟨0,0,0⟩:=by
  have z:∀{x:Int},g*x=0->x=0:=λh=>(Qjg.1 h).resolve_left (by omega)
  generalize sub c a=u at *
  generalize sub k a=w at *
  refine Qjba (z ?_) (z ?_) (z ?_)
  ·have:g*(c8 q.n p.n).x=(g*q.n.y)*p.n.z-(g*q.n.z)*p.n.y:=by simp only[c8];grind
   rw[this,e2,e3]
   have:(c8 u w).y*p.n.z-(c8 u w).z*p.n.y=w.x*dot p.n u-u.x*dot p.n w:=by simp only[c8,dot];grind
   rw[this,d1,d2];simp
  ·have:g*(c8 q.n p.n).y=(g*q.n.z)*p.n.x-(g*q.n.x)*p.n.z:=by simp only[c8];grind
   rw[this,e1,e3]
   have:(c8 u w).z*p.n.x-(c8 u w).x*p.n.z=w.y*dot p.n u-u.y*dot p.n w:=by simp only[c8,dot];grind
   rw[this,d1,d2];simp
  ·have:g*(c8 q.n p.n).z=(g*q.n.x)*p.n.y-(g*q.n.y)*p.n.x:=by simp only[c8];grind
   rw[this,e1,e2]
   have:(c8 u w).x*p.n.y-(c8 u w).y*p.n.x=w.z*dot p.n u-u.z*dot p.n w:=by simp only[c8,dot];grind
   rw[this,d1,d2];simp
 obtain⟨pn,pb⟩:=p;obtain⟨qn,qb⟩:=q
 rcases ad2 (sc9 ok) (sc9 hp) hc with e|e
 ·left
  simp only at e o t1 s1 t2 t3
  subst e;rw[<- t1,s1]
 ·right
  simp only at e o t1 s1 t2 t3
  subst e;rw[<- t1];simp only[dot,neg,Y8] at s1 ⊢;simp only[Pln.mk.injEq,true_and]
  grind
structure Ca6(l:List V3)(p:Pln):Prop extends Fac l p.n p.b where
 ok:okp p=true
theorem Pb1{l:List V3}{p:Pln}{u w x:V3}(hu:u∈l)(hw:w∈l)(hx:x∈l)(h:Thr u w x p)(hh:∀v∈l,dot (Y8 p).n v<=(Y8 p).b):Ca6 l (Y8 p):=by
 obtain⟨s1,s2,s3⟩:=tc1 h;exact⟨⟨hh,u,w,x,hu,hw,hx,Fc8 h,(Ea7 p u).2 s1,(Ea7 p w).2 s2,(Ea7 p x).2 s3⟩,Ob7 h.ok⟩
theorem jc0{l:List V3}{p:Pln}{u w x:V3}(hu:u∈l)(hw:w∈l)(hx:x∈l)(h:Thr u w x p)(hh:∀v∈l,dot p.n v<=p.b):Ca6 l p:=by
 obtain⟨s1,s2,s3⟩:=tc1 h;exact⟨⟨hh,u,w,x,hu,hw,hx,Fc8 h,s1,s2,s3⟩,h.ok⟩
theorem Nd4{u w x:V3}(h:N3 u w x≠⟨0,0,0⟩):N3 w u x≠⟨0,0,0⟩/\N3 u x w≠⟨0,0,0⟩/\N3 x w u≠⟨0,0,0⟩/\N3 w x u≠⟨0,0,0⟩/\N3 x u w≠⟨0,0,0⟩:=by
 have e1:N3 w u x=neg (N3 u w x):=Qjba (by simp only[N3,c8,d9,neg];grind) (by simp only[N3,c8,d9,neg];grind) (by simp only[N3,c8,d9,neg];grind)
 have e2:N3 u x w=neg (N3 u w x):=Qjba (by simp only[N3,c8,d9,neg];grind) (by simp only[N3,c8,d9,neg];grind) (by simp only[N3,c8,d9,neg];grind)
 have e3:N3 x w u=neg (N3 u w x):=Qjba (by simp only[N3,c8,d9,neg];grind) (by simp only[N3,c8,d9,neg];grind) (by simp only[N3,c8,d9,neg];grind)
 have e4:N3 w x u=N3 u w x:=Qjba (by simp only[N3,c8,d9];grind) (by simp only[N3,c8,d9];grind) (by simp only[N3,c8,d9];grind)
 have e5:N3 x u w=N3 u w x:=Qjba (by simp only[N3,c8,d9];grind) (by simp only[N3,c8,d9];grind) (by simp only[N3,c8,d9];grind)
 rw[e1,e2,e3,e4,e5];exact⟨Oc2 h,Oc2 h,Oc2 h,h,h⟩
theorem ze5{u w x:V3}(h:N3 u w x≠⟨0,0,0⟩):u≠w/\u≠x/\w≠x:=by
 refine⟨λe=>h ?_,λe=>h ?_,λe=>h ?_⟩<;>subst e<;>refine Qjba ?_ ?_ ?_<;>simp only[N3,c8,d9]<;>grind
theorem ce5 {l : List V3} {u w x : V3} (hu : u ∈ l) (hw : w ∈ l) (hx : x ∈ l) (h : N3 u w x ≠ ⟨0, 0, 0⟩) :
  ∃a,a<l.length/\∃c,c<a/\∃k,k<c/\N3 (gL tV l a) (gL tV l c) (gL tV l k)≠⟨0,0,0⟩/\∀f:V3->Prop,f u->f w->f x->f (gL tV l a)/\f (gL tV l c)/\f (gL tV l k):=by
 obtain⟨i,hi,rfl⟩:=Qjt.1 hu;obtain⟨j,hj,rfl⟩:=Qjt.1 hw;obtain⟨k,hk,rfl⟩:=Qjt.1 hx;obtain⟨n1,n2,n3⟩:=ze5 h;obtain⟨s1,s2,s3,s4,s5⟩:=Nd4 h;have d1:i≠j:=λe=>n1 (by subst e;rfl)
 have d2:i≠k:=λe=>n2 (by subst e;rfl)
 have d3:j≠k:=λe=>n3 (by subst e;rfl)
 rw[<- mb3 tV hi,<- mb3 tV hj,<- mb3 tV hk] at *
 rcases Qjag d1 with h1|h1<;>rcases Qjag d2 with h2|h2<;>rcases Qjag d3 with h3|h3
 ·exact⟨k,hk,j,h3,i,h1,s3,λf a b c=>⟨c,b,a⟩⟩
 ·exact⟨j,hj,k,h3,i,h2,s4,λf a b c=>⟨b,c,a⟩⟩
 ·omega
 ·exact⟨j,hj,i,h1,k,h2,s1,λf a b c=>⟨b,a,c⟩⟩
 ·exact⟨k,hk,i,h2,j,h1,s5,λf a b c=>⟨c,a,b⟩⟩
 ·omega
 ·exact⟨i,hi,k,h2,j,h3,s2,λf a b c=>⟨a,c,b⟩⟩
 ·exact⟨i,hi,j,h1,k,h3,h,λf a b c=>⟨a,b,c⟩⟩
theorem A2{l:List V3}(hl:l.all inV=true)(p:Pln):p∈F0 l↔Ca6 l p:=by
 have hin:=Qja.1 hl;constructor
 ·intro hp;obtain⟨a,ha,c,hc,k,hk,h1,h2⟩:=(kd7 l p).1 hp;have ma:=gLm ha;have mc:=gLm (show c<l.length by omega)
  have mk:=gLm (show k<l.length by omega)
  have ht:=(da4 h1).2
  rcases h2 with⟨rfl,h3⟩|⟨rfl,h3⟩
  ·exact jc0 ma mc mk ht ((fb9 ht.ok hl).1 h3)
  ·exact Pb1 ma mc mk ht ((fb9 (Ob7 ht.ok) hl).1 h3)
 ·intro h;obtain⟨u,w,x,hu,hw,hx,h3,t1,t2,t3⟩:=h.on;obtain⟨a,ha,c,hc,k,hk,hn,hall⟩:=ce5 hu hw hx h3;obtain⟨i1,i2,i3⟩:=hall (λv=>inV v=true) (hin u hu) (hin w hw) (hin x hx)
  obtain⟨e1,e2,e3⟩:=hall (λv=>dot p.n v=p.b) t1 t2 t3
  have h2:=ua3 i1 i2 i3 hn;refine (kd7 l p).2 ⟨a,ha,c,hc,k,hk,h2,?_⟩;have hh:=(fb9 h.ok hl).2 h.hd
  rcases tb6 (da4 h2).2 h.ok e1 e2 e3 with e|e
  ·exact .inl ⟨e,hh⟩
  ·exact .inr ⟨e,hh⟩
theorem rd1{n:V3}(h:n≠⟨0,0,0⟩):0<dot n n:=by
 have sq:∀a:Int,0<=a*a:=λa=>by
  by_cases h:0<=a
  ·exact Int.mul_nonneg h h
  ·have:=Int.mul_nonneg (show 0<=-a by omega) (show 0<=-a by omega)
   rw[Int.neg_mul_neg] at this;exact this
 have z:∀{a:Int},a*a=0->a=0:=λh=>(Qjg.1 h).elim id id
 have s1:=sq n.x;have s2:=sq n.y;have s3:=sq n.z;by_cases h0:0<dot n n
 ·exact h0
 ·exfalso;simp only[dot] at h0;exact h (Qjba (z (by omega)) (z (by omega)) (z (by omega)))
theorem rd2{l:List V3}(hl:l.all inV=true){c:List Pln}(hc:∀p,Ca6 l p->p∈c):re3 l c:=λn b hn hf=>by
 have hin:=Qja.1 hl;obtain⟨u,w,x,hu,hw,hx,h3,t1,t2,t3⟩:=hf.on;have h2:=ua3 (hin u hu) (hin w hw) (hin x hx) h3;have ht:=(da4 h2).2;generalize (A7 u w x).1=q at ht;obtain⟨s1,s2,s3⟩:=tc1 ht;have hnn:=rd1 hn;have d1:dot n (d9 w u)=0:=by simp only[dot,d9] at *;grind
 have d2:dot n (d9 x u)=0:=by simp only[dot,d9] at *;grind
 -- the normals are parallel
 have par:dot n n*q.n.x=dot q.n n*n.x/\dot n n*q.n.y=dot q.n n*n.y/\dot n n*q.n.z=dot q.n n*n.z:=by
  obtain⟨ok,⟨g,hg,e1,e2,e3⟩,o⟩:=ht;have z:∀{x y:Int},g*(x-y)=0->x=y:=λh=>by have:=(Qjg.1 h).resolve_left (by omega);omega
  have eg:g*dot q.n n=(c8 (d9 w u) (d9 x u)).x*n.x+(c8 (d9 w u) (d9 x u)).y*n.y+(c8 (d9 w u) (d9 x u)).z*n.z:=by
   have:g*dot q.n n=(g*q.n.x)*n.x+(g*q.n.y)*n.y+(g*q.n.z)*n.z:=by simp only[dot];grind
   rw[this,e1,e2,e3];rfl
  have e1:g*q.n.x=(c8 (d9 w u) (d9 x u)).x:=e1;have e2:g*q.n.y=(c8 (d9 w u) (d9 x u)).y:=e2;have e3:g*q.n.z=(c8 (d9 w u) (d9 x u)).z:=e3;generalize d9 w u=p at *
  generalize d9 x u=r at *
  refine⟨z ?_,z ?_,z ?_⟩
  ·have:g*(dot n n*q.n.x-dot q.n n*n.x)=dot n n*(g*q.n.x)-(g*dot q.n n)*n.x:=by grind
   rw[this,e1,eg]
   have:dot n n*(c8 p r).x-((c8 p r).x*n.x+(c8 p r).y*n.y+(c8 p r).z*n.z)*n.x=(n.y*r.z-n.z*r.y)*dot n p-(n.y*p.z-n.z*p.y)*dot n r:=by simp only[dot,c8];grind
   rw[this,d1,d2];simp
  ·have:g*(dot n n*q.n.y-dot q.n n*n.y)=dot n n*(g*q.n.y)-(g*dot q.n n)*n.y:=by grind
   rw[this,e2,eg]
   have:dot n n*(c8 p r).y-((c8 p r).x*n.x+(c8 p r).y*n.y+(c8 p r).z*n.z)*n.y=(n.z*r.x-n.x*r.z)*dot n p-(n.z*p.x-n.x*p.z)*dot n r:=by simp only[dot,c8];grind
   rw[this,d1,d2];simp
  ·have:g*(dot n n*q.n.z-dot q.n n*n.z)=dot n n*(g*q.n.z)-(g*dot q.n n)*n.z:=by grind
   rw[this,e3,eg]
   have:dot n n*(c8 p r).z-((c8 p r).x*n.x+(c8 p r).y*n.y+(c8 p r).z*n.z)*n.z=(n.x*r.y-n.y*r.x)*dot n p-(n.x*p.y-n.y*p.x)*dot n r:=by simp only[dot,c8];grind
   rw[this,d1,d2];simp
 have fin:∀r:Pln,Thr u w x q->(r=q\/r=Y8 q)->0<dot r.n n->(dot n n*r.n.x=dot r.n n*n.x/\dot n n*r.n.y=dot r.n n*n.y/\dot n n*r.n.z=dot r.n n*n.z)->∃s t:Int,0<s/\0<t/\∃q∈c,t*q.n.x=s*n.x/\t*q.n.y=s*n.y/\t*q.n.z=s*n.z/\t*q.b=s*b:=λr ht hr hp ⟨p1,p2,p3⟩=>by
  have hru:dot r.n u=r.b:=by
   rcases hr with rfl|rfl
   ·exact s1
   ·exact (Ea7 q u).2 s1
  have ed:∀v,dot n n*dot r.n v=dot r.n n*dot n v:=λv=>by
   have:dot n n*dot r.n v=(dot n n*r.n.x)*v.x+(dot n n*r.n.y)*v.y+(dot n n*r.n.z)*v.z:=by
    generalize dot n n=t;simp only[dot];grind
   rw[this,p1,p2,p3];generalize dot r.n n=s;simp only[dot];grind
  have eb:dot n n*r.b=dot r.n n*b:=by rw[<- hru,ed,t1]
  have hd:∀v∈l,dot r.n v<=r.b:=λv hv=>by
   have h1:=Qjaq (hf.hd v hv) (Int.le_of_lt hp);rw[<- ed,<- eb] at h1;exact Int.le_of_mul_le_mul_left h1 hnn
  have hF:Ca6 l r:=by
   rcases hr with rfl|rfl
   ·exact jc0 hu hw hx ht hd
   ·exact Pb1 hu hw hx ht hd
  exact⟨dot r.n n,dot n n,hp,hnn,r,hc r hF,p1,p2,p3,eb⟩
 by_cases h0:0<dot q.n n
 ·exact fin q ht (.inl rfl) h0 par
 ·refine fin (Y8 q) ht (.inr rfl) ?_ ?_
  ·rw[tb4]
   have:dot q.n n≠0:=λe=>by
    obtain⟨p1,p2,p3⟩:=par;rw[e] at p1 p2 p3;simp only[Qjah] at p1 p2 p3;have z:∀{x:Int},dot n n*x=0->x=0:=λh=>(Qjg.1 h).resolve_left (by omega)
    exact Ya8 ht.ok (Qjba (z p1) (z p2) (z p3))
   omega
  ·rw[tb4];obtain⟨p1,p2,p3⟩:=par;show dot n n*-q.n.x=_/\dot n n*-q.n.y=_/\dot n n*-q.n.z=_;rw[Int.mul_neg,Int.mul_neg,Int.mul_neg,p1,p2,p3,Int.neg_mul,Int.neg_mul,Int.neg_mul];exact⟨rfl,rfl,rfl⟩
end Go.Ev.Ce
namespace Go.Ev.Ce
open Go Go.Ev Go.Ev.L Go.Proofs Go.Sort
def eqV(x y:V3):Bool:=x.x==y.x&&(x.y==y.y&&(x.z==y.z&&true))
theorem kb0(x y:V3):eqV x y=true↔x=y:=by
 unfold eqV;simp only[Qjw,Qju,beq_iff_eq];refine⟨λ⟨h1,h2,h3⟩=>Qjba h1 h2 h3,λh=>by subst h;exact⟨rfl,rfl,rfl⟩⟩
theorem tc2{l:List V3}{j:Nat}(h:j<l.length):ldR tV (bL tV l) (0+j)=true:=by rw[Qjf];exact hd4 tV h
theorem Xb2{l:List V3}{j:Nat}(h:j<l.length):rdR tV (bL tV l) (0+j)=gL tV l j:=by rw[Qjf];exact gd9 tV h
theorem ad7(l:List V3)(n:Nat):F6 (bL tV l) n=bL tV (l.take n):=by unfold bL;rw[G4,k9,k9,List.map_take]
theorem tc3(l:List V3)(n:Nat):i7 (bL tV l) n=bL tV (l.drop n):=by unfold bL;rw[E0,k9,k9,List.map_drop]
theorem ad8(n:Nat):List.replicate n [i 0,i 0,i 0]=bL tV (List.replicate n ⟨0,0,0⟩):=by unfold bL;rw[k9,List.map_replicate];rfl
def dvF:V3->List V3->List V3
 |_,[]=>[]
 |a,x::l=>if eqV x a then dvF x l else x::dvF x l
def ddV:List V3->List V3
 |[]=>[]
 |x::l=>x::dvF x l
structure Nd5(l:List V3)(n:Nat)(cur:List V3)(m j:Nat)(R:List V3):Prop where
 len:cur.length=l.length
 t:cur.take m++dvF (gL tV l (j-1)) ((l.take n).drop j)=R
 d:cur.drop (j-1)=l.drop (j-1)
 le:m+1<=j
theorem zc9 (l : List V3) (n o : Nat) (hn : n ≤ l.length) (hl : l.length ≤ 1000000000) (ho : o < n) (m : Nat) (cur : List V3) (R : List V3) (hd : Nd5 l n cur m (o + 1) R) :
  ∃t s,lp (o8 ⟨n,0+o,n-o⟩) ⟨(m:Int),((1:Nat):Int),bL tV cur⟩=(t,s)/\(t=1/\∃m' cur' k,s=⟨((m':Nat):Int),k,bL tV cur'⟩/\cur'.length=l.length/\cur'.take m'=R/\m'<=n):=by
 refine X4 (step:=o8 ⟨n,0+o,n-o⟩) (mk:=λj (x:Nat×List V3)=>(⟨(x.1:Int),(j:Int),bL tV x.2⟩:o0)) (n-o) (λj x=>Nd5 l n x.2 x.1 (o+j) R/\1<=j/\x.1<=n) (λt s=>t=1/\∃m' cur' k,s=⟨((m':Nat):Int),k,bL tV cur'⟩/\cur'.length=l.length/\cur'.take m'=R/\m'<=n) (by omega) (λj x hj hx=>?_) (λj x hj hx=>?_) 1 (m,cur) ⟨hd,Qjm _,by have:=hd.le;show m<=n;omega⟩
 ·obtain⟨m,cur⟩:=x;obtain⟨⟨h1,h2,h3,h4⟩,hj1,hmn⟩:=hx
  simp only at h1 h2 h3 h4 hmn
  have hoj:o+j<n:=by omega
  have hjc:o+j<cur.length:=by omega
  have hjc':o+(j-1)<cur.length:=by omega
  have hmc:m<cur.length:=by omega
  have hg':gL tV cur (o+(j-1))=gL tV l (o+j-1):=by rw[show o+(j-1)=o+j-1 by omega];exact Wb7 tV h3
  have hd1:cur.drop (o+j)=l.drop (o+j):=by have:=Ob0 h3 1;rw[show o+j-1+1=o+j by omega] at this;exact this
  have hg:gL tV cur (o+j)=gL tV l (o+j):=Wb7 tV hd1;have hWm:W ((m:Int)+1)=((m+1:Nat):Int):=by rw[ca8 (by omega) (by omega)];omega
  have hWj:W ((j:Int)-1)=((j-1:Nat):Int):=by rw[ca8 (by omega) (by omega)];omega
  have hb:Nat.blt m cur.length=true:=by rw[Nat.blt_eq];exact hmc
  have hrow:i9 (bL tV cur) m=tV.row (gL tV cur m):=N2 tV hmc;have sp:∀(v:V3) (x1 x2 x3:Int),O0 (tV.row v) 0 [i x1,i x2,i x3]=tV.row ⟨x1,x2,x3⟩:=λ_ _ _ _=>rfl
  have rl:∀v:V3,Nat.ble 3 (len (tV.row v))=true:=λ_=>rfl
  simp only[o8,I8,Int.toNat_natCast,Qjf,hWj,hd4 tV hjc,hd4 tV hjc',gd9 tV hjc,gd9 tV hjc',D0 hj (show n-o<=4611686018427387904 by omega),hWm,hg,hg',hrow,wa3,hb,sp,rl,Ha6,i8 (show m<n by omega)]
  rw[btD (q7 hj)];simp only[i8 hj,i8 (show j-1<n-o by omega),u9,Qjai]
  rw[show ((gL tV l (o+j)).x==(gL tV l (o+j-1)).x&&((gL tV l (o+j)).y==(gL tV l (o+j-1)).y&&((gL tV l (o+j)).z==(gL tV l (o+j-1)).z&&true)))=eqV (gL tV l (o+j)) (gL tV l (o+j-1)) from rfl]
  have hcons:(l.take n).drop (o+j)=gL tV l (o+j)::(l.take n).drop (o+(j+1)):=by
   rw[Qjat (by rw[Qjc];omega),List.getElem_take,mb3 tV (by omega)]
   rfl
  rw[hcons] at h2;have hlast:o+(j+1)-1=o+j:=by omega
  unfold dvF at h2;cases he:eqV (gL tV l (o+j)) (gL tV l (o+j-1)) with
  |true =>
   rw[he] at h2;simp only[if_true] at h2;refine .nx ⟨(m,cur),rfl,⟨⟨h1,?_,?_,by show m+1<=o+(j+1);omega⟩,by omega,hmn⟩⟩
   ·rw[hlast];exact h2
   ·rw[hlast];exact hd1
  |false =>
   rw[he] at h2;simp only[Qjh,if_false] at h2;refine .nx ⟨(m+1,cur.set m (gL tV l (o+j))),rfl,⟨⟨by rw[Qjx];exact h1,?_,?_,by show m+1+1<=o+(j+1);omega⟩,by omega,by show m+1<=n;omega⟩⟩
   ·rw[hlast];show (cur.set m (gL tV l (o+j))).take (m+1)++_=R;rw[Qjaj (by rw[Qjx];exact hmc),Qjax,List.take_set_of_le (Qjm _),List.append_assoc]
    exact h2
   ·rw[hlast];show (cur.set m (gL tV l (o+j))).drop (o+j)=_;rw[List.drop_set_of_lt (by omega),hd1]
 ·obtain⟨m,cur⟩:=x;obtain⟨⟨h1,h2,h3,h4⟩,hj1,hmn⟩:=hx
  simp only at h1 h2 h3 h4 hmn
  refine⟨1,?_,rfl,m,cur,_,rfl,h1,?_,hmn⟩
  ·simp only[o8,I8];rw[bfD (by omega)]
  ·rw[Qjaw (by rw[Qjc];omega)] at h2
   unfold dvF at h2;rw[Qjq] at h2;exact h2
theorem ad9 (l : List V3) (n : Nat) (hn : n ≤ l.length) (hl : l.length ≤ 1000000000) :
  ∃m r,K6 ⟨n,bL tV l⟩=⟨1,m,bL tV r⟩/\m<=r.length/\r.take m=ddV (l.take n)/\r.length=l.length:=by
 unfold K6 K5
 simp only
 by_cases h2:(n:Int)<2
 ·rw[btD h2];refine⟨n,l,rfl,hn,?_,rfl⟩
  have:n=0\/n=1:=by omega
  rcases this with rfl|rfl
  ·rfl
  ·cases l with
   |nil=>rfl
   |cons x l=>rfl
 ·rw[bfD h2];have h1n:1<=n:=by omega
  have hI : ∀ j, j < n → 1 ≤ j → l.take j ++ dvF (gL tV l (j - 1)) ((l.take n).drop j) = ddV (l.take n) →
    (eqV (gL tV l j) (gL tV l (j-1))=true->Nd5 l n l j (j+1) (ddV (l.take n)))/\(eqV (gL tV l j) (gL tV l (j-1))=false->l.take (j+1)++dvF (gL tV l (j+1-1)) ((l.take n).drop (j+1))=ddV (l.take n)):=by
   intro j hj hj1 hR;have hcons:(l.take n).drop j=gL tV l j::(l.take n).drop (j+1):=by
    rw[Qjat (by rw[Qjc];omega),List.getElem_take,mb3 tV (by omega)]
   rw[hcons] at hR;unfold dvF at hR;constructor
   ·intro he;rw[he] at hR;simp only[if_true] at hR;exact⟨rfl,hR,rfl,Qjm _⟩
   ·intro he;rw[he] at hR;simp only[Qjh,if_false] at hR;rw[jb9 tV (show j<l.length by omega),List.append_assoc]
    exact hR
  have inner:∀k,k<n->1<=k->Nd5 l n l k (k+1) (ddV (l.take n))->∃m' cur' k',lp (o8 ⟨n,0+k,n-k⟩) ⟨(k:Int),1,bL tV l⟩=(1,⟨((m':Nat):Int),k',bL tV cur'⟩)/\cur'.length=l.length/\cur'.take m'=ddV (l.take n)/\m'<=n:=by
   intro k hk hk1 hc;obtain⟨t,s,e1,rfl,m',cur',k',rfl,e2,e3,e4⟩:=zc9 l n k hn hl hk k l _ hc;exact⟨m',cur',k',e1,e2,e3,e4⟩
  have key:=X4 (step:=K4 ⟨n,bL tV l⟩) (mk:=λj (_:Unit)=>(⟨(j:Int)⟩:p9)) n (λj _=>1<=j/\j<=n/\l.take j++dvF (gL tV l (j-1)) ((l.take n).drop j)=ddV (l.take n))
   (λt s=>(t=1/\∃k:Nat,s=⟨(k:Int)⟩/\k<n/\1<=k/\Nd5 l n l k (k+1) (ddV (l.take n)))\/(t=2/\l.take n=ddV (l.take n))) (by omega) (λj x hj hx=>?_) (λj x hj hx=>?_) 1 () ⟨Qjm _,h1n,by
    cases l with
    |nil=>simp only[List.length_nil] at hn;omega
    |cons x l =>
     cases n with
     |zero=>omega
     |succ n=>rfl⟩
  ·obtain⟨t,s,e1,e2⟩:=key;rw[show (⟨1⟩:p9)=⟨((1:Nat):Int)⟩ from rfl,e1]
   rcases e2 with⟨rfl,k,rfl,hk,hk1,hc⟩|⟨rfl,he⟩
   ·obtain⟨m',cur',k',e2,e3,e4,e5⟩:=inner k hk hk1 hc;simp only[Int.toNat_natCast,e2];simp only[Qjf,Nat.sub_zero];refine⟨m',cur'.take m'++(List.replicate (n-m') ⟨0,0,0⟩++cur'.drop (m'+(n-m'))),?_,?_,?_,?_⟩
    ·rw[ad7,ad8,tc3,Ra1,Ra1];rfl
    ·rw[Qjd,Qjc,e3];omega
    ·rw[Qjab (by rw[Qjc,e3];omega),Qjay,Nat.min_self,e4]
    ·rw[Qjd,Qjd,Qjc,Qjaz,Qjak,e3];omega
   ·exact⟨n,l,rfl,hn,he,rfl⟩
  ·obtain⟨hj1,hjn,hR⟩:=hx;obtain⟨i1,i2⟩:=hI j hj hj1 hR;have hWj:W ((j:Int)-1)=((j-1:Nat):Int):=by rw[ca8 (by omega) (by omega)];omega
   have hjl:j<l.length:=by omega
   have hjl':j-1<l.length:=by omega
   simp only[K4,I9,Int.toNat_natCast,hWj,tc2 hjl,tc2 hjl',Xb2 hjl,Xb2 hjl',D0 hj (show n<=4611686018427387904 by omega)]
   rw[btD (q7 hj),bt (i8 hj),bt (i8 (show j-1<n by omega)),bt (i8 (show j<n+1 by omega))]
   simp only[u9];rw[show ((gL tV l j).x==(gL tV l (j-1)).x&&((gL tV l j).y==(gL tV l (j-1)).y&&((gL tV l j).z==(gL tV l (j-1)).z&&true)))=eqV (gL tV l j) (gL tV l (j-1)) from rfl]
   cases he:eqV (gL tV l j) (gL tV l (j-1)) with
   |false=>exact .nx ⟨(),rfl,by omega,by omega,i2 he⟩
   |true =>
    obtain⟨m',cur',k',e2,e3,e4,e5⟩:=inner j hj hj1 (i1 he);rw[e2];simp only[i8 (show m'<n+1 by omega)]
    exact .ex (.inl ⟨rfl,j,rfl,hj,hj1,i1 he⟩)
  ·obtain⟨hj1,hjn,hR⟩:=hx;refine⟨2,?_,.inr ⟨rfl,?_⟩⟩
   ·simp only[K4,I9];rw[bfD (by omega)]
   ·have:j=n:=by omega
    subst this;rw[Qjaw (by rw[Qjc];omega)] at hR
    unfold dvF at hR;rw[Qjq] at hR;exact hR
def Nd6(l:List V3):Prop:=l.Pairwise LtV
theorem Xb3{x y z:V3}(h1:LtV x y)(h2:LtV y z):LtV x z:=by unfold LtV at *;omega
theorem Pb2(x:V3):¬ LtV x x:=by unfold LtV;omega
theorem ce6(x y:V3):LtV x y\/x=y\/LtV y x:=by
 by_cases h1:LtV x y
 ·exact .inl h1
 ·by_cases h2:LtV y x
  ·exact .inr (.inr h2)
  ·refine .inr (.inl ?_);unfold LtV at h1 h2;exact Qjba (by omega) (by omega) (by omega)
theorem kd8(l:List V3):List.Perm (mb4 l) l:=List.mergeSort_perm l _
theorem Ad7(x y z:V3)(h1:(!ltOf bb3 y x)=true)(h2:(!ltOf bb3 z y)=true):(!ltOf bb3 z x)=true:=by
 rw[xa8] at *
 simp only[Bool.not_eq_true',decide_eq_false_iff_not] at *
 unfold LtV at *
 omega
theorem Ad8(x y:V3):((!ltOf bb3 y x)||(!ltOf bb3 x y))=true:=by
 rw[xa8,xa8];by_cases h:LtV y x
 ·have h2:¬ LtV x y:=λh2=>Pb2 x (Xb3 h2 h)
  simp[h2]
 ·simp[h]
theorem Oc5(l:List V3):(mb4 l).Pairwise λx y=>(!ltOf bb3 y x)=true:=List.pairwise_mergeSort Ad7 Ad8 l
theorem rd3(p:V3):∀(a:V3) (l:List V3),p∈a::dvF a l↔p∈a::l
 |a,[]=>by simp[dvF]
 |a,x::l=>by
  have ih:=rd3 p x l;unfold dvF;split
  ·rename_i h;rw[kb0] at h;subst h;rw[ih];simp
  ·simp only[Qjk] at ih ⊢;rw[ih]
theorem re5(p:V3):∀l:List V3,p∈ddV l↔p∈l
 |[]=>Iff.rfl
 |x::l=>rd3 p x l
theorem rd4:∀(a:V3) (l:List V3),(a::l).Pairwise (λx y=>(!ltOf bb3 y x)=true)->Nd6 (a::dvF a l)
 |a,[],_=>List.pairwise_singleton _ _
 |a,x::l,h=>by
  obtain⟨h1,h2⟩:=Qjy.1 h;have ih:=rd4 x l h2;have hle:=h1 x Qjl;rw[xa8] at hle;have hle:¬ LtV x a:=by simpa using hle
  unfold dvF;split
  ·rename_i he;rw[kb0] at he;subst he;exact ih
  ·rename_i hne;have hlt:LtV a x:=by
    rcases ce6 a x with h|h|h
    ·exact h
    ·exact absurd ((kb0 _ _).2 h.symm) hne
    ·exact absurd h hle
   refine Qjy.2 ⟨λp hp=>?_,ih⟩
   rcases Qjk.1 hp with e|hp'
   ·subst e;exact hlt
   ·exact Xb3 hlt ((Qjy.1 ih).1 p hp')
theorem tc4(l:List V3):Nd6 (ddV (mb4 l)):=by
 have h:=Oc5 l;cases hs:mb4 l with
 |nil=>exact .nil
 |cons a l'=>rw[hs] at h;exact rd4 a l' h
noncomputable def dis(l:List V3):List V3:=ddV (mb4 l)
theorem Ya9(l:List V3)(v:V3):v∈dis l↔v∈l:=by unfold dis;rw[re5,(kd8 l).mem_iff]
theorem Fc9(l:List V3):(dis l).Nodup:=List.Pairwise.imp (λ{x y} (h:LtV x y) (e:x=y)=>Pb2 y (e ▸ h)) (tc4 l)
theorem jc1(l:List V3):(dis l).length<=l.length:=by
 have:=List.Nodup.length_le_of_subset (Fc9 l) (λv hv=>(Ya9 l v).1 hv)
 exact this
theorem Gc0(l:List V3)(n:Nat)(hn:n<=l.length):slR tV (bL tV l) 0 n=l.take n:=Rb9 tV (by rw[Qjc];omega) λk hk=>by
 rw[Qjf,N2 tV (by omega)]
 congr 1;simp[gL,Qjr,Qjar,hk]
theorem Xb4(l:List V3)(n:Nat)(hn:n<=l.length):okS tV (bL tV l) 0 n=true:=ab0 tV (f:=λk=>gL tV l k) λk hk=>by rw[Qjf,N2 tV (by omega)]
theorem Gc1(a:V3)(l:List V3)(hl:l.length<=1000000):aa0 (a,l)=⟨1,(a::l).length,bL tV (a::l)⟩:=by
 have ec:o5 (λk=>tV.row (gL tV (a::l) k)) (List.range (l.length+1))=bL tV (a::l):=Kb2 tV (a::l)
 unfold aa0 P4;simp only[ec,wa3];have r:Nat.ble ((0+(a::l).length)*24) room=true:=by rw[Qjao];unfold room;simp only[List.length_cons];omega
 rw[r,Qjf];rfl
theorem Pb3(a:V3)(l:List V3)(hl:l.length<=1000000):∃m r,K6 ⟨(a::l).length,app (bL tV (mb4 (slR tV (bL tV (a::l)) 0 (a::l).length))) (i7 (bL tV (a::l)) (a::l).length)⟩=⟨1,m,bL tV r⟩/\m<=r.length/\r.take m=dis (a::l)/\r.length=l.length+1:=by
 have hs:(mb4 (a::l)).length=(a::l).length:=Fc1 _;rw[Eb9,tc3,Ra1];obtain⟨m,r,k1,k2,k3,k4⟩:=ad9 (mb4 (a::l)++(a::l).drop (a::l).length) (a::l).length (by rw[Qjd,hs];omega) (by rw[Qjd,hs,Qjak];simp only[List.length_cons];omega)
 refine⟨m,r,k1,k2,?_,by rw[k4,Qjd,hs,Qjak];simp only[List.length_cons];omega⟩
 rw[k3,Qjab (by rw[hs];omega),List.take_of_length_le (by rw[hs];omega)]
 rfl
theorem bd0(l:List V3)(hl:l.length<=2000000)(r:List V3):(Bool.and (Nat.ble l.length room) (Bool.and (Nat.ble l.length (len (bL tV (l++r)))) (okS tV (bL tV (l++r)) 0 l.length)))=true:=by
 rw[Xb4 _ _ (by rw[Qjd];omega),wa3,Qju,Qju,Qjao,Qjao]
 refine⟨by unfold room;omega,by rw[Qjd];omega,rfl⟩
theorem ac5(a:V3)(l:List V3)(hl:l.length<=1000000):Rd (one (r1L tV)) (ja8 (a,l)) (λr=>r=dis (a::l)):=by
 obtain⟨m,r,k1,k2,k3,_⟩:=Pb3 a l hl;have hok:okL tV (l.length+1) (λk=>tV.row (gL tV (a::l) k))=true:=ab0 tV (f:=λk=>gL tV (a::l) k) λ_ _=>rfl
 have hr:=bd0 (a::l) (by simp only[List.length_cons];omega) []
 rw[Qjq] at hr;unfold ja8;simp only[od3,od4,Gc1 a l hl,hok,k1,u9,Qjac,hr];refine⟨_,r.take m,rfl,?_,k3⟩;show Bool.rec (motive:=λ_=>Option (List V3)) none (some (slR tV (bL tV r) 0 m)) (Bool.and true (okS tV (bL tV r) 0 m))=_
 rw[Gc0 r m k2,Xb4 r m k2];rfl
theorem kd9(a:V3)(l:List V3)(hl:l.length<=1000000):Ka2 (a,l)=dis (a::l):=(ac5 a l hl).p
theorem ld0(a:V3)(l:List V3)(hl:l.length<=1000000):Ka3 (a,l)=true:=(ac5 a l hl).g
end Go.Ev.Ce
namespace Go.Ev.Ce
open Go Go.Ev Go.Ev.L Go.Proofs
theorem bd1(p:Pln)(v:V3):Aa3 p v=some (i (Q3 p v),[]):=by
 unfold Aa3 Q3;simp only[ae8,ae9,(cb0 v).1,(cb0 v).2,pd9,qd0,u9];cases hp:okp p with
 |false=>rfl
 |true =>
  cases hv:inV v with
  |false=>rfl
  |true =>
   have hb:=Gb4 hp;have hd:=Md8 hb hv;have e:w7 p.n v=dot p.n v:=by
    unfold w7;simp only[Gb0,Ub7];exact nb3 (hd.mono (by omega))
   rw[e];simp only[Bool.not_true,Ra0,Qjai,if_true,ab2];by_cases h1:dot p.n v<p.b
   ·rw[if_pos h1,if_pos (by omega)]
   ·rw[if_neg h1];by_cases h2:dot p.n v>p.b
    ·rw[if_pos h2,if_neg (by omega),if_pos (by omega)]
    ·rw[if_neg h2,if_neg (by omega),if_neg (by omega)]
theorem xb1(p:Pln)(v:V3):J2 p v=Q3 p v:=by unfold J2;rw[bd1];rfl
theorem kb1(p:Pln)(v:V3):R3 p v=true:=by unfold R3;rw[bd1];rfl
theorem ce7{v:V3}(h1:Sm 1000000000000000000 v.x)(h2:Sm 1000000000000000000 v.y)(h3:Sm 1000000000000000000 v.z):V1 [v.x,v.y,v.z]=g3 v/\V2 [v.x,v.y,v.z]=true:=by
 have hd:=sc0 [v.x,v.y,v.z] (by simp) (by
  intro x hx;simp only[Qjk,List.not_mem_nil,or_false] at hx
  rcases hx with rfl|rfl|rfl<;>assumption)
 have hg:([v.x,v.y,v.z].foldl (λg x=>Nat.gcd g x.natAbs) 0:Nat)=Nat.gcd (Nat.gcd v.x.natAbs v.y.natAbs) v.z.natAbs:=by
  simp only[List.foldl_cons,List.foldl_nil,Nat.gcd_zero_left]
 exact⟨by unfold V1;rw[hd,hg];rfl,by unfold V2;rw[hd];rfl⟩
theorem Nd7 {v : V3} (h1 : Sm 1000000000000000000 v.x) (h2 : Sm 1000000000000000000 v.y) (h3 : Sm 1000000000000000000 v.z) :
  Aa2 v=if g3 v=0 then some (.tup [.agg (tV.row ⟨0,0,0⟩),i 0],[]) else some (.tup [.agg (tV.row ⟨W (Int.tdiv v.x (g3 v)),W (Int.tdiv v.y (g3 v)),W (Int.tdiv v.z (g3 v))⟩),i (g3 v)],[]):=by
 obtain⟨e1,e2⟩:=ce7 h1 h2 h3;unfold Aa2;simp only[e1,e2,u9];by_cases h:g3 v=0
 ·rw[if_pos h,bt (by simpa using h)];rfl
 ·rw[if_neg h,bf (by simpa using h),bf (by simpa using h),bf (by simpa using h),bf (by simpa using h)];rfl
theorem ac6(a c d:V3):ja3 a c d=some (.tup [.agg (tP.row (A7 a c d).1),b (A7 a c d).2],[]):=by
 unfold ja3 A7;simp only[(cb0 _).1,(cb0 _).2];cases ha:inV a with
 |false=>rfl
 |true =>
  cases hc:inV c with
  |false=>rfl
  |true =>
   cases hd:inV d with
   |false=>rfl
   |true =>
    obtain⟨e,k1,k2,k3⟩:=bb9 ha hc hd;have e':A1 (K3 c a) (K3 d a)=c8 (sub c a) (sub d a):=e;rw[e'];generalize c8 (sub c a) (sub d a)=n at *
    have m1:=k1.mono (m:=1000000000000000000) (by omega)
    have m2:=k2.mono (m:=1000000000000000000) (by omega)
    have m3:=k3.mono (m:=1000000000000000000) (by omega)
    have hpr:=Nd7 m1 m2 m3;have gp:Ma4 n=true:=by unfold Ma4;rw[hpr];split<;>rfl
    by_cases h0:g3 n=0
    ·have pp:ra0 n=(⟨0,0,0⟩,0):=by unfold ra0;rw[hpr,if_pos h0];rfl
     have hz:w7 ⟨0,0,0⟩ a=0:=by unfold w7;simp only[Qjah];rfl
     simp only[gp,pp,hz,Qjai,if_true,h0];rfl
    ·have hp:=wb8 n;have q1:=da3 (g:=g3 n) k1 (by omega)
     have q2:=da3 (g:=g3 n) k2 (by omega)
     have q3:=da3 (g:=g3 n) k3 (by omega)
     rw[nb3 (q1.mono (by omega)),nb3 (q2.mono (by omega)),nb3 (q3.mono (by omega))] at hpr
     have pp:ra0 n=(⟨Int.tdiv n.x (g3 n),Int.tdiv n.y (g3 n),Int.tdiv n.z (g3 n)⟩,g3 n):=by unfold ra0;rw[hpr,if_neg h0];rfl
     have hdot:w7 ⟨Int.tdiv n.x (g3 n),Int.tdiv n.y (g3 n),Int.tdiv n.z (g3 n)⟩ a=dot ⟨Int.tdiv n.x (g3 n),Int.tdiv n.y (g3 n),Int.tdiv n.z (g3 n)⟩ a:=by
      unfold w7;simp only[Gb0,Ub7];obtain⟨⟨a1,a2⟩,⟨a3,a4⟩,a5,a6⟩:=(ra8 a).1 ha;have r1:=mb q1.1 q1.2 a1 a2;have r2:=mb q2.1 q2.2 a3 a4;have r3:=mb q3.1 q3.2 a5 a6;rw[ca8 (by omega) (by omega)]
      rfl
     simp only[gp,pp,hdot,Qjai,if_true,h0,if_false,show g3 n>0 from by omega,decide_true]
     rfl
theorem kb2(a b c:V3):E9 a b c=A7 a b c:=by unfold E9;rw[ac6];rfl
theorem Gb5(a b c:V3):ba9 a b c=true:=by unfold ba9;rw[ac6];rfl
theorem Nd8(v:V3)(p:Pln):Ga3 ⟨v.x,v.y,v.z,p.n.x,p.n.y,p.n.z,p.b⟩=⟨1,Q3 p v != 0⟩:=by
 unfold Ga3 la6;simp only[xb1,kb1,u9]
theorem ce8(l:List V3)(p:Pln)(hl:l.length<=1000000000):T3 ⟨l,p.n.x,p.n.y,p.n.z,p.b⟩=⟨1,if l.any (λv=>Q3 p v != 0) then ((l.findIdx (λv=>Q3 p v != 0):Nat):Int) else -1⟩:=by
 have h:=Na5 (step:=E2 ⟨l,(l.length:Int),p.n.x,p.n.y,p.n.z,p.b⟩) (mk:=λj=>(⟨(j:Int)⟩:m9)) (c:=λv=>Q3 p v != 0) (u:=1) (fin:=2) tV l hl
  (λj hj=>by
   simp only[E2,C1,Int.toNat_natCast,Nd8,D0 hj (by omega)]
   rw[bt (rc1 hj),bt (i8 hj)]
   rfl)
  (by simp only[E2,C1];rw[bf (Mb8 (Qje _))]) 0 (Qjj _)
 rw[Qjo] at h;unfold T3 D1;simp only[o6,l9];rw[show (⟨0⟩:m9)=⟨((0:Nat):Int)⟩ from rfl,h]
 split
 ·simp only[Qjf];rfl
 ·rfl
theorem rd5(l:List V3)(p:Pln)(hl:l.length<=1000000000):o3 ⟨l,p.n.x,p.n.y,p.n.z,p.b⟩=⟨1,l.any λv=>Q3 p v != 0⟩:=by
 unfold o3 y6;simp only[o6,l9,ce8 l p hl];split
 ·rename_i h;rw[h,show decide (((l.findIdx (λv=>Q3 p v != 0):Nat):Int)>=0)=true from decide_eq_true (by omega)];rfl
 ·rename_i h;rw[Qjal] at h;rw[h];rfl
theorem ce9(v:V3)(p:Pln):va3 ⟨v.x,v.y,v.z,p.n.x,p.n.y,p.n.z,p.b⟩=⟨1,decide (Q3 p v>0)⟩:=by
 unfold va3 ca0;simp only[xb1,kb1,u9]
theorem de0(l:List V3)(p:Pln)(hl:l.length<=1000000000):T6 ⟨l,p.n.x,p.n.y,p.n.z,p.b⟩=⟨1,if l.any (λv=>decide (Q3 p v>0)) then ((l.findIdx (λv=>decide (Q3 p v>0)):Nat):Int) else -1⟩:=by
 have h:=Na5 (step:=E3 ⟨l,(l.length:Int),p.n.x,p.n.y,p.n.z,p.b⟩) (mk:=λj=>(⟨(j:Int)⟩:n4)) (c:=λv=>decide (Q3 p v>0)) (u:=1) (fin:=2) tV l hl
  (λj hj=>by
   simp only[E3,C3,Int.toNat_natCast,ce9,D0 hj (by omega)]
   rw[bt (rc1 hj),bt (i8 hj)]
   rfl)
  (by simp only[E3,C3];rw[bf (Mb8 (Qje _))]) 0 (Qjj _)
 rw[Qjo] at h;unfold T6 D2;simp only[o6,l9];rw[show (⟨0⟩:n4)=⟨((0:Nat):Int)⟩ from rfl,h]
 split
 ·simp only[Qjf];rfl
 ·rfl
theorem de1(l:List V3)(p:Pln)(hl:l.length<=1000000000):M2 ⟨l,p.n.x,p.n.y,p.n.z,p.b⟩=⟨1,l.any λv=>decide (Q3 p v>0)⟩:=by
 unfold M2 y7;simp only[o6,l9,de0 l p hl];split
 ·rename_i h;rw[h,show decide (((l.findIdx (λv=>decide (Q3 p v>0)):Nat):Int)>=0)=true from decide_eq_true (by omega)];rfl
 ·rename_i h;rw[Qjal] at h;rw[h];rfl
def bey(l:List V3)(p:Pln):Bool:=l.any λv=>decide (Q3 p v>0)
theorem Gc2(l:List V3)(p:Pln)(hl:l.length<=1000000000):ta7 l p=some (b (bey l p),[]):=by
 unfold ta7;simp only[o6,l9,de1 l p hl];rfl
theorem Nd9(l:List V3)(p:Pln)(hl:l.length<=1000000000):Y3 l p=bey l p:=by unfold Y3;rw[Gc2 l p hl];rfl
theorem Od0(l:List V3)(p:Pln)(hl:l.length<=1000000000):F5 l p=true:=by unfold F5;rw[Gc2 l p hl];rfl
theorem tc5{α:Type}(t:Ty α)(l:List α){j k:Nat}(h:k<j):gL t (l.take j) k=gL t l k:=by
 simp[gL,Qjr,Qjar,h]
theorem Od1 (l : List V3) (i j : Nat) (hi : i < l.length) (hj : j < i) (hl : l.length ≤ 1000000) :
  lp (L9 ⟨(i:Int),(j:Int),(l.length:Int),(i:Int),(i:Int),(j:Int),(j:Int),l,l⟩) ⟨0⟩ =
   if (l.take j).any (λv=>(A7 v (gL tV l j) (gL tV l i)).2) then (1,⟨((l.take j).findIdx (λv=>(A7 v (gL tV l j) (gL tV l i)).2):Nat)⟩) else (2,⟨(j:Int)⟩):=by
 have hlen:(l.take j).length=j:=by rw[Qjc];omega
 have h:=Na5 (step:=L9 ⟨(i:Int),(j:Int),(l.length:Int),(i:Int),(i:Int),(j:Int),(j:Int),l,l⟩) (mk:=λk=>(⟨(k:Int)⟩:F4)) (c:=λv=>(A7 v (gL tV l j) (gL tV l i)).2) (u:=1) (fin:=2) tV (l.take j) (by omega)
  (λk hk=>by
   rw[hlen] at hk;simp only[L9,ja5,Int.toNat_natCast,kb2,Gb5,tc5 tV l hk,o6,l9,rd5 l _ (show l.length<=1000000000 by omega),D0 hk (by omega)]
   rw[btD (q7 hk),bt (i8 (by omega)),bt (i8 (by omega)),bt (i8 hi),u9]
   cases (A7 (gL tV l k) (gL tV l j) (gL tV l i)).2<;>rfl)
  (by rw[hlen];simp only[L9,ja5];rw[bfD (A6 (Qje _))]) 0 (Qjj _)
 rw[Qjo,hlen] at h;rw[show (⟨0⟩:F4)=⟨((0:Nat):Int)⟩ from rfl,h]
 split
 ·simp only[Qjf]
 ·rfl
def ixs(n:Nat):List Int:=(List.range n).map λk:Nat=>(k:Int)
theorem Na9(n:Nat):(ixs n).length=n:=by simp[ixs]
theorem rd6{n k:Nat}(h:k<n):gL tI (ixs n) k=(k:Int):=by
 simp[gL,ixs,Qjr,List.getElem?_map,List.getElem?_range h]
noncomputable def sp2(l:List V3)(i:Nat)(m:Int):Bool:=(l.take m.toNat).any λv=>(A7 v (gL tV l m.toNat) (gL tV l i)).2
theorem Od2 (l : List V3) (i : Nat) (hi : i < l.length) (hl : l.length ≤ 1000000) :
  lp (S1 ⟨(i:Int),(l.length:Int),(i:Int),(i:Int)⟩) ⟨0,l,l⟩=if (ixs i).any (sp2 l i) then (1,⟨((ixs i).findIdx (sp2 l i):Nat),l,l⟩) else (2,⟨(i:Int),l,l⟩):=by
 have h:=Na5 (step:=S1 ⟨(i:Int),(l.length:Int),(i:Int),(i:Int)⟩) (mk:=λj=>(⟨(j:Int),l,l⟩:I6)) (c:=sp2 l i) (u:=1) (fin:=2) tI (ixs i) (by rw[Na9];omega)
  (λj hj=>by
   rw[Na9] at hj;simp only[S1,ja6,Int.toNat_natCast,Nat.sub_zero,o6,l9,Od1 l i j hi hj hl,D0 hj (by omega),rd6 hj]
   rw[btD (q7 hj),bt (i8 (by omega))]
   unfold sp2;simp only[Int.toNat_natCast];cases ((l.take j).any λv=>(A7 v (gL tV l j) (gL tV l i)).2)<;>rfl)
  (by rw[Na9];simp only[S1,ja6];rw[bfD (A6 (Qje _))]) 0 (Qjj _)
 rw[Qjo,Na9] at h;rw[show (⟨0,l,l⟩:I6)=⟨((0:Nat):Int),l,l⟩ from rfl,h]
 split
 ·simp only[Qjf]
 ·rfl
noncomputable def sp1(l:List V3)(m:Int):Bool:=(ixs m.toNat).any (sp2 l m.toNat)
theorem re6 (l : List V3) (hl : l.length ≤ 1000000) :
  lp (ga7 ⟨(l.length:Int)⟩) ⟨0,l,l⟩=if (ixs l.length).any (sp1 l) then (1,⟨((ixs l.length).findIdx (sp1 l):Nat),l,l⟩) else (2,⟨(l.length:Int),l,l⟩):=by
 have h:=Na5 (step:=ga7 ⟨(l.length:Int)⟩) (mk:=λj=>(⟨(j:Int),l,l⟩:R4)) (c:=sp1 l) (u:=1) (fin:=2) tI (ixs l.length) (by rw[Na9];omega)
  (λi hi=>by
   rw[Na9] at hi;simp only[ga7,ja7,Int.toNat_natCast,Nat.sub_zero,o6,l9,Od2 l i hi hl,D0 hi (by omega),rd6 hi]
   rw[btD (q7 hi),bt (i8 (by omega))]
   unfold sp1;simp only[Int.toNat_natCast];cases (ixs i).any (sp2 l i)<;>rfl)
  (by rw[Na9];simp only[ga7,ja7];rw[bfD (A6 (Qje _))]) 0 (Qjj _)
 rw[Qjo,Na9] at h;rw[show (⟨0,l,l⟩:R4)=⟨((0:Nat):Int),l,l⟩ from rfl,h]
 split
 ·simp only[Qjf]
 ·rfl
theorem Oc6{α:Type}{l:List α}{c:α->Bool}(h:l.any c=true):l.findIdx c<l.length:=by
 obtain⟨x,h1,h2⟩:=Qjb.1 h;exact Qjam ⟨x,h1,h2⟩
theorem xb2{n:Nat}{c:Int->Bool}(h:(ixs n).any c=true):(ixs n).findIdx c<n/\c ((ixs n).findIdx c:Nat)=true:=by
 have hlt:=Oc6 h;have h1:=Qjad (xs:=ixs n) (p:=c) (w:=hlt);rw[Na9] at hlt;refine⟨hlt,?_⟩;simpa [ixs] using h1
noncomputable def iF(l:List V3):Nat:=(ixs l.length).findIdx (sp1 l)
noncomputable def jF(l:List V3):Nat:=(ixs (iF l)).findIdx (sp2 l (iF l))
noncomputable def kF(l:List V3):Nat:=(l.take (jF l)).findIdx (λv=>(A7 v (gL tV l (jF l)) (gL tV l (iF l))).2)
noncomputable def plF(l:List V3):Pln:=(A7 (gL tV l (kF l)) (gL tV l (jF l)) (gL tV l (iF l))).1
noncomputable def Bb5(l:List V3):Bool:=if (ixs l.length).any (sp1 l) then !(l.any λv=>Q3 (plF l) v != 0) else true
theorem bd2(l:List V3)(hl:l.length<=1000000):Ia0 l=some (b (Bb5 l),[]):=by
 unfold Ia0 Bb5;simp only[o6,l9];rw[re6 l hl];by_cases h:(ixs l.length).any (sp1 l)=true
 ·obtain⟨hi,h1⟩:=xb2 h;have h1:(ixs (iF l)).any (sp2 l (iF l))=true:=h1;obtain⟨hj,h2⟩:=xb2 h1;have h2:(l.take (jF l)).any (λv=>(A7 v (gL tV l (jF l)) (gL tV l (iF l))).2)=true:=h2
  rw[if_pos h,if_pos h];simp only[Int.toNat_natCast,Nat.sub_zero];rw[show (ixs l.length).findIdx (sp1 l)=iF l from rfl,Od2 l (iF l) hi hl,if_pos h1]
  simp only[Int.toNat_natCast,Nat.sub_zero];rw[show (ixs (iF l)).findIdx (sp2 l (iF l))=jF l from rfl,Od1 l (iF l) (jF l) hi hj hl,if_pos h2]
  simp only[Int.toNat_natCast,kb2];rw[show (l.take (jF l)).findIdx (λv=>(A7 v (gL tV l (jF l)) (gL tV l (iF l))).2)=kF l from rfl,show (A7 (gL tV l (kF l)) (gL tV l (jF l)) (gL tV l (iF l))).1=plF l from rfl,rd5 l _ (by omega)]
  rfl
 ·rw[if_neg h,if_neg h];rfl
theorem de2(l:List V3)(hl:l.length<=1000000):Ya3 l=Bb5 l:=by unfold Ya3;rw[bd2 l hl];rfl
theorem de3(l:List V3)(hl:l.length<=1000000):Ya4 l=true:=by unfold Ya4;rw[bd2 l hl];rfl
theorem Gc3(v:V3):oa4 v=some (b (!inV v),[]):=by
 unfold oa4;simp only[(cb0 v).1,(cb0 v).2,u9]
theorem Od3(v:V3):Aa4 v=!inV v:=by unfold Aa4;rw[Gc3];rfl
theorem Od4(v:V3):Aa5 v=true:=by unfold Aa5;rw[Gc3];rfl
theorem de4(l:List V3)(hl:l.length<=1000000000):T9 ⟨l⟩=⟨1,if l.any (λv=>!inV v) then ((l.findIdx (λv=>!inV v):Nat):Int) else -1⟩:=by
 have h:=Na5 (step:=E4 ⟨l,(l.length:Int)⟩) (mk:=λj=>(⟨(j:Int)⟩:n5)) (c:=λv=>!inV v) (u:=1) (fin:=2) tV l hl
  (λj hj=>by
   simp only[E4,C4,Int.toNat_natCast,Od3,Od4,D0 hj (by omega)]
   rw[bt (rc1 hj),bt (i8 hj),u9])
  (by simp only[E4,C4];rw[bf (Mb8 (Qje _))]) 0 (Qjj _)
 rw[Qjo] at h;unfold T9 D4;simp only[o6,l9];rw[show (⟨0⟩:n5)=⟨((0:Nat):Int)⟩ from rfl,h]
 split
 ·simp only[Qjf];rfl
 ·rfl
theorem de5(l:List V3)(hl:l.length<=1000000000):M5 ⟨l⟩=⟨1,l.any λv=>!inV v⟩:=by
 unfold M5 y8;simp only[o6,l9,de4 l hl];split
 ·rename_i h;rw[h,show decide (((l.findIdx (λv=>!inV v):Nat):Int)>=0)=true from decide_eq_true (by omega)];rfl
 ·rename_i h;rw[Qjal] at h;rw[h];rfl
noncomputable def aa5(l:List V3):Int:=if (l.length:Int)>48 then 2 else if l.any (λv=>!inV v) then 3 else if Bb5 l then 11 else 0
theorem Gc4(l:List V3)(hl:l.length<=1000000):Aa6 l=some (i (aa5 l),[]):=by
 unfold Aa6 aa5;simp only[o6,l9,ma3,de5 l (by omega),de2 l hl,de3 l hl]
 by_cases h:(l.length:Int)>48
 ·rw[btD h,if_pos h]
 ·rw[bfD h,if_neg h];cases l.any λv=>!inV v with
  |true=>rfl
  |false=>cases Bb5 l<;>rfl
theorem tc6(l:List V3)(hl:l.length<=1000000):ra2 l=aa5 l:=by unfold ra2;rw[Gc4 l hl];rfl
theorem tc7(l:List V3)(hl:l.length<=1000000):ra3 l=true:=by unfold ra3;rw[Gc4 l hl];rfl
theorem Od5{p:Pln}(h:Bd p):qa9 p=Y8 p:=by
 unfold qa9 K3 Y8
 simp only
 have:=h.x1;have:=h.x2;have:=h.y1;have:=h.y2;have:=h.z1;have:=h.z2;have:=h.b1;have:=h.b2
 rw[ca8 (by omega) (by omega),ca8 (by omega) (by omega),ca8 (by omega) (by omega),ca8 (by omega) (by omega)]
 simp only[Int.zero_sub]
noncomputable def Oc7(p:Pln):List c7:=[i p.n.x,i p.n.y,i p.n.z,i p.b,b true]
noncomputable def Za0(l:List Pln):List (List c7):=l.map Oc7
theorem Gc5(x q:Pln):xb5 flK [i x.n.x,i x.n.y,i x.n.z,i x.b] (Oc7 q)=eqP q x:=by
 show Bool.and (decide (x.n.x=q.n.x)) (Bool.and (decide (x.n.y=q.n.y)) (Bool.and (decide (x.n.z=q.n.z)) (Bool.and (decide (x.b=q.b)) true)))=_;unfold eqP;have h:∀a c:Int,decide (a=c)=(c==a):=λa c=>by rw[Bool.eq_iff_iff,decide_eq_true_eq,beq_iff_eq];exact eq_comm
 rw[h,h,h,h]
theorem bd3(x:Pln):∀l,Pa7 4 [(0,.int .i64),(1,.int .i64),(2,.int .i64),(3,.int .i64)] [i x.n.x,i x.n.y,i x.n.z,i x.b] (Za0 l)=Ob8 l x
 |[]=>rfl
 |q::l=>by
  have ih:=bd3 x l;unfold Pa7 at ih ⊢;show Option.rec (motive:=λ_=>Bool) false (λr=>toB (hdA (i7 r 4))) (Bool.rec (motive:=λ_=>Option (List c7)) (Yb0 flK [i x.n.x,i x.n.y,i x.n.z,i x.b] (Za0 l)) (some (Oc7 q)) (xb5 flK [i x.n.x,i x.n.y,i x.n.z,i x.b] (Oc7 q)))=Ob8 (q::l) x
  rw[Gc5];unfold Ob8 at ih ⊢;rw[List.any_cons];cases eqP q x with
  |true=>rfl
  |false=>exact ih
theorem ld1(x:Pln):∀l,Ob8 l x=false->Z2 [(0,.int .i64),(1,.int .i64),(2,.int .i64),(3,.int .i64)] [i x.n.x,i x.n.y,i x.n.z,i x.b] [i x.n.x,i x.n.y,i x.n.z,i x.b,b true] (Za0 l)=Za0 (l++[x])
 |[],_=>rfl
 |q::l,h=>by
  unfold Ob8 at h;rw[List.any_cons,Bool.or_eq_false_iff] at h;show Bool.rec (motive:=λ_=>List (List c7)) (Oc7 q::Z2 flK [i x.n.x,i x.n.y,i x.n.z,i x.b] (Oc7 x) (Za0 l)) (Oc7 x::Za0 l) (xb5 flK [i x.n.x,i x.n.y,i x.n.z,i x.b] (Oc7 q))=_
  rw[Gc5,h.1,show Z2 flK [i x.n.x,i x.n.y,i x.n.z,i x.b] (Oc7 x) (Za0 l)=_ from ld1 x l h.2]
  rfl
noncomputable def Gb6(s:List Pln)(p:Pln):List Pln:=if Ob8 s p then s else s++[p]
theorem Od6(s:List Pln)(p q:Pln):q∈Gb6 s p↔q∈s\/q=p:=by
 unfold Gb6;split
 ·rename_i h;rw[ad1] at h;exact⟨.inl,λh'=>h'.elim id λe=>e ▸ h⟩
 ·rw[Qjae,Qjas]
theorem tc8{s:List Pln}{p:Pln}(h:s.Nodup):(Gb6 s p).Nodup:=by
 unfold Gb6;split
 ·exact h
 ·rename_i hn;rw[ad1] at hn;rw[List.nodup_append];exact⟨h,by simp,λa ha b hb=>by rw[Qjas.1 hb];intro e;exact hn (e ▸ ha)⟩
theorem bd4(s:List Pln)(p:Pln):(Gb6 s p).length<=s.length+1:=by
 unfold Gb6;split
 ·omega
 ·simp
def fil(l:List V3)(s:List Pln):List Pln:=s.filter λp=>!bey l p
theorem jc2(l:List V3)(s:List Pln)(p:Pln):fil l (s++[p])=if bey l p then fil l s else fil l s++[p]:=by
 unfold fil;rw[Qjz,Qjv,List.filter_nil];cases bey l p<;>simp
theorem Oc8(l:List V3)(s:List Pln):(fil l s).length<=s.length:=Qjan _ _
noncomputable def Bb6(l:List V3)(a c:Nat)(s:List Pln)(k:Nat):List Pln :=
 if (A7 (gL tV l k) (gL tV l c) (gL tV l a)).2 then Gb6 (Gb6 s (A7 (gL tV l k) (gL tV l c) (gL tV l a)).1) (Y8 (A7 (gL tV l k) (gL tV l c) (gL tV l a)).1) else s
noncomputable def G2(l:List V3)(a:Nat)(s:List Pln)(c:Nat):List Pln:=(List.range c).foldl (Bb6 l a c) s
noncomputable def G1(l:List V3)(s:List Pln)(a:Nat):List Pln:=(List.range a).foldl (G2 l a) s
noncomputable def G0(l:List V3):List Pln:=(List.range l.length).foldl (G1 l) []
theorem Gc6(l:List V3)(a c:Nat)(s:List Pln)(k:Nat):(Bb6 l a c s k).length<=s.length+2:=by
 unfold Bb6;split
 ·have h1:=bd4 (Gb6 s (A7 (gL tV l k) (gL tV l c) (gL tV l a)).1) (Y8 (A7 (gL tV l k) (gL tV l c) (gL tV l a)).1);have h2:=bd4 s (A7 (gL tV l k) (gL tV l c) (gL tV l a)).1;omega
 ·omega
theorem re7(l:List V3)(a:Nat)(s:List Pln)(c:Nat):(G2 l a s c).length<=s.length+2*c:=sc8 (Gc6 l a c) s c
theorem ld2(l:List V3)(a:Nat)(s:List Pln):∀j,j<=a->a<=48->((List.range j).foldl (G2 l a) s).length<=s.length+96*j
 |0,_,_=>Qjm _
 |j+1,h,ha=>by
  rw[F8];have h1:=ld2 l a s j (by omega) ha
  have h2:=re7 l a ((List.range j).foldl (G2 l a) s) j;omega
theorem Oc9(l:List V3)(hl:l.length<=48):∀j,j<=l.length->((List.range j).foldl (G1 l) []).length<=5000*j
 |0,_=>Qjm _
 |j+1,h=>by
  rw[F8];have h1:=Oc9 l hl j (by omega)
  have h2:(G1 l ((List.range j).foldl (G1 l) []) j).length<=_:=ld2 l j ((List.range j).foldl (G1 l) []) j (Qjm _) (by omega)
  omega
@[reducible] noncomputable def mkf(l:List V3)(k:Nat)(s:List Pln):y9:=⟨phP (fil l s),(k:Int),Za0 s,(fil l s).length,bL tP (fil l s)⟩
theorem Xb5{n:Nat}{l:List Pln}(hn:n=l.length)(h:l.length<=1000000000):(Nat.beq n (len (bL tP l))&&Nat.ble ((n+1)*32) room)=true:=by
 subst hn;rw[wa3,Qjac,Bool.true_and];exact ae1 (by omega)
theorem rd7(o:List Pln)(x:Pln):phP (o++[x])=1:=by cases o<;>rfl
theorem Od7 (l : List V3) (hl : l.length ≤ 48) (a c k : Nat) (ha : a < l.length) (hc : c < a) (hk : k < c) (x1 x2 x3 x4 : Int) (s : List Pln) (ho : s.length ≤ 900000) :
  N7 ⟨(a:Int),(c:Int),x1,x2,x3,x4,(c:Int),l,l⟩ (mkf l k s)=.next (mkf l (k+1) (Bb6 l a c s k)):=by
 have hfl:qa9 (A7 (gL tV l k) (gL tV l c) (gL tV l a)).1=Y8 (A7 (gL tV l k) (gL tV l c) (gL tV l a)).1:=Od5 (be9 _ _ _);have hb:∀p,Y3 l p=bey l p:=λp=>Nd9 l p (by omega)
 have hg:∀p,F5 l p=true:=λp=>Od0 l p (by omega)
 have hn:=D0 hk (show c<=4611686018427387904 by omega)
 have b1:inB (a:Int) l.length=true:=i8 ha;have b2:inB (c:Int) l.length=true:=i8 (by omega)
 have b3:inB (k:Int) l.length=true:=i8 (by omega)
 have hfl2:=Oc8 l s;unfold Bb6;unfold mkf;generalize hT:A7 (gL tV l k) (gL tV l c) (gL tV l a)=T at *
 cases hO:fil l s with
 |nil =>
  show P5 Stp.next Stp.exit Stp.fail _ _=_;simp only[P5,kb2,Gb5,Int.toNat_natCast,o6,ma3,hT,hfl,hb,hg,hn,b1,b2,b3,bd3];rw[btD (q7 hk)];cases h2:T.2 with
  |false=>simp only[Qjh,if_false,hO];rfl
  |true =>
   simp only[if_true,u9];cases h3:Ob8 s T.1 with
   |true =>
    cases h4:Ob8 s (Y8 T.1) with
    |true=>simp only[Gb6,h3,h4,if_true,hO];rfl
    |false =>
     rw[ld1 _ _ h4];cases h5:bey l (Y8 T.1)<;>(simp only[Gb6,h3,h4,h5,if_true,if_false,Qjh,jc2,hO];rfl)
   |false =>
    simp only[ld1 _ _ h3,bd3];cases h5:bey l T.1<;>cases h4:Ob8 (s++[T.1]) (Y8 T.1)<;>(try simp only[ld1 _ _ h4])<;>cases h6:bey l (Y8 T.1)<;>(simp only[Gb6,h3,h4,h5,h6,if_true,if_false,Qjh,jc2,hO];rfl)
 |cons q o =>
  have rr:(Nat.beq (q::o).length (len (bL tP (q::o)))&&Nat.ble (((q::o).length+1)*32) room)=true:=Xb5 rfl (by rw[<- hO];omega)
  have ap:∀(O:List Pln) (p:Pln),app (bL tP O) [[i p.n.x,i p.n.y,i p.n.z,i p.b]]=bL tP (O++[p]):=λO p=>Ra1 tP O [p]
  have rr2:∀p:Pln,(Nat.beq ((q::o).length+1) (len (bL tP (q::o++[p])))&&Nat.ble (((q::o).length+1+1)*32) room)=true:=λp=>Xb5 (by simp) (by rw[<- hO,Qjd,List.length_singleton];omega)
  show P6 Stp.next Stp.exit Stp.fail _ _=_;simp only[P6,kb2,Gb5,Int.toNat_natCast,o6,ma3,hT,hfl,hb,hg,hn,b1,b2,b3,bd3,rr,ap,rr2];rw[btD (q7 hk)];cases h2:T.2 with
  |false=>simp only[Qjh,if_false,hO];rfl
  |true =>
   simp only[if_true,u9];cases h3:Ob8 s T.1 with
   |true =>
    cases h4:Ob8 s (Y8 T.1) with
    |true=>simp only[Gb6,h3,h4,if_true,hO];rfl
    |false =>
     rw[ld1 _ _ h4];cases h5:bey l (Y8 T.1)<;>(simp only[Gb6,h3,h4,h5,if_true,if_false,Qjh,jc2,hO,rd7,Qjd,List.length_singleton];rfl)
   |false =>
    simp only[ld1 _ _ h3,bd3];cases h5:bey l T.1<;>cases h4:Ob8 (s++[T.1]) (Y8 T.1)<;>(try simp only[ld1 _ _ h4])<;>cases h6:bey l (Y8 T.1)<;>(simp only[Gb6,h3,h4,h5,h6,if_true,if_false,Qjh,jc2,hO,rd7,Qjd,List.length_singleton];rfl)
theorem re8 (l : List V3) (hl : l.length ≤ 48) (a c : Nat) (ha : a < l.length) (hc : c < a) (x1 x2 x3 x4 : Int) (s : List Pln) (ho : s.length ≤ 800000) :
  ∃j,lp (N7 ⟨(a:Int),(c:Int),x1,x2,x3,x4,(c:Int),l,l⟩) (mkf l 0 s)=(phP (fil l (G2 l a s c))+1,mkf l j (G2 l a s c)):=by
 have key:=X4 (step:=N7 ⟨(a:Int),(c:Int),x1,x2,x3,x4,(c:Int),l,l⟩) (mk:=mkf l) c (λj o=>j<=c/\o=(List.range j).foldl (Bb6 l a c) s) (λt r=>t=phP (fil l (G2 l a s c))+1/\∃j:Nat,r=mkf l j (G2 l a s c)) (by omega)
  (λj o hj hi=>by
   obtain⟨_,hi⟩:=hi;have hlen:o.length<=900000:=by
    rw[hi]
    have:=sc8 (Gc6 l a c) s j
    omega
   rw[Od7 l hl a c j ha hc hj x1 x2 x3 x4 o hlen];exact .nx ⟨_,rfl,by omega,by rw[F8,<- hi]⟩)
  (λj o hj hi=>by
   obtain⟨h1,hi⟩:=hi;have e:j=c:=by omega
   subst e;have hF:o=G2 l a s j:=hi;rw[<- hF];refine⟨_,?_,rfl,j,rfl⟩;unfold mkf;cases hO:fil l o with
   |nil =>
    show P5 Stp.next Stp.exit Stp.fail _ _=_;simp only[P5];rw[bfD (A6 (Qje _))];rfl
   |cons q o =>
    show P6 Stp.next Stp.exit Stp.fail _ _=_;simp only[P6];rw[bfD (A6 (Qje _))]
    rfl) 0 s ⟨Qjj _,rfl⟩
 obtain⟨t,r,h1,rfl,j,rfl⟩:=key;exact⟨j,h1⟩
@[reducible] noncomputable def tc9(l:List V3)(k:Nat)(s:List Pln):s8:=⟨phP (fil l s),(k:Int),l,l,Za0 s,(fil l s).length,bL tP (fil l s)⟩
theorem re9 (l : List V3) (hl : l.length ≤ 48) (a : Nat) (ha : a < l.length) (x1 x2 : Int) (s : List Pln) (ho : s.length ≤ 700000) :
  ∃j,lp (V5 ⟨(a:Int),x1,x2,(a:Int)⟩) (tc9 l 0 s)=(phP (fil l (G1 l s a))+1,tc9 l j (G1 l s a)):=by
 have key:=X4 (step:=V5 ⟨(a:Int),x1,x2,(a:Int)⟩) (mk:=tc9 l) a (λj o=>j<=a/\o=(List.range j).foldl (G2 l a) s) (λt r=>t=phP (fil l (G1 l s a))+1/\∃j:Nat,r=tc9 l j (G1 l s a)) (by omega)
  (λj o hj hi=>by
   obtain⟨hja,hi⟩:=hi;have hlen:o.length<=800000:=by rw[hi];have:=ld2 l a s j hja (by omega);omega
   have hn:=D0 hj (show a<=4611686018427387904 by omega)
   have bj:inB (j:Int) (l.length+1)=true:=i8 (by omega)
   obtain⟨j',e1⟩:=re8 l hl a j ha hj x1 x2 (a:Int) (j:Int) o hlen
   have fin : ∀ {r : s8}, r = tc9 l (j + 1) (G2 l a o j) → Nx (.next r) (fun t => t = phP (fil l (G1 l s a)) + 1 ∧ ∃ j' : Nat, tc9 l j o = tc9 l j' (G1 l s a))
     (λr=>∃o',r=tc9 l (j+1) o'/\(j+1<=a/\o'=(List.range (j+1)).foldl (G2 l a) s)):=λ{r} hs =>
    .nx ⟨_,hs,by omega,by rw[F8,<- hi]⟩
   clear hi
   generalize hF:G2 l a o j=R at *
   unfold tc9 at *
   unfold mkf at e1;cases hO:fil l o with
   |nil =>
    rw[hO] at e1 fin;show Nx (P7 Stp.next Stp.exit Stp.fail _ _) _ _;simp only[P7,o6,l9,hn,bj,Int.toNat_natCast,Nat.sub_zero];have e1:lp (N7 ⟨(a:Int),(j:Int),x1,x2,(a:Int),(j:Int),(j:Int),l,l⟩) ⟨0,0,Za0 o,0,[]⟩=_:=e1;rw[btD (q7 hj),e1];cases hR:fil l R with
    |nil=>exact fin (by rw[hR];rfl)
    |cons q R'=>exact fin (by rw[hR];rfl)
   |cons q o' =>
    rw[hO] at e1 fin;show Nx (P8 Stp.next Stp.exit Stp.fail _ _) _ _;simp only[P8,o6,l9,hn,bj,Int.toNat_natCast,Nat.sub_zero];have e1:lp (N7 ⟨(a:Int),(j:Int),x1,x2,(a:Int),(j:Int),(j:Int),l,l⟩) ⟨1,0,Za0 o,(q::o').length,bL tP (q::o')⟩=_:=e1;rw[btD (q7 hj),e1];cases hR:fil l R with
    |nil=>exact fin (by rw[hR];rfl)
    |cons q R'=>exact fin (by rw[hR];rfl))
  (λj o hj hi=>by
   obtain⟨h1,hi⟩:=hi;have e:j=a:=by omega
   subst e;have hF:o=G1 l s j:=hi;rw[<- hF];refine⟨_,?_,rfl,j,rfl⟩;unfold tc9;cases hO:fil l o with
   |nil =>
    show P7 Stp.next Stp.exit Stp.fail _ _=_;simp only[P7];rw[bfD (A6 (Qje _))];rfl
   |cons q o =>
    show P8 Stp.next Stp.exit Stp.fail _ _=_;simp only[P8];rw[bfD (A6 (Qje _))]
    rfl) 0 s ⟨Qjj _,rfl⟩
 obtain⟨t,r,h1,rfl,j,rfl⟩:=key;exact⟨j,h1⟩
@[reducible] noncomputable def Pc0(l:List V3)(k:Nat)(s:List Pln):z6:=⟨phP (fil l s),(k:Int),l,l,Za0 s,(fil l s).length,bL tP (fil l s)⟩
theorem se0 (l : List V3) (hl : l.length ≤ 48) :
  ∃j,lp (va5 ⟨(l.length:Int)⟩) ⟨0,0,l,l,[],0,[]⟩=(phP (fil l (G0 l))+1,Pc0 l j (G0 l)):=by
 have key:=X4 (step:=va5 ⟨(l.length:Int)⟩) (mk:=Pc0 l) l.length (λj o=>j<=l.length/\o=(List.range j).foldl (G1 l) []) (λt r=>t=phP (fil l (G0 l))+1/\∃j:Nat,r=Pc0 l j (G0 l)) (by omega)
  (λj o hj hi=>by
   obtain⟨hja,hi⟩:=hi;have hlen:o.length<=700000:=by rw[hi];have:=Oc9 l hl j hja;omega
   have hn:=D0 hj (show l.length<=4611686018427387904 by omega)
   have bj:inB (j:Int) (l.length+1)=true:=i8 (by omega)
   obtain⟨j',e1⟩:=re9 l hl j hj (l.length:Int) (j:Int) o hlen
   have fin : ∀ {r : z6}, r = Pc0 l (j + 1) (G1 l o j) → Nx (.next r) (fun t => t = phP (fil l (G0 l)) + 1 ∧ ∃ j' : Nat, Pc0 l j o = Pc0 l j' (G0 l))
     (λr=>∃o',r=Pc0 l (j+1) o'/\(j+1<=l.length/\o'=(List.range (j+1)).foldl (G1 l) [])):=λ{r} hs =>
    .nx ⟨_,hs,by omega,by rw[F8,<- hi]⟩
   clear hi
   generalize hF:G1 l o j=R at *
   unfold Pc0 at *
   unfold tc9 at e1;cases hO:fil l o with
   |nil =>
    rw[hO] at e1 fin;show Nx (P9 Stp.next Stp.exit Stp.fail _ _) _ _;simp only[P9,o6,l9,hn,bj,Int.toNat_natCast,Nat.sub_zero];have e1:lp (V5 ⟨(j:Int),(l.length:Int),(j:Int),(j:Int)⟩) ⟨0,0,l,l,Za0 o,0,[]⟩=_:=e1;rw[btD (q7 hj),e1];cases hR:fil l R with
    |nil=>exact fin (by rw[hR];rfl)
    |cons q R'=>exact fin (by rw[hR];rfl)
   |cons q o' =>
    rw[hO] at e1 fin;show Nx (Q0 Stp.next Stp.exit Stp.fail _ _) _ _;simp only[Q0,o6,l9,hn,bj,Int.toNat_natCast,Nat.sub_zero];have e1:lp (V5 ⟨(j:Int),(l.length:Int),(j:Int),(j:Int)⟩) ⟨1,0,l,l,Za0 o,(q::o').length,bL tP (q::o')⟩=_:=e1;rw[btD (q7 hj),e1];cases hR:fil l R with
    |nil=>exact fin (by rw[hR];rfl)
    |cons q R'=>exact fin (by rw[hR];rfl))
  (λj o hj hi=>by
   obtain⟨h1,hi⟩:=hi;have e:j=l.length:=by omega
   subst e;have hF:o=G0 l:=hi;rw[<- hF];refine⟨_,?_,rfl,l.length,rfl⟩;unfold Pc0;cases hO:fil l o with
   |nil =>
    show P9 Stp.next Stp.exit Stp.fail _ _=_;simp only[P9];rw[bfD (A6 (Qje _))];rfl
   |cons q o =>
    show Q0 Stp.next Stp.exit Stp.fail _ _=_;simp only[Q0];rw[bfD (A6 (Qje _))]
    rfl) 0 [] ⟨Qjj _,rfl⟩
 obtain⟨t,r,h1,rfl,j,rfl⟩:=key;exact⟨j,h1⟩
theorem ld3{F:List Pln}(h:∀p∈F,okp p=true){k:Nat}(hk:k<F.length):Bd (gL tP F k):=Gb4 (h _ (Ta7 tP hk))
theorem de6{n:V3}{r:Pln}(hn:Sm 42467328 n.x/\Sm 42467328 n.y/\Sm 42467328 n.z)(hr:Bd r):w7 n r.n=dot n r.n:=by
 obtain⟨⟨a1,a2⟩,⟨a3,a4⟩,a5,a6⟩:=hn;have r1:=mb a1 a2 hr.x1 hr.x2;have r2:=mb a3 a4 hr.y1 hr.y2;have r3:=mb a5 a6 hr.z1 hr.z2;unfold w7;simp only[Gb0,Ub7];rw[ca8 (by omega) (by omega)]
 rfl
theorem de7 (l : List Pln) (n : V3) (hn : Sm 42467328 n.x ∧ Sm 42467328 n.y ∧ Sm 42467328 n.z) (hF : ∀ p ∈ l, okp p = true) (hl : l.length ≤ 1000000000) :
  O3 ⟨l,n.x,n.y,n.z⟩=⟨1,if l.any (λr=>dot n r.n != 0) then ((l.findIdx (λr=>dot n r.n != 0):Nat):Int) else -1⟩:=by
 have h:=Na5 (step:=B6 ⟨l,(l.length:Int),n.x,n.y,n.z⟩) (mk:=λj=>(⟨(j:Int)⟩:l6)) (c:=λr=>dot n r.n != 0) (u:=1) (fin:=2) tP l hl
  (λj hj=>by
   have e:=de6 hn (ld3 hF hj);simp only[B6,A5,Int.toNat_natCast,Ka4,ca1,e,D0 hj (show l.length<=4611686018427387904 by omega)]
   rw[btD (q7 hj),bt (i8 hj)])
  (by simp only[B6,A5];rw[bfD (A6 (Qje _))]) 0 (Qjj _)
 rw[Qjo] at h;unfold O3 B1;simp only[o6,l9];rw[show (⟨0⟩:l6)=⟨((0:Nat):Int)⟩ from rfl,h]
 split
 ·simp only[Qjf];rfl
 ·rfl
theorem de8 (l : List Pln) (n : V3) (hn : Sm 42467328 n.x ∧ Sm 42467328 n.y ∧ Sm 42467328 n.z) (hF : ∀ p ∈ l, okp p = true) (hl : l.length ≤ 1000000000) :
  J5 ⟨l,n.x,n.y,n.z⟩=⟨1,l.any λr=>dot n r.n != 0⟩:=by
 unfold J5 r9;simp only[o6,l9,de7 l n hn hF hl];split
 ·rename_i h;rw[h,show decide (((l.findIdx (λr=>dot n r.n != 0):Nat):Int)>=0)=true from decide_eq_true (by omega)];rfl
 ·rename_i h;rw[Qjal] at h;rw[h];rfl
noncomputable def Ad9(l:List Pln)(a c:Nat):Bool:=l.any λr=>dot (c8 (gL tP l a).n (gL tP l c).n) r.n != 0
noncomputable def vtx(l:List Pln):Bool:=(List.range l.length).any λa=>(List.range a).any (Ad9 l a)
theorem Bd0{p q:Pln}(hp:Bd p)(hq:Bd q):A1 p.n q.n=c8 p.n q.n/\Sm 42467328 (c8 p.n q.n).x/\Sm 42467328 (c8 p.n q.n).y/\Sm 42467328 (c8 p.n q.n).z:=by
 obtain⟨k1,k2,k3⟩:=sb7 hp.n hq.n;refine⟨?_,k1,k2,k3⟩;rw[ae5,nb3 (k1.mono (by omega)),nb3 (k2.mono (by omega)),nb3 (k3.mono (by omega))]
theorem ld4 (l : List Pln) (hF : ∀ p ∈ l, okp p = true) (hl : l.length ≤ 1000000) (a : Nat) (ha : a < l.length) (x9 x10 : Int) :
  ∃j,lp (Y4 ⟨l,l,x9,x10,a,(λk=>(λk=>tP.row (gL tP l k)) (0+k)),(a:Int),(gL tP l a).n.x,(gL tP l a).n.y,(gL tP l a).n.z,(gL tP l a).b⟩) ⟨0⟩=(if (List.range a).any (Ad9 l a) then 1 else 2,⟨((j:Nat):Int)⟩) :=
 sc7 (step:=Y4 ⟨l,l,x9,x10,a,(λk=>(λk=>tP.row (gL tP l k)) (0+k)),(a:Int),(gL tP l a).n.x,(gL tP l a).n.y,(gL tP l a).n.z,(gL tP l a).b⟩) (mk:=λj=>(⟨(j:Int)⟩:N8)) a (Ad9 l a) 1 2 (by omega)
  (λj hj=>by
   obtain⟨e,k1,k2,k3⟩:=Bd0 (ld3 hF ha) (ld3 hF (show j<l.length by omega))
   have rr:(⟨toI (hdA (tP.row (gL tP l j))),toI (hdA (tlA (tP.row (gL tP l j)))),toI (hdA (tlA (tlA (tP.row (gL tP l j)))))⟩:V3)=(gL tP l j).n:=rfl;have e':A1 ⟨(gL tP l a).n.x,(gL tP l a).n.y,(gL tP l a).n.z⟩ (gL tP l j).n=c8 (gL tP l a).n (gL tP l j).n:=e;simp only[Y4,da1,Int.toNat_natCast,Qjf,rr,e',pe7,o6,l9,de8 l _ ⟨k1,k2,k3⟩ hF (show l.length<=1000000000 by omega),D0 hj (show a<=4611686018427387904 by omega)]
   rw[btD (q7 hj),bt (i8 hj)];unfold Ad9;cases hz:((c8 (gL tP l a).n (gL tP l j).n).x==0&&((c8 (gL tP l a).n (gL tP l j).n).y==0&&((c8 (gL tP l a).n (gL tP l j).n).z==0&&true))) with
   |false=>rfl
   |true =>
    simp only[Qjw,Qju,beq_iff_eq] at hz
    have:(l.any λr=>dot (c8 (gL tP l a).n (gL tP l j).n) r.n != 0)=false:=by
     rw[List.any_eq_false];intro r _
     have:dot (c8 (gL tP l a).n (gL tP l j).n) r.n=0:=by unfold dot;rw[hz.1,hz.2.1,hz.2.2];simp only[Qjah,Int.add_zero]
     rw[this]
     decide
    rw[this]
    rfl)
  (by simp only[Y4,da1];rw[bfD (A6 (Qje _))])
theorem Gc7(l:List Pln)(hF:∀p∈l,okp p=true)(hl:l.length<=1000000):ta9 l=some (b (vtx l),[]):=by
 obtain⟨j,h⟩:=sc7 (step:=Y5 ⟨(l.length:Int)⟩) (mk:=λj=>(⟨l,l,(j:Int)⟩:N9)) l.length (λa=>(List.range a).any (Ad9 l a)) 1 2 (by omega)
  (λj hj=>by
   obtain⟨j',h1⟩:=ld4 l hF hl j hj (l.length:Int) (j:Int);simp only[Y5,da2,o6,l9,Int.toNat_natCast,Nat.sub_zero,D0 hj (show l.length<=4611686018427387904 by omega)]
   rw[btD (q7 hj),bt (i8 hj),bt (i8 (show j<l.length+1 by omega)),h1]
   cases (List.range j).any (Ad9 l j)<;>rfl)
  (by simp only[Y5,da2];rw[bfD (A6 (Qje _))])
 have h:lp (Y5 ⟨(l.length:Int)⟩) ⟨l,l,0⟩=(if vtx l then 1 else 2,⟨l,l,((j:Nat):Int)⟩):=h
 unfold ta9;simp only[o6,l9];rw[h];cases vtx l<;>rfl
theorem bd5(l:List Pln)(hF:∀p∈l,okp p=true)(hl:l.length<=1000000):la7 l=vtx l:=by unfold la7;rw[Gc7 l hF hl];rfl
theorem bd6(l:List Pln)(hF:∀p∈l,okp p=true)(hl:l.length<=1000000):la8 l=true:=by unfold la8;rw[Gc7 l hF hl];rfl
theorem de9(l:List Pln):vtx l=true↔∃p q s,p∈l/\q∈l/\s∈l/\mw p q s≠0:=by
 unfold vtx;rw[Qjb];constructor
 ·rintro⟨a,ha,h⟩;obtain⟨c,hc,h⟩:=Qjb.1 h;rw[Qji] at ha hc;obtain⟨r,hr,h⟩:=Qjb.1 h;have h:dot (c8 (gL tP l a).n (gL tP l c).n) r.n≠0:=bne_iff_ne.1 h;exact⟨_,_,r,Ta7 tP ha,Ta7 tP (show c<l.length by omega),hr,λe=>h (by rw[<- e];simp only[mw,dot,c8];grind)⟩
 ·rintro⟨p,q,s,hp,hq,hs,hw⟩;obtain⟨i',hi,rfl⟩:=Qjt.1 hp;obtain⟨j',hj,rfl⟩:=Qjt.1 hq;have hne:i'≠j':=λe=>hw (by subst e;simp only[mw,dot,c8];grind)
  rw[<- mb3 tP hi,<- mb3 tP hj] at hw
  rcases Qjag hne with h|h
  ·refine⟨j',Qji.2 hj,Qjb.2 ⟨i',Qji.2 h,Qjb.2 ⟨s,hs,?_⟩⟩⟩
   have:dot (c8 (gL tP l j').n (gL tP l i').n) s.n≠0:=λe=>hw (by
    rw[show mw (gL tP l i') (gL tP l j') s=-dot (c8 (gL tP l j').n (gL tP l i').n) s.n from by simp only[mw,dot,c8];grind,e]
    rfl)
   exact bne_iff_ne.2 this
  ·refine⟨i',Qji.2 hi,Qjb.2 ⟨j',Qji.2 h,Qjb.2 ⟨s,hs,?_⟩⟩⟩
   have:dot (c8 (gL tP l i').n (gL tP l j').n) s.n≠0:=λe=>hw (by rw[<- e];simp only[mw,dot,c8];grind)
   exact bne_iff_ne.2 this
structure OkF(F:List Pln):Prop where
 l:F.length<=1000000
 v:∀p∈F,okp p=true
noncomputable def own(F:List Pln)(v:V3):List Pln:=F.filter λp=>Q3 p v==0
noncomputable def kv(F:List Pln)(v:V3):Bool:=vtx (own F v)
theorem Bd1(F:List Pln)(v:V3)(hF:F.length<=1000000):∃j,lp (fa2 ⟨F,(F.length:Int),F,v.x,v.y,v.z⟩) ⟨0,0,0,[]⟩=(phP (own F v)+1,⟨phP (own F v),((j:Nat):Int),(own F v).length,bL tP (own F v)⟩):=by
 have key:=X4 (step:=fa2 ⟨F,(F.length:Int),F,v.x,v.y,v.z⟩) (mk:=λj (o:List Pln)=>(⟨phP o,(j:Int),o.length,bL tP o⟩:l5)) F.length (λj o=>j<=F.length/\o=(F.take j).filter λp=>Q3 p v==0) (λt s=>t=phP (own F v)+1/\∃j:Nat,s=⟨phP (own F v),(j:Int),(own F v).length,bL tP (own F v)⟩) (by omega)
  (λj o hj hi=>by
   obtain⟨_,hi⟩:=hi;have hlen:o.length<=1000000:=by
    rw[hi];have h1:=Qjan (λp=>Q3 p v==0) (F.take j)
    have h2:=List.length_take_le j F;omega
   have hn:=D0 hj (show F.length<=4611686018427387904 by omega)
   have hb:=i8 hj;have hT:(F.take (j+1)).filter (λp=>Q3 p v==0)=o++(if (Q3 (gL tP F j) v==0)=true then [gL tP F j] else []):=by
    rw[jb9 tP hj,Qjz,<- hi,Qjv,List.filter_nil]
   have hnext : ∀ {s : l5} {o' : List Pln}, o' = (F.take (j + 1)).filter (fun p => Q3 p v == 0) → s = ⟨phP o', ((j + 1 : Nat) : Int), o'.length, bL tP o'⟩ → Nx (.next s) (fun t => t = phP (own F v) + 1 ∧ ∃ j' : Nat, (⟨phP o, (j : Int), o.length, bL tP o⟩ : l5) = ⟨phP (own F v), (j' : Int), (own F v).length, bL tP (own F v)⟩)
     (λs=>∃o',s=(⟨phP o',((j+1:Nat):Int),o'.length,bL tP o'⟩:l5)/\(j+1<=F.length/\o'=(F.take (j+1)).filter λp=>Q3 p v==0)):=λ{s o'} ho' hs=>.nx ⟨o',hs,by omega,ho'⟩
   clear hi
   cases o with
   |nil =>
    show Nx (E6 Stp.next Stp.exit Stp.fail _ _) _ _;simp only[E6,Int.toNat_natCast,xb1,kb1,hn,hb];rw[btD (q7 hj)];cases hs:Q3 (gL tP F j) v==0 with
    |true=>exact hnext (o':=[gL tP F j]) (by rw[hT,hs];rfl) rfl
    |false=>exact hnext (o':=[]) (by rw[hT,hs];rfl) rfl
   |cons q o =>
    have rr:(Nat.beq (q::o).length (len (bL tP (q::o)))&&Nat.ble (((q::o).length+1)*32) room)=true:=Xb5 rfl (by omega)
    have ap:∀(O:List Pln) (p:Pln),app (bL tP O) [[i p.n.x,i p.n.y,i p.n.z,i p.b]]=bL tP (O++[p]):=λO p=>Ra1 tP O [p]
    show Nx (E7 Stp.next Stp.exit Stp.fail _ _) _ _;simp only[E7,Int.toNat_natCast,xb1,kb1,hn,hb,rr,ap];rw[btD (q7 hj)];cases hs:Q3 (gL tP F j) v==0 with
    |true=>exact hnext (o':=q::o++[gL tP F j]) (by rw[hT,hs];rfl) (by rw[Qjd];rfl)
    |false=>exact hnext (o':=q::o) (by rw[hT,hs,if_neg (by simp),Qjq]) rfl)
  (λj o hj hi=>by
   obtain⟨h1,hi⟩:=hi;have e:j=F.length:=by omega
   subst e;have hO:o=own F v:=by rw[hi,List.take_length];rfl
   rw[<- hO];cases o with
   |nil =>
    refine⟨1,?_,rfl,F.length,rfl⟩;show E6 Stp.next Stp.exit Stp.fail _ _=_;simp only[E6];rw[bfD (A6 (Qje _))]
   |cons q o =>
    refine⟨2,?_,rfl,F.length,rfl⟩;show E7 Stp.next Stp.exit Stp.fail _ _=_;simp only[E7];rw[bfD (A6 (Qje _))]) 0 [] ⟨Qjj _,by simp⟩
 obtain⟨t,s,h1,rfl,j,rfl⟩:=key;exact⟨j,h1⟩
theorem Pc1(v:V3)(F:List Pln)(hF:OkF F):Q1 ⟨v.x,v.y,v.z,F⟩=⟨1,!kv F v,F⟩:=by
 obtain⟨j,h⟩:=Bd1 F v hF.l;have hv:∀p∈own F v,okp p=true:=λp hp=>hF.v p (Qjaa.1 hp).1
 have hl:(own F v).length<=1000000:=Nat.le_trans (Qjan _ _) hF.l;unfold Q1 Y6 kv;simp only[o6,l9];rw[h];cases ho:own F v with
 |nil =>
  have e:la7 []=vtx []:=bd5 [] (λp hp=>by cases hp) (by simp)
  have e':la8 []=true:=bd6 [] (λp hp=>by cases hp) (by simp)
  rw[e,e'];rfl
 |cons q o =>
  rw[ho] at hv hl;simp only[Eb9,Sb0,bd5 _ hv hl,bd6 _ hv hl];rfl
theorem je1{α:Type}{l:List α}{n:Nat}{c:α->Bool}(h:(l.take n).any c=true):(l.take n).findIdx c<(l.take n).length:=by
 rw[Qjb] at h;obtain⟨p,hp,hc⟩:=h;exact Qjam ⟨p,hp,hc⟩
theorem ee0(l:List V3)(n:Nat)(X:List Pln)(hn:n<=l.length)(hl:l.length<=1000000000)(hX:OkF X):U4 ⟨n,bL tV l,X⟩=⟨1,if (l.take n).any (λp=>!kv X p) then (((l.take n).findIdx (λp=>!kv X p):Nat):Int) else -1,X⟩:=by
 have hlen:(l.take n).length=n:=by rw[Qjc];omega
 have h:=Na5 (step:=E8 ⟨n,(n:Int),bL tV l⟩) (mk:=λj=>(⟨(j:Int),X⟩:n7)) (c:=λp=>!kv X p) (u:=1) (fin:=2) tV (l.take n) (by omega)
  (λj hj=>by
   rw[hlen] at hj;have hj':j<l.length:=by omega
   simp only[E8,C6,Int.toNat_natCast,o6,l9,tc2 hj',Xb2 hj',Pc1 _ _ hX,tc5 tV l hj,D0 hj (show n<=4611686018427387904 by omega)]
   rw[btD (q7 hj),bt (i8 hj)]
   rfl)
  (by rw[hlen];simp only[E8,C6];rw[bfD (A6 (Qje _))]) 0 (Qjj _)
 rw[Qjo,hlen] at h;unfold U4 D5;simp only[o6,l9];rw[show (⟨0,X⟩:n7)=⟨((0:Nat):Int),X⟩ from rfl,h]
 cases ha:(l.take n).any λp=>!kv X p with
 |false=>rfl
 |true =>
  have hf:=je1 ha;rw[hlen] at hf;simp only[if_true,Qjf,Int.toNat_natCast,Xb2 (show (l.take n).findIdx (λp=>!kv X p)<l.length by omega),Pc1 _ _ hX,o6]
  rfl
structure ee1(l:List V3)(n:Nat)(f:V3->Bool)(cur:List V3)(m j:Nat):Prop where
 len:cur.length=l.length
 t:cur.take m=(l.take j).filter f
 d:cur.drop j=l.drop j
 le:m<=j
 lm:m<=n
theorem Pc2 (l : List V3) (n : Nat) (hnl : n ≤ l.length) (X : List Pln) (hl : l.length ≤ 1000000000) (hX : OkF X) (m j : Nat) (cur : List V3) (hd : ee1 l n (kv X) cur m j) (hjn : j ≤ n) :
  ∃t s,lp (z7 ⟨n⟩) ⟨(m:Int),(j:Int),bL tV cur,X⟩=(t,s)/\(t=1/\∃m' cur',s=⟨((m':Nat):Int),((n:Nat):Int),bL tV cur',X⟩/\ee1 l n (kv X) cur' m' n):=by
 refine X4 (step:=z7 ⟨n⟩) (mk:=λj (x:Nat×List V3)=>(⟨(x.1:Int),(j:Int),bL tV x.2,X⟩:o9)) n (λj x=>ee1 l n (kv X) x.2 x.1 j/\j<=n) (λt s=>t=1/\∃m' cur',s=⟨((m':Nat):Int),((n:Nat):Int),bL tV cur',X⟩/\ee1 l n (kv X) cur' m' n) (by omega) (λj x hj hx=>?_) (λj x hj hx=>?_) j (m,cur) ⟨hd,hjn⟩
 ·obtain⟨m,cur⟩:=x;obtain⟨⟨h1,h2,h3,h4,h5⟩,_⟩:=hx
  simp only at h1 h2 h3 h4 h5
  have hjc:j<cur.length:=by omega
  have hmc:m<cur.length:=by omega
  have hg:gL tV cur j=gL tV l j:=Wb7 tV h3;have hWm:W ((m:Int)+1)=((m+1:Nat):Int):=by rw[ca8 (by omega) (by omega)];omega
  have hb:Nat.blt m cur.length=true:=by rw[Nat.blt_eq];exact hmc
  have hrow:i9 (bL tV cur) m=tV.row (gL tV cur m):=N2 tV hmc;have sp:∀(v:V3) (x1 x2 x3:Int),O0 (tV.row v) 0 [i x1,i x2,i x3]=tV.row ⟨x1,x2,x3⟩:=λ_ _ _ _=>rfl
  have rl:∀v:V3,Nat.ble (0+3) (len (tV.row v))=true:=λ_=>rfl
  simp only[z7,C7,Int.toNat_natCast,o6,l9,tc2 hjc,Xb2 hjc,Pc1 _ _ hX,D0 hj (show n<=4611686018427387904 by omega),hWm]
  rw[btD (q7 hj),bt (i8 hj)];simp only[Qjf,hrow,wa3,hb,sp,Ha6,i8 (show m<n by omega),hg]
  have ht:=jb9 tV (show j<l.length by omega)
  have hd1:cur.drop (j+1)=l.drop (j+1):=Ob0 h3 1;cases hk:kv X (gL tV l j) with
  |true =>
   refine .nx ⟨(m+1,cur.set m (gL tV l j)),rfl,⟨by rw[Qjx];exact h1,?_,?_,by omega,by show m+1<=n;omega⟩,by omega⟩
   ·show (cur.set m (gL tV l j)).take (m+1)=_;rw[ht,Qjz,Qjaj (by rw[Qjx];exact hmc),Qjax,List.take_set_of_le (Qjm _),h2,Qjv,hk,if_pos rfl,List.filter_nil]
   ·show (cur.set m (gL tV l j)).drop (j+1)=_;rw[List.drop_set_of_lt (by omega),hd1]
  |false =>
   refine .nx ⟨(m,cur),rfl,⟨h1,?_,hd1,by omega,h5⟩,by omega⟩
   show cur.take m=_;rw[ht,Qjz,h2,Qjv,hk,if_neg (by simp),List.filter_nil,Qjq]
 ·obtain⟨m,cur⟩:=x;obtain⟨hx,hjn⟩:=hx;have e:j=n:=by omega
  subst e;refine⟨1,?_,rfl,m,cur,rfl,hx⟩;simp only[z7,C7];rw[bfD (by omega)]
theorem ld5 (l : List V3) (n : Nat) (hnl : n ≤ l.length) (X : List Pln) (hl : l.length ≤ 1000000000) (hX : OkF X) :
  ∃m r,U7 ⟨n,bL tV l,X⟩=⟨1,m,bL tV r,X⟩/\m<=r.length/\r.take m=(l.take n).filter (kv X):=by
 have hlen:(l.take n).length=n:=by rw[Qjc];omega
 unfold U7 D6;simp only[o6,l9,ee0 l n X hnl hl hX];cases ha:(l.take n).any λp=>!kv X p with
 |false =>
  refine⟨n,l,rfl,hnl,?_⟩
  symm
  rw[List.filter_eq_self];intro p hp
  have:=List.any_eq_false.1 ha p hp
  simpa using this
 |true =>
  have hf:=je1 ha;have hk:kv X (gL tV (l.take n) ((l.take n).findIdx λp=>!kv X p))=false:=by
   have:=Qjad (xs:=l.take n) (p:=λp=>!kv X p) (w:=hf)
   rw[mb3 tV hf];simpa using this
  have ht:=Nb9 (λp=>!kv X p) (l.take n)
  simp only[Bool.not_not] at ht;generalize hF:(l.take n).findIdx (λp=>!kv X p)=F at *
  rw[hlen] at hf;rw[tc5 tV l hf] at hk;rw[Qjay,Nat.min_eq_left (by omega)] at ht
  have hW:W ((F:Int)+1)=((F+1:Nat):Int):=D0 hf (by omega)
  have hne:((F:Int)==-1)=false:=by rw[beq_eq_false_iff_ne];omega
  obtain⟨t,s,e1,rfl,m,cur,e2,e3⟩:=Pc2 l n hnl X hl hX F (F+1) l ⟨rfl,by rw[jb9 tV (show F<l.length by omega),Qjz,ht,Qjv,hk,if_neg (by simp),List.filter_nil,Qjq],rfl,by omega,by omega⟩ (by omega)
  have hm:m<=n:=e3.lm;have hin:inB (m:Int) (n+1)=true:=i8 (by omega)
  simp only[if_true,hW,hne,e1,e2,Int.toNat_natCast,hin,Qjf,Nat.sub_zero];refine⟨m,cur.take m++(List.replicate (n-m) ⟨0,0,0⟩++cur.drop (m+(n-m))),?_,?_,?_⟩
  ·rw[ad7,ad8,tc3,Ra1,Ra1];rfl
  ·rw[Qjd,Qjd,Qjc,Qjaz,e3.len];omega
  ·rw[Qjab (by rw[Qjc,e3.len];omega),Qjay,Nat.min_self,e3.t]
noncomputable def ea8(F:List Pln)(l:List V3):List V3:=(dis l).filter (kv F)
theorem Pc3(a:V3)(l:List V3)(hl:l.length<=1000000):∃m r,ra7 (a,l)=⟨1,m,bL tV r⟩/\m<=r.length/\r.take m=dis (a::l)/\r.length<=1000000000:=by
 obtain⟨m,r,k1,k2,k3,k4⟩:=Pb3 a l hl;have hok:okL tV (l.length+1) (λk=>tV.row (gL tV (a::l) k))=true:=ab0 tV (f:=λk=>gL tV (a::l) k) λ_ _=>rfl
 have hr:=bd0 (a::l) (by simp only[List.length_cons];omega) []
 rw[Qjq] at hr;unfold ra7 Y7;simp only[od3,od4,Gc1 a l hl,hok,k1,u9,Qjac,hr];exact⟨m,r,rfl,k2,k3,by omega⟩
end Go.Ev.Ce
namespace Go.Ev.Ce
open Go Go.Ev Go.Ev.L Go.Proofs Go.Sort
theorem Bd2(l:List V3)(a c k:Nat)(s:List Pln)(p:Pln):p∈Bb6 l a c s k↔p∈s\/((A7 (gL tV l k) (gL tV l c) (gL tV l a)).2=true/\(p=(A7 (gL tV l k) (gL tV l c) (gL tV l a)).1\/p=Y8 (A7 (gL tV l k) (gL tV l c) (gL tV l a)).1)):=by
 unfold Bb6;generalize A7 (gL tV l k) (gL tV l c) (gL tV l a)=T;cases h2:T.2 with
 |false=>simp
 |true=>simp only[if_true,Od6,true_and,or_assoc]
theorem se1(l:List V3)(p:Pln):p∈G0 l↔∃a,a<l.length/\∃c,c<a/\∃k,k<c/\((A7 (gL tV l k) (gL tV l c) (gL tV l a)).2=true/\(p=(A7 (gL tV l k) (gL tV l c) (gL tV l a)).1\/p=Y8 (A7 (gL tV l k) (gL tV l c) (gL tV l a)).1)):=by
 have h:p∈G0 l↔p∈[]\/_:=Ua7 (λo a p=>Ua7 (λo c p=>Ua7 (λo k p=>Bd2 l a c k o p) o p c) o p a) [] p l.length
 rw[h];simp only[List.not_mem_nil,false_or]
theorem Pc4{f:List Pln->Nat->List Pln}(h:∀o k,o.Nodup->(f o k).Nodup){o:List Pln}(ho:o.Nodup):∀n,((List.range n).foldl f o).Nodup
 |0=>ho
 |n+1=>by rw[F8];exact h _ _ (Pc4 h ho n)
theorem Od8(l:List V3):(G0 l).Nodup:=Pc4 (λo a ho=>Pc4 (λo c ho=>Pc4 (λo k ho=>by
 show (Bb6 l a c o k).Nodup;unfold Bb6;split
 ·exact tc8 (tc8 ho)
 ·exact ho) ho c) ho a) List.nodup_nil l.length
theorem ee2{l:List V3}(hl:l.all inV=true)(p:Pln):p∈fil l (G0 l)↔Ca6 l p:=by
 have hin:=Qja.1 hl;have hb:(!bey l p)=hold p l:=rfl;unfold fil;rw[Qjaa,se1,hb];constructor
 ·rintro⟨⟨a,ha,c,hc,k,hk,h1,h2⟩,h3⟩;have ma:=gLm ha;have mc:=gLm (show c<l.length by omega)
  have mk:=gLm (show k<l.length by omega)
  have ht:=(da4 h1).2
  rcases h2 with rfl|rfl
  ·exact jc0 mk mc ma ht ((fb9 ht.ok hl).1 h3)
  ·exact Pb1 mk mc ma ht ((fb9 (Ob7 ht.ok) hl).1 h3)
 ·intro h;obtain⟨u,w,x,hu,hw,hx,h3,t1,t2,t3⟩:=h.on;obtain⟨a,ha,c,hc,k,hk,hn,hall⟩:=ce5 hu hw hx h3;obtain⟨i1,i2,i3⟩:=hall (λv=>inV v=true) (hin u hu) (hin w hw) (hin x hx)
  obtain⟨e1,e2,e3⟩:=hall (λv=>dot p.n v=p.b) t1 t2 t3
  have h2:=ua3 i3 i2 i1 (Nd4 hn).2.2.1;exact⟨⟨a,ha,c,hc,k,hk,h2,tb6 (da4 h2).2 h.ok e3 e2 e1⟩,(fb9 h.ok hl).2 h.hd⟩
theorem Gc8{l r:List V3}(h:∀v,v∈r↔v∈l){p:Pln}(hp:Ca6 l p):Ca6 r p:=by
 obtain⟨⟨hd,u,w,x,hu,hw,hx,e⟩,ok⟩:=hp;exact⟨⟨λv hv=>hd v ((h v).1 hv),u,w,x,(h u).2 hu,(h w).2 hw,(h x).2 hx,e⟩,ok⟩
theorem ld6{l:List Pln}(h:l.Nodup):Ia5 (zb8 l):=by
 have h1:=Oc0 l;have h2:(zb8 l).Nodup:=(sc4 l).nodup_iff.2 h;have h3:=h1.and h2;refine h3.imp λ{x y} ⟨k1,k2⟩=>?_
 rw[Da8] at k1;have k1:¬ LtP y x:=by simpa using k1
 rcases qd5 x y with h|h|h
 ·exact h
 ·exact absurd h k2
 ·exact absurd h k1
theorem ee3{l:List V3}(hl:l.all inV=true):(dis l).all inV=true:=Qja.2 λv hv=>Qja.1 hl v ((Ya9 l v).1 hv)
theorem bd7{l:List V3}(hl:l.all inV=true):zb8 (fil (dis l) (G0 (dis l)))=F0 l:=by
 refine wb9 (ld6 ((Od8 (dis l)).filter _)) (tb5 l) λp=>?_
 rw[(sc4 _).mem_iff,ee2 (ee3 hl),A2 hl];exact⟨Gc8 λv=>(Ya9 l v).symm,Gc8 (Ya9 l)⟩
theorem je2{l:List V3}(hl:l.all inV=true)(h4:Sol l):F0 l≠[]:=λe=>by
 have h:=xb0 h4 (rd2 hl (c:=[]) λp hp=>by rw[<- A2 hl,e] at hp;exact hp) (x:=⟨100,0,0,1⟩) ⟨by show (0:Int)<1;omega,λp hp=>by cases hp⟩ (h:=⟨⟨1,0,0⟩,24⟩) λv hv=>by
  obtain⟨⟨a1,a2⟩,_,_⟩:=(ra8 v).1 (Qja.1 hl v hv);simp only[dot];omega
 simp only[rmZ] at h;omega
theorem Ea8{l:List V3}(h48:l.length<=48)(hl:l.all inV=true)(h4:Sol l):aa5 l=0:=by
 have hin:=Qja.1 hl;unfold aa5;rw[if_neg (by omega),if_neg (by rw[<- List.not_all_eq_any_not,hl];simp)]
 have h1:(ixs l.length).any (sp1 l)=true:=by
  obtain⟨a,c,k,v,ha,hc,hk,hv,hd⟩:=h4;obtain⟨i',hi,j',hj,k',hk',hn,hall⟩:=ce5 ha hc hk (tc0 hd);obtain⟨i1,i2,i3⟩:=hall (λv=>inV v=true) (hin _ ha) (hin _ hc) (hin _ hk)
  have ht:=ua3 i3 i2 i1 (Nd4 hn).2.2.1;have mem:∀{n m:Nat},m<n->((m:Nat):Int)∈ixs n:=λ{n m} h=>Qjp.2 ⟨m,Qji.2 h,rfl⟩
  refine Qjb.2 ⟨_,mem hi,?_⟩;unfold sp1;rw[Int.toNat_natCast];refine Qjb.2 ⟨_,mem hj,?_⟩;unfold sp2;rw[Int.toNat_natCast];refine Qjb.2 ⟨gL tV l k',?_,ht⟩;rw[<- tc5 tV l hk'];exact Ta7 tV (by rw[Qjc];omega)
 have h2:Bb5 l=false:=by
  unfold Bb5;rw[if_pos h1];obtain⟨hi,k1⟩:=xb2 h1;have k1:(ixs (iF l)).any (sp2 l (iF l))=true:=k1;obtain⟨hj,k2⟩:=xb2 k1;have k2:(l.take (jF l)).any (λv=>(A7 v (gL tV l (jF l)) (gL tV l (iF l))).2)=true:=k2
  have hj:jF l<iF l:=hj;have hi:iF l<l.length:=hi;have hk:=Oc6 k2;have hk2:=Qjad (xs:=l.take (jF l)) (p:=λv=>(A7 v (gL tV l (jF l)) (gL tV l (iF l))).2) (w:=hk)
  rw[<- mb3 tV hk,tc5 tV l (by rw[Qjc] at hk;omega)] at hk2
  have hok:okp (plF l)=true:=(da4 hk2).2.ok;obtain⟨v,hv,hne⟩:=h4.off (Ya8 hok) (plF l).b;rw[Bool.not_eq_false',Qjb];refine⟨v,hv,?_⟩
  have:Q3 (plF l) v≠0:=λe=>hne ((fb8 hok (hin v hv)).1 e)
  simpa using this
 rw[h2];rfl
theorem ee4(l r:List Pln)(n:Nat)(hn:n=l.length):(two (r1L tP) r1I).rd (.tup [.sl 0 0 n 0,i 0],[⟨60,4,bL tP (l++r),true,false,0⟩])=some (l,0):=by
 subst hn;have h:(r1L tP).rd [⟨60,4,bL tP (l++r),true,false,0⟩] (.sl 0 0 l.length 0)=some l:=by
  show Bool.rec (motive:=λ_=>Option (List Pln)) none (some (slR tP (bL tP (l++r)) 0 l.length)) (Bool.and true (okS tP (bL tP (l++r)) 0 l.length))=_
  rw[Ld4 _ _ (by rw[Qjd];omega),Ld5 _ _ (by rw[Qjd];omega),List.take_left']
  ·rfl
  ·rfl
 simp only[two,h];rfl
theorem Bd3(a:V3)(l:List V3)(h48:(a::l).length<=48)(hl:(a::l).all inV=true)(h4:Sol (a::l)):Rd (two (r1L tP) r1I) (ia4 (a,l)) (λr=>r=(F0 (a::l),0)):=by
 have hc:=Ea8 h48 hl h4;have hdl:=jc1 (a::l);have hll:l.length<=1000000:=by simp only[List.length_cons] at h48;omega
 obtain⟨j,e⟩:=se0 (dis (a::l)) (by omega)
 have hf:=bd7 hl;have hne:fil (dis (a::l)) (G0 (dis (a::l)))≠[]:=λe=>by
  rw[e] at hf;have h0:zb8 []=[]:=Ad0;rw[h0] at hf;exact je2 hl h4 hf.symm
 have hok:okL tV (l.length+1) (λk=>tV.row (gL tV (a::l) k))=true:=ab0 tV (f:=λk=>gL tV (a::l) k) λ_ _=>rfl
 have hlen:(fil (dis (a::l)) (G0 (dis (a::l)))).length<=1000000:=by
  have h1:=Oc8 (dis (a::l)) (G0 (dis (a::l)));have h2:(G0 (dis (a::l))).length<=_:=Oc9 (dis (a::l)) (by omega) _ (Qjm _)
  omega
 unfold ia4;simp only[o6,ma3,l9,od3,od4,hok,tc7 (a::l) (by omega),tc6 (a::l) (by omega),hc,kd9 a l hll,ld0 a l hll,e]
 generalize fil (dis (a::l)) (G0 (dis (a::l)))=O at *
 cases O with
 |nil=>exact absurd rfl hne
 |cons q o =>
  have hr:(Bool.and (Nat.ble (q::o).length room) (Bool.and (Nat.ble (q::o).length (len (bL tP (q::o)))) (okS tP (bL tP (q::o)) 0 (q::o).length)))=true:=by
   rw[Sb0,wa3,Qju,Qju,Qjao,Qjao];refine⟨by unfold room;omega,Qjm _,rfl⟩
  simp only[phP,hr,Eb9,be5,Ra1,hf];exact⟨_,(F0 (a::l),0),rfl,ee4 _ _ _ (by rw[<- hf,wb6]),rfl⟩
theorem Od9{l:List V3}(hl:l.all inV=true){v:V3}(hv:v∈l):kv (F0 l) v=true↔Spn (F0 l) v:=by
 have hin:=Qja.1 hl;have hs:∀p∈F0 l,(Q3 p v==0)=true↔dot p.n v=p.b:=λp hp=>by rw[beq_iff_eq];exact fb8 (Nd3 hp).ok (hin v hv)
 unfold kv own;rw[de9];constructor
 ·rintro⟨p,q,s,hp,hq,hs',hw⟩;rw[Qjaa] at hp hq hs';exact⟨p,q,s,hp.1,hq.1,hs'.1,hw,(hs p hp.1).1 hp.2,(hs q hq.1).1 hq.2,(hs s hs'.1).1 hs'.2⟩
 ·rintro⟨p,q,s,hp,hq,hs',hw,e1,e2,e3⟩;exact⟨p,q,s,Qjaa.2 ⟨hp,(hs p hp).2 e1⟩,Qjaa.2 ⟨hq,(hs q hq).2 e2⟩,Qjaa.2 ⟨hs',(hs s hs').2 e3⟩,hw⟩
end Go.Ev.Ce
namespace Go.Ev.Ce
open Go Go.Ev Go.Ev.L Go.Proofs
structure B8(v:V3):Prop where
 x:Sm 8 v.x
 y:Sm 8 v.y
 z:Sm 8 v.z
structure Mp(l:List V3):Prop where
 l4:4<=l.length
 l8:l.length<=8
 bd:∀v∈l,Sm 11 v.x/\Sm 11 v.y/\Sm 11 v.z
 nf:nf0 l=true
theorem Mp.inV{l:List V3}(h:Mp l):l.all inV=true:=Qja.2 λv hv=>by
 obtain⟨h1,h2,h3⟩:=h.bd v hv;exact (ra8 v).2 ⟨h1.mono (by omega),h2.mono (by omega),h3.mono (by omega)⟩
theorem ze6{l:List V3}(hl:l.all Ce.inV=true)(h4:Sol l):nf0 l=true:=by
 have hin:=Qja.1 hl;obtain⟨a,c,k,v,ha,hc,hk,hv,hd⟩:=h4;obtain⟨i',hi,j',hj,k',hk',hn,hall⟩:=ce5 ha hc hk (tc0 hd);obtain⟨i1,i2,i3⟩:=hall (λv=>Ce.inV v=true) (hin _ ha) (hin _ hc) (hin _ hk)
 have ht:=ua3 i1 i2 i3 hn;refine Qjb.2 ⟨i',Qji.2 hi,Qjb.2 ⟨j',Qji.2 hj,Qjb.2 ⟨k',Qji.2 hk',?_⟩⟩⟩;unfold nf Ad4;rw[ht,Bool.true_and,Qjb];have hok:=(da4 ht).2.ok;obtain⟨w,hw,hne⟩:=Sol.off ⟨a,c,k,v,ha,hc,hk,hv,hd⟩ (Ya8 hok) (A7 (gL tV l i') (gL tV l j') (gL tV l k')).1.b;refine⟨w,hw,?_⟩
 have:Q3 (A7 (gL tV l i') (gL tV l j') (gL tV l k')).1 w≠0:=λe=>hne ((fb8 hok (hin w hw)).1 e)
 simpa using this
theorem Pd0{l:List V3}(h4:4<=l.length)(h8:l.length<=8)(hb:∀v∈l,B8 v)(hf:nf0 l=true):Mp l:=⟨h4,h8,λv hv=>⟨(hb v hv).x.mono (by omega),(hb v hv).y.mono (by omega),(hb v hv).z.mono (by omega)⟩,hf⟩
theorem se2{l:List V3}(h4:4<=l.length)(h8:l.length<=8)(hb:∀v∈l,B8 v):Mp (((l.set 1 ⟨W ((gL tV l 0).x-3),(gL tV l 0).y,(gL tV l 0).z⟩).set 2 ⟨(gL tV l 0).x,W ((gL tV l 0).y-2),(gL tV l 0).z⟩).set 3 ⟨(gL tV l 0).x,(gL tV l 0).y,W ((gL tV l 0).z-1)⟩):=by
 match l,h4,h8,hb with
 |a::b::c::d::l,h4,h8,hb =>
  have ha:=hb a Qjl;have g0:gL tV (a::b::c::d::l) 0=a:=rfl;rw[g0];obtain⟨x1,x2⟩:=ha.x;obtain⟨y1,y2⟩:=ha.y;obtain⟨z1,z2⟩:=ha.z;rw[ca8 (n:=a.x-3) (by omega) (by omega),ca8 (n:=a.y-2) (by omega) (by omega),ca8 (n:=a.z-1) (by omega) (by omega)]
  show Mp (a::⟨a.x-3,a.y,a.z⟩::⟨a.x,a.y-2,a.z⟩::⟨a.x,a.y,a.z-1⟩::l);have bd:∀v∈(a::⟨a.x-3,a.y,a.z⟩::⟨a.x,a.y-2,a.z⟩::⟨a.x,a.y,a.z-1⟩::l:List V3),Sm 11 v.x/\Sm 11 v.y/\Sm 11 v.z:=λv hv=>by
   simp only[Qjk] at hv;unfold Sm
   rcases hv with rfl|rfl|rfl|rfl|hv
   ·omega
   ·simp only;omega
   ·simp only;omega
   ·simp only;omega
   ·have:=hb v (by simp[hv])
    obtain⟨⟨k1,k2⟩,⟨k3,k4⟩,k5,k6⟩:=this;omega
  refine⟨by simp only[List.length_cons];omega,by simp only[List.length_cons] at h8 ⊢;omega,bd,ze6 (Qja.2 λv hv=>?_) ?_⟩
  ·obtain⟨h1,h2,h3⟩:=bd v hv;exact (ra8 v).2 ⟨h1.mono (by omega),h2.mono (by omega),h3.mono (by omega)⟩
  ·refine⟨a,⟨a.x-3,a.y,a.z⟩,⟨a.x,a.y-2,a.z⟩,⟨a.x,a.y,a.z-1⟩,by simp,by simp,by simp,by simp,?_⟩
   have e:dot (N3 a ⟨a.x-3,a.y,a.z⟩ ⟨a.x,a.y-2,a.z⟩) (d9 ⟨a.x,a.y,a.z-1⟩ a)=-6:=by simp only[dot,N3,c8,d9];grind
   rw[e];decide
theorem Pd1 (x : List Int) (N : Nat) (h4 : 4 ≤ N) (h8 : N ≤ 8) (j0 : Int) (hj0 : 0 ≤ j0 ∧ j0 ≤ 10) :
  ∃idx out,lp (ba8 ⟨(N:Int)⟩) ⟨0,0,x,j0,0,[]⟩=(2,⟨1,(N:Int),x,idx,N,bL tV out⟩)/\out.length=N/\∀v∈out,B8 v:=by
 have key:=X4 (step:=ba8 ⟨(N:Int)⟩) (mk:=λj (a:Int×List V3)=>(⟨phV a.2,(j:Int),x,a.1,a.2.length,bL tV a.2⟩:o2)) N
  (λj a=>a.2.length=j/\0<=a.1/\a.1<=10+4*j/\j<=N/\∀v∈a.2,B8 v) (λt s=>t=2/\∃idx out,s=⟨1,(N:Int),x,idx,N,bL tV out⟩/\out.length=N/\∀v∈out,B8 v) (by omega) (λj a hj ha=>?_) (λj a hj ha=>?_) 0 (j0,[]) ⟨rfl,hj0.1,by omega,by omega,λv hv=>by cases hv⟩
 ·obtain⟨t,s,e1,rfl,idx,out,e2,e3⟩:=key;exact⟨idx,out,by rw[<- e2];exact e1,e3.1,e3.2⟩
 ·obtain⟨at0,out⟩:=a;obtain⟨ho,ha1,ha2,_,hB⟩:=ha
  simp only at ho ha1 ha2 hB
  have hn:=D0 hj (show N<=4611686018427387904 by omega)
  obtain⟨v1,j1,d1,p1,q1,c1,b1⟩:=Ga7 17 x at0 ha1 (by omega) (by omega) (by omega)
  obtain⟨v2,j2,d2,p2,q2,c2,b2⟩:=Ga7 17 x j1 (by omega) (by omega) (by omega) (by omega)
  obtain⟨v3,j3,d3,p3,q3,c3,b3⟩:=Ga7 17 x j2 (by omega) (by omega) (by omega) (by omega)
  obtain⟨v4,j4,d4,_,_,c4,b4⟩:=Ga7 6 x j3 (by omega) (by omega) (by omega) (by omega)
  have s1:Sm 8 (W (v1-8)):=by unfold Sm;rw[ca8 (by omega) (by omega)];omega
  have s2:Sm 8 (W (v2-8)):=by unfold Sm;rw[ca8 (by omega) (by omega)];omega
  have s3:Sm 8 (W (v3-8)):=by unfold Sm;rw[ca8 (by omega) (by omega)];omega
  have leaf : ∀ (E : Nat → Prop) (x1 x2 x3 : Int), Sm 8 x1 → Sm 8 x2 → Sm 8 x3 → Nx (.next (⟨1, ((j + 1 : Nat) : Int), x, j4, j + 1, bL tV (out ++ [⟨x1, x2, x3⟩])⟩ : o2)) E
    (λs=>∃a':Int×List V3,s=⟨phV a'.2,((j+1:Nat):Int),x,a'.1,a'.2.length,bL tV a'.2⟩/\a'.2.length=j+1/\0<=a'.1/\a'.1<=10+4*((j+1:Nat):Int)/\j+1<=N/\∀v∈a'.2,B8 v):=λE x1 x2 x3 k1 k2 k3=>by
   have hl:(out++[(⟨x1,x2,x3⟩:V3)]).length=j+1:=by simp[ho]
   exact .nx ⟨(j4,out++[⟨x1,x2,x3⟩]),by simp only[Nc8,hl],hl,by show 0<=j4;omega,by show j4<=_;omega,by omega,λv hv=>by
    rcases Qjae.1 hv with h|h
    ·exact hB v h
    ·rw[Qjas.1 h];exact⟨k1,k2,k3⟩⟩
  cases out with
  |nil =>
   have hj0':j=0:=by simpa using ho.symm
   subst hj0';show Nx (P2 Stp.next Stp.exit Stp.fail _ _) _ _;simp only[P2,o6,l9,d1,d2,d3,d4,hn];rw[btD (q7 hj)];have f1:decide (((0:Nat):Int)>1)=false:=rfl;have f2:decide (((0:Nat):Int)>0)=false:=rfl;have f3:decide (((0:Nat):Int)>2)=false:=rfl;have lf:∀(E:Nat->Prop) (x1 x2 x3:Int),Sm 8 x1->Sm 8 x2->Sm 8 x3->Nx (.next (⟨1,((0+1:Nat):Int),x,j4,1,[[i x1,i x2,i x3]]⟩:o2)) E _:=leaf;simp only[f1,f2,f3,Ra0,Qjac,Qjw,u9];refine Nx.sl (λ_=>?_) (λ_=>?_)<;>refine Nx.sl (λ_=>?_) (λ_=>?_)
   all_goals first
    |exact lf _ _ _ _ (by assumption) (by assumption) (by assumption)
    |(refine Nx.sl (λ_=>?_) (λ_=>?_)<;>exact lf _ _ _ _ (by assumption) (by assumption) (by assumption))
  |cons o os =>
   have h1:1<=j:=by simp only[List.length_cons] at ho;omega
   generalize hO:o::os=O at *
   have hph:phV O=1:=by subst hO;rfl
   have w1:W ((j:Int)-1)=((j-1:Nat):Int):=by rw[ca8 (by omega) (by omega)];omega
   have i1:inB ((j-1:Nat):Int) j=true:=i8 (by omega)
   have r1:=be3 (l:=O) (m:=j-1) (by omega)
   have r1':=ie8 (l:=O) (m:=j-1) (by omega)
   have rr:=Ld2 ho (by omega)
   have gx:∀m,m<O.length->Sm 8 (toI (hdA (i7 (i9 (bL tV O) (0+m)) 0)))/\Sm 8 (toI (hdA (tlA (i7 (i9 (bL tV O) (0+m)) 0))))/\Sm 8 (toI (hdA (tlA (tlA (i7 (i9 (bL tV O) (0+m)) 0)))))/\Sm 8 (toI (hdA (i7 (i9 (bL tV O) (0+m)) 2))):=λm hm=>by
    rw[Qjf,N2 tV hm]
    have:=hB _ (Ta7 tV hm)
    exact⟨this.x,this.y,this.z,this.z⟩
   have md:∀{A C:Int},Sm 8 A->Sm 8 C->Sm 8 (W (Int.tdiv (W (A+C)) 2)):=λ{A C} ⟨h1,h2⟩ ⟨h3,h4⟩=>by
    unfold Sm;rw[ca8 (n:=A+C) (by omega) (by omega)]
    obtain⟨m1,m2,m3⟩:=Zc2 (x:=A+C) (y:=2) (by omega)
    rw[ca8 (by omega) (by omega)]
    omega
   obtain⟨gx1,gy1,gz1,gw1⟩:=gx (j-1) (by omega)
   have f2:∀{inst:Decidable ((j:Int)>0)},@decide ((j:Int)>0) inst=true:=decide_eq_true (by omega)
   show Nx (sel (Nat.beq (phV O) 1) (n9 Stp.next Stp.exit Stp.fail _ _) _) _ _;rw[hph];show Nx (n9 Stp.next Stp.exit Stp.fail _ _) _ _;by_cases h2:2<=j
   ·have w2:W ((j:Int)-2)=((j-2:Nat):Int):=by rw[ca8 (by omega) (by omega)];omega
    have i2:inB ((j-2:Nat):Int) j=true:=i8 (by omega)
    have r2:=be3 (l:=O) (m:=j-2) (by omega)
    obtain⟨gx2,gy2,gz2,gw2⟩:=gx (j-2) (by omega)
    have mx:=md gx1 gx2;have my:=md gy1 gy2;have mz:=md gz1 gz2;simp only[n9,o6,l9,d1,d2,d3,d4,hn,ho,w1,w2,i1,i2,Int.toNat_natCast,r1,r1',r2,rr,tb0];rw[btD (q7 hj)];simp only[Qjac,Qjw,u9]
    repeat' (first | exact leaf _ _ _ _ (by assumption) (by assumption) (by assumption) | refine Nx.sl (λ_=>?_) (λ_=>?_))
   ·have hj1:j=1:=by omega
    subst hj1;simp only[n9,o6,l9,d1,d2,d3,d4,hn,ho,w1,i1,Int.toNat_natCast,r1,r1',rr,tb0];have f1:decide (((1:Nat):Int)>1)=false:=rfl;rw[btD (q7 hj)];simp only[f1,Ra0,Qjac,Qjw,u9]
    repeat' (first | exact leaf _ _ _ _ (by assumption) (by assumption) (by assumption) | refine Nx.sl (λ_=>?_) (λ_=>?_))
 ·obtain⟨at0,out⟩:=a;obtain⟨ho,ha1,ha2,hjN,hB⟩:=ha
  simp only at ho ha1 ha2 hB
  have hj':j=N:=by omega
  subst hj';cases out with
  |nil=>simp only[List.length_nil] at ho;omega
  |cons o os =>
   refine⟨2,?_,rfl,at0,o::os,by rw[ho];rfl,ho,hB⟩
   show n9 Stp.next Stp.exit Stp.fail _ _=_;simp only[n9];rw[bfD (by omega)]
theorem Bd4(x:List Int):Rd (one (r1L tV)) (ia0 x) Mp:=by
 obtain⟨v,j,e1,a1,b1,c1,d1⟩:=Ga7 5 x 0 (by omega) (by omega) (by omega) (by omega)
 have hN:W (4+v)=(((4+v).toNat:Nat):Int):=by rw[ca8 (by omega) (by omega)];omega
 obtain⟨idx,out,e2,e3,hB⟩:=Pd1 x (4+v).toNat (by omega) (by omega) j (by omega)
 unfold ia0;simp only[o6,l9,e1,hN,e2];have h4:4<=(4+v).toNat:=by omega
 have h8:(4+v).toNat<=8:=by omega
 generalize (4+v).toNat=N at *
 have s1:lsL tV N (λk=>i9 (bL tV out) (0+k))=out:=by rw[<- e3];exact Eb9 tV out
 have s2:okL tV N (λk=>i9 (bL tV out) (0+k))=true:=by rw[<- e3];exact Sb0 tV out
 have gf:Ea1 out=true:=Ld1 out (by omega)
 rw[s1,s2,gf,qe7 out (by omega)]
 simp only[Qjac,Qjw,u9,show Nat.beq 2 1=false from rfl,Ra0]
 refine Rd.sl (λ_=>?_) λhnf=>Nc9 e3.symm rfl (Pd0 (by omega) (by omega) hB (by simpa using hnf))
 have i0:inB 0 N=true:=i8 (j:=0) (by omega)
 have i1:inB 1 N=true:=i8 (j:=1) (by omega)
 have i2:inB 2 N=true:=i8 (j:=2) (by omega)
 have i3:inB 3 N=true:=i8 (j:=3) (by omega)
 have sp:∀(v:V3) (x1 x2 x3:Int),O0 (tV.row v) 0 [i x1,i x2,i x3]=tV.row ⟨x1,x2,x3⟩:=λ_ _ _ _=>rfl
 have rl:∀v:V3,Nat.ble (0+3) (len (tV.row v))=true:=λ_=>rfl
 have ck:∀v:V3,ma9 [CK.int .i64,CK.int .i64,CK.int .i64] (i7 (tV.row v) 0)=true:=λ_=>rfl
 have gr:∀(l:List V3) (k:Nat),l.length=N->k<4->i9 (bL tV l) k=tV.row (gL tV l k):=λl k hl hk=>N2 tV (by omega)
 have bl:∀(l:List V3) (k:Nat),l.length=N->k<4->Nat.blt k (len (bL tV l))=true:=λl k hl hk=>by rw[wa3,Nat.blt_eq];omega
 have ls:∀(l:List V3) (k:Nat) (v:V3),l.length=N->(l.set k v).length=N:=λl k v hl=>by rw[Qjx];exact hl
 rw[gr out 0 e3 (by omega),gr out 1 e3 (by omega)]
 simp only[sp,Ha6];rw[gr _ 2 (ls out 1 _ e3) (by omega)]
 simp only[sp,Ha6];rw[gr _ 3 (ls _ 2 _ (ls out 1 _ e3)) (by omega)]
 simp only[sp,Ha6,rl,ck,i0,i1,i2,i3,bl out 0 e3 (by omega),bl out 1 e3 (by omega),bl _ 2 (ls out 1 _ e3) (by omega),bl _ 3 (ls _ 2 _ (ls out 1 _ e3)) (by omega),Qjw,u9]
 exact Nc9 (by simp only[Qjx];omega) rfl (se2 (by omega) (by omega) hB)
theorem bd8(x:List Int):Mp (o7 x):=(Bd4 x).p
theorem Y9{l:List V3}(h:aa5 l=0):l.length<=48/\l.all inV=true/\Sol l:=by
 unfold aa5 at h
 split at h
 ·cases h
 rename_i h48
 split at h
 ·cases h
 rename_i hin
 split at h
 ·cases h
 rename_i hf;have hl:l.all inV=true:=by
  rw[Qja];intro v hv;cases hi:inV v with
  |true=>rfl
  |false=>exact absurd (Qjb.2 ⟨v,hv,by rw[hi];rfl⟩) hin
 have hin2:=Qja.1 hl;refine⟨by omega,hl,?_⟩
 have hf:Bb5 l=false:=Bool.eq_false_iff.2 hf;unfold Bb5 at hf
 split at hf
 ·rename_i h1;obtain⟨hi,k1⟩:=xb2 h1;have k1:(ixs (iF l)).any (sp2 l (iF l))=true:=k1;obtain⟨hj,k2⟩:=xb2 k1;have k2:(l.take (jF l)).any (λv=>(A7 v (gL tV l (jF l)) (gL tV l (iF l))).2)=true:=k2
  have hj:jF l<iF l:=hj;have hi:iF l<l.length:=hi;have hk:=Oc6 k2;have hk2:=Qjad (xs:=l.take (jF l)) (p:=λv=>(A7 v (gL tV l (jF l)) (gL tV l (iF l))).2) (w:=hk)
  rw[Qjc] at hk;rw[<- mb3 tV (by rw[Qjc];exact hk),tc5 tV l (by omega)] at hk2
  have ht:=(da4 hk2).2;rw[Bool.not_eq_false',Qjb] at hf;obtain⟨v,hv,hne⟩:=hf;have hne:Q3 (plF l) v≠0:=bne_iff_ne.1 hne;have ht:Thr (gL tV l (kF l)) (gL tV l (jF l)) (gL tV l (iF l)) (plF l):=ht;have hkl:kF l<l.length:=by
   have:kF l<min (jF l) l.length:=hk
   omega
  have hoff:dot (plF l).n v≠(plF l).b:=λe=>hne ((fb8 ht.ok (hin2 v hv)).2 e)
  refine⟨_,_,_,v,gLm hkl,gLm (show jF l<l.length by omega),gLm hi,hv,λh0=>hoff ?_⟩
  obtain⟨ok,⟨g,hg,e1,e2,e3⟩,o⟩:=ht;have e:g*(dot (plF l).n v-(plF l).b)=dot (N3 (gL tV l (kF l)) (gL tV l (jF l)) (gL tV l (iF l))) (d9 v (gL tV l (kF l))):=by
   have e1:g*(plF l).n.x=(N3 (gL tV l (kF l)) (gL tV l (jF l)) (gL tV l (iF l))).x:=e1;have e2:g*(plF l).n.y=(N3 (gL tV l (kF l)) (gL tV l (jF l)) (gL tV l (iF l))).y:=e2;have e3:g*(plF l).n.z=(N3 (gL tV l (kF l)) (gL tV l (jF l)) (gL tV l (iF l))).z:=e3;rw[o];simp only[dot];rw[<- e1,<- e2,<- e3];simp only[d9]
   grind
  rw[h0] at e
  have:=(Qjg.1 e).resolve_left (by omega)
  omega
 ·cases hf
noncomputable def ba4(l:List V3):List Pln×Int:=if aa5 l=0 then (F0 l,0) else ([],aa5 l)
noncomputable def Pb4(l:List V3):List V3×Int:=if aa5 l=0 then (ea8 (F0 l) l,0) else ([],aa5 l)
theorem Pb5{l:List V3}(h48:l.length<=48)(hl:l.all inV=true):(F0 l).length<=1000000:=by
 have h1:=Oc8 (dis l) (G0 (dis l));have hd:=jc1 l;have h2:(G0 (dis l)).length<=_:=Oc9 (dis l) (by omega) _ (Qjm _)
 rw[<- bd7 hl,wb6];omega
theorem kb3(a:V3)(l:List V3)(hl:l.length<=900000):Rd (two (r1L tP) r1I) (ia4 (a,l)) (λr=>r=ba4 (a::l)):=by
 by_cases h:aa5 (a::l)=0
 ·obtain⟨h1,h2,h3⟩:=Y9 h;unfold ba4;rw[if_pos h];exact Bd3 a l h1 h2 h3
 ·have hll:(a::l).length<=1000000:=by simp only[List.length_cons];omega
  have hne:(aa5 (a::l) != 0)=true:=bne_iff_ne.2 h;unfold ba4 ia4;rw[if_neg h];simp only[o6,ma3,l9,tc7 (a::l) hll,tc6 (a::l) hll,hne,u9];exact⟨_,([],aa5 (a::l)),rfl,rfl,rfl⟩
theorem Pb6:aa5 []=11:=by
 unfold aa5 Bb5;rfl
noncomputable def la9(l:List V3):List Pln×Int:=ba4 l
noncomputable def ua4(l:List V3):Bool:=decide (1<=l.length/\l.length<=900000)
noncomputable def Bb7:Sum:=L0 (ya3 tV) λl=>.guard (ua4 l) (.ret ((two (r1L tP) r1I).enc (la9 l),[]))
noncomputable def Bb8:Sum:=λargs blks=>match args,blks with
 |[.v (.slice none 0 0)],[]=>bb7 args blks
 |_,_=>Bb7 args blks
theorem se3{f:Nat}{A B:Sum}(hA:i6 prog G f A)(hB:i6 prog G f B):i6 prog G f (λargs blks=>match args,blks with
 |[.v (.slice none 0 0)],[]=>A args blks
 |_,_=>B args blks):=by
 intro args blks r out he
 simp only at he
 split at he
 ·exact hA _ _ r out he
 ·exact hB _ _ r out he
theorem tb7:i6 prog G 22 Bb7:=by
 refine Kd2 (wb7 Ab7 λa r hr=>?_) (wb7 Ua5 λa r hr=>?_) (wb7 sb5 λa r hr=>?_)
 ·obtain⟨p,c⟩:=a;obtain⟨hg,hr⟩:=DT.run_guard_some hr;have hl:c.length<=900000:=by
   have:=(of_decide_eq_true hg).2
   simp only[List.length_cons] at this;omega
  have hp:Na6 (p,c)=ba4 (p::c):=(kb3 p c hl).p;have hq:Na7 (p,c)=true:=(kb3 p c hl).g;rw[hp,hq];exact hr
 ·obtain⟨hg,hr⟩:=DT.run_guard_some hr;exact absurd (of_decide_eq_true hg).1 (by simp)
 ·obtain⟨hg,hr⟩:=DT.run_guard_some hr;exact absurd (of_decide_eq_true hg).1 (by simp)
theorem uc0:i6 prog G 22 Bb8:=se3 Ua5 tb7
theorem Pb7(a:V3)(l:List V3)(hl:l.length<=900000):Rd (two (r1L tV) r1I) (pa3 (a,l)) (λr=>r=Pb4 (a::l)):=by
 have hok:okL tV (l.length+1) (λk=>tV.row (gL tV (a::l) k))=true:=ab0 tV (f:=λk=>gL tV (a::l) k) λ_ _=>rfl
 have hp:Na6 (a,l)=ba4 (a::l):=(kb3 a l hl).p;have hq:Na7 (a,l)=true:=(kb3 a l hl).g;unfold Pb4;unfold pa3;simp only[o6,ma3,l9,od3,od4,hok,hp,hq,u9];unfold ba4;by_cases h:aa5 (a::l)=0
 ·obtain⟨h1,h2,h3⟩:=Y9 h;have hF:OkF (F0 (a::l)):=⟨Pb5 h1 h2,λp hp=>(Nd3 hp).ok⟩
  obtain⟨m,r,e1,e2,e3,e4⟩:=Pc3 a l (by omega)
  obtain⟨m',r',k1,k2,k3⟩:=ld5 r m e2 (F0 (a::l)) e4 hF;rw[if_pos h,if_pos h];simp only[e1,k1];refine⟨_,(r'.take m',0),rfl,?_,by rw[k3,e3];rfl⟩
  have h:(r1L tV).rd [⟨25,3,bL tV r',true,false,0⟩] (.sl 0 0 m' 0)=some (r'.take m'):=by
   show Bool.rec (motive:=λ_=>Option (List V3)) none (some (slR tV (bL tV r') 0 m')) (Bool.and true (okS tV (bL tV r') 0 m'))=_
   rw[Gc0 _ _ k2,Xb4 _ _ k2];rfl
  simp only[two,h];rfl
 ·have hne:(aa5 (a::l) != 0)=true:=bne_iff_ne.2 h;rw[if_neg h,if_neg h];simp only[hne,u9];exact⟨_,([],aa5 (a::l)),rfl,rfl,rfl⟩
noncomputable def fc7(l:List V3):List V3×Int:=Pb4 l
noncomputable def mb7(l:List V3):Bool:=decide (1<=l.length/\l.length<=900000)
noncomputable def fc8:Sum:=L0 (ya3 tV) λl=>.guard (mb7 l) (.ret ((two (r1L tV) r1I).enc (fc7 l),[]))
theorem Xb6:i6 prog G 32 fc8:=by
 refine Kd2 (wb7 ec6 λa r hr=>?_) (wb7 Vb9 λa r hr=>?_) (wb7 Wb1 λa r hr=>?_)
 ·obtain⟨p,c⟩:=a;obtain⟨hg,hr⟩:=DT.run_guard_some hr;have hl:c.length<=900000:=by
   have:=(of_decide_eq_true hg).2
   simp only[List.length_cons] at this;omega
  have hp:sb3 (p,c)=Pb4 (p::c):=(Pb7 p c hl).p;have hq:sb4 (p,c)=true:=(Pb7 p c hl).g;rw[hp,hq];exact hr
 ·obtain⟨hg,hr⟩:=DT.run_guard_some hr;exact absurd (of_decide_eq_true hg).1 (by simp)
 ·obtain⟨hg,hr⟩:=DT.run_guard_some hr;exact absurd (of_decide_eq_true hg).1 (by simp)
set_option maxRecDepth 100000
structure Oa0 where
 (da7 da8 da9 dd1 e8 e7 g8:Int)
noncomputable def Ac0:List (Nat×Sum):=[(30,ra1)]
theorem uc1:j9 prog G Ac0:=⟨ta3,trivial⟩
structure Oa1 where
 alt:Nat
 bs0:Bool
noncomputable def ra9{α:Type}(kk:Oa1->α)(x:Oa0):α:=let t1:=(J2 (⟨(⟨x.da7,x.da8,x.da9⟩:V3),x.dd1⟩:Pln) (⟨x.e8,x.e7,x.g8⟩:V3));(sl (R3 (⟨(⟨x.da7,x.da8,x.da9⟩:V3),x.dd1⟩:Pln) (⟨x.e8,x.e7,x.g8⟩:V3)) (kk ⟨1,decide (t1>0)⟩) (kk ⟨0,false⟩))
noncomputable def Oa2(x:Oa0):Oa1:=ra9 (λr=>r) x
noncomputable def cb1(x:Oa0)(r:Oa1):DT (c7×List c9):=(.ite (Nat.beq r.alt 1) (.ret (b r.bs0,[⟨0,3,[[i x.e8,i x.e7,i x.g8]],true,false,0⟩])) .fail)
theorem Pc5{α β:Type}(F:α->β)(kk:Oa1->α)(x:Oa0):F (ra9 kk x)=ra9 (λr=>F (kk r)) x:=by unfold ra9;(repeat' apply q9 (f:=F))<;>rfl
noncomputable def Pb8:Sum:=Va7 ⟨[.agg (kLq 4),sPq 0],[⟨0,3,true,some [kLq 3]⟩],λa H=>(⟨cIq a 0 0,cIq a 0 1,cIq a 0 2,cIq a 0 3,hIq H 0 0 0,hIq H 0 0 1,hIq H 0 0 2⟩,())⟩ (λx=>cb1 x (Oa2 x))
theorem Ac1:i6 prog G 51 Pb8:=R2 (enc:=λx=>⟨[.agg [i x.da7,i x.da8,i x.da9,i x.dd1],.ptr 0 0 0 0],[⟨0,3,[[i x.e8,i x.e7,i x.g8]],true,false,0⟩]⟩) (λa H=>by kernel_rfl) (bd b51 uc1) λx=>y5 (Eq.trans (b:=ra9 (λr=>(cb1 x r).run) x) (by kernel_rfl) (Pc5 (λr=>(cb1 x r).run) (λr=>r) x).symm)
structure O4 where
 I1:List Pln
 (e8 e7 g8:Int)
noncomputable def pa4:List (Nat×Sum):=[(51,Pb8)]
theorem Oa3:j9 prog G pa4:=⟨Ac1,trivial⟩
structure C8 where
 I1:List Pln
 (is7 e8 e7 g8:Int)
structure l7 where
 is8:Int
noncomputable def ka5(p:C8)(s:l7):St:=⟨eL tP p.I1::.fn 51 [.ptr 0 0 0 0]::ra 5 (i p.is7::i s.is8::ra 10 []),[⟨0,3,[[i p.e8,i p.e7,i p.g8]],true,false,0⟩]⟩
noncomputable def A8{α:Type}(k:l7->α)(e:Nat->α)(z:α)(p:C8)(s:l7):α:=let t1:=(Oa2 ⟨(gL tP p.I1 s.is8.toNat).n.x,(gL tP p.I1 s.is8.toNat).n.y,(gL tP p.I1 s.is8.toNat).n.z,(gL tP p.I1 s.is8.toNat).b,p.e8,p.e7,p.g8⟩);(sl (decide (s.is8<p.is7)) (sl (inB s.is8 (List.length p.I1)) (sl (Nat.beq t1.alt 1) (sl t1.bs0 (e 1) (k ⟨W (s.is8+1)⟩)) z) z) (e 2))
noncomputable def B7(p:C8)(s:l7):Stp l7:=A8 .next .exit .fail p s
noncomputable def X5:Lo C8 l7:=⟨En pa4,1,oe4,[1,0,1,4,4],[0,1,7,8],.p,[⟨sLq tP::.fn 51 [.o (.ptr 0 0 0 0)]::ru2 5 (sIq::sIq::ru2 10 []),[⟨0,3,true,some [kLq 3]⟩],λa H=>(⟨aLq tP a 0,aIq a 7,hIq H 0 0 0,hIq H 0 0 1,hIq H 0 0 2⟩,⟨aIq a 8⟩)⟩],B7,[(none,λp s=>⟨[i s.is8],[⟨0,3,[[i p.e8,i p.e7,i p.g8]],true,false,0⟩]⟩),(some 0,λp s=>upq (ka5 p s) [(9,b (decide (s.is8<p.is7)))])],ka5⟩
theorem La3:X5.Ok:=Lo.ok [] (by kernel_rfl) .nil rfl (.cons (λa H=>by kernel_rfl) .nil) λp s=>(.of @A8 (λF _ _ _ _ _=>by unfold A8;(repeat' apply q9 (f:=F))<;>rfl) (by kernel_rfl))
structure O5 where
 alt:Nat
 is0:Int
noncomputable def B4{α:Type}(kk:O5->α)(x:O4):α:=let t1:=(lp (B7 (⟨rt tP x.I1,(↑(List.length x.I1):Int),x.e8,x.e7,x.g8⟩:C8)) (⟨0⟩:l7));(sl ((cnE tP x.I1)&&true) (sl (Nat.beq t1.1 1) (kk ⟨1,t1.2.is8⟩) (sl (Nat.beq t1.1 2) (kk ⟨1,-1⟩) (kk ⟨0,0⟩))) (kk ⟨0,0⟩))
noncomputable def O6(x:O4):O5:=B4 (λr=>r) x
noncomputable def aa2(x:O4)(r:O5):DT (c7×List c9):=(.ite (Nat.beq r.alt 1) (.ret (i r.is0,[⟨0,3,[[i x.e8,i x.e7,i x.g8]],true,false,0⟩])) .fail)
theorem Wa4{α β:Type}(F:α->β)(kk:O5->α)(x:O4):F (B4 kk x)=B4 (λr=>F (kk r)) x:=by unfold B4;(repeat' apply q9 (f:=F))<;>rfl
noncomputable def sa4:Sum:=Va7 ⟨[sLq tP,.fn 51 [.o (.ptr 0 0 0 0)]],[⟨0,3,true,some [kLq 3]⟩],λa H=>(⟨aLq tP a 0,hIq H 0 0 0,hIq H 0 0 1,hIq H 0 0 2⟩,())⟩ (λx=>aa2 x (O6 x))
theorem Ua9:i6 prog G 82 sa4:=R2 (enc:=λx=>⟨[eL tP x.I1,.fn 51 [.ptr 0 0 0 0]],[⟨0,3,[[i x.e8,i x.e7,i x.g8]],true,false,0⟩]⟩) (λa H=>by kernel_rfl) (bd b82 Oa3) λx=>ib8 (.s .p (.s (.s .p (.b (.u X5.ls))) .p)) [X5.pr] (by kernel_rfl) (.cons La3 .nil) (Eq.trans (b:=B4 (λr=>(aa2 x r).run) x) (by kernel_rfl) (Wa4 (λr=>(aa2 x r).run) (λr=>r) x).symm)
structure J6 where
 I1:List Pln
 (e8 e7 g8:Int)
noncomputable def Ia6:List (Nat×Sum):=[(82,sa4)]
theorem Ea9:j9 prog G Ia6:=⟨Ua9,trivial⟩
structure J7 where
 alt:Nat
 bs0:Bool
noncomputable def s6{α:Type}(kk:J7->α)(x:J6):α:=let t1:=(O6 ⟨rt tP x.I1,x.e8,x.e7,x.g8⟩);(sl ((cnE tP x.I1)&&true) (sl (Nat.beq t1.alt 1) (kk ⟨1,decide (t1.is0>=0)⟩) (kk ⟨0,false⟩)) (kk ⟨0,false⟩))
noncomputable def J8(x:J6):J7:=s6 (λr=>r) x
noncomputable def S5(x:J6)(r:J7):DT (c7×List c9):=(.ite (Nat.beq r.alt 1) (.ret (b r.bs0,[⟨0,3,[[i x.e8,i x.e7,i x.g8]],true,false,0⟩])) .fail)
theorem La4{α β:Type}(F:α->β)(kk:J7->α)(x:J6):F (s6 kk x)=s6 (λr=>F (kk r)) x:=by unfold s6;(repeat' apply q9 (f:=F))<;>rfl
noncomputable def ka6:Sum:=Va7 ⟨[sLq tP,.fn 51 [.o (.ptr 0 0 0 0)]],[⟨0,3,true,some [kLq 3]⟩],λa H=>(⟨aLq tP a 0,hIq H 0 0 0,hIq H 0 0 1,hIq H 0 0 2⟩,())⟩ (λx=>S5 x (J8 x))
theorem Ia7:i6 prog G 50 ka6:=R2 (enc:=λx=>⟨[eL tP x.I1,.fn 51 [.ptr 0 0 0 0]],[⟨0,3,[[i x.e8,i x.e7,i x.g8]],true,false,0⟩]⟩) (λa H=>by kernel_rfl) (bd b50 Ea9) λx=>y5 (Eq.trans (b:=s6 (λr=>(S5 x r).run) x) (by kernel_rfl) (La4 (λr=>(S5 x r).run) (λr=>r) x).symm)
noncomputable def bd9:List (Nat×Sum):=[(22,Bb8),(20,Sa3),(50,ka6)]
theorem Pc6:j9 prog G bd9:=⟨uc0,Ya1,Ia7,trivial⟩
noncomputable def xa0(x:List V3)(y:V3):Option (c7×List c9):=let t1:=(la9 (rt tV x));let t2:=(ha7 y);let t3:=(J8 ⟨rt tP t1.1,y.x,y.y,y.z⟩);(sl (okE tV x) (sl (ua4 (rt tV x)) (sl (t1.2==0) (sl (ha8 y) (sl t2 (sl ((cnE tP t1.1)&&true) (sl (Nat.beq t3.alt 1) (some (b (!t3.bs0),[])) none) none) (some (b false,[]))) none) (some (b false,[]))) none) none)
noncomputable def Va0(x:List V3)(y:V3):Bool:=V0 (one r1B) (xa0 x y)
noncomputable def Va1(x:List V3)(y:V3):Bool:=okO (one r1B) (xa0 x y)
noncomputable def uc2:Sum:=Ha4 (ya3 tV) (Z4 tV) (λx y=>.guard (Va1 x y) (.ret ((one r1B).enc (Va0 x y),[])))
theorem cd0:i6 prog G 29 uc2:=Sb1 (bd b29 Pc6) (one r1B) (o:=xa0) λx y=>y5 (by kernel_rfl)
noncomputable def ac7:List (Nat×Sum):=[]
theorem Pc7:j9 prog G ac7:=trivial
structure Ba3 where
 Ca5:List V3
 ue3:Int
structure da5 where
 (ub7 ia6 ia7 ia8 va8 va9 wa0:Int)
noncomputable def Bb9(p:Ba3)(s:da5):St:=⟨.unk::.unk::.ptr 0 0 0 0::.ptr 1 0 0 0::.unk::.ptr 2 0 0 0::.ptr 3 0 0 0::ra 13 (eL tV p.Ca5::i p.ue3::i s.ub7::ra 38 []),[⟨0,3,[[i 0,i 0,i 0]],true,false,0⟩,⟨0,3,[[i 0,i 0,i 0]],true,false,0⟩,⟨0,3,[[i s.ia6,i s.ia7,i s.ia8]],true,false,0⟩,⟨0,3,[[i s.va8,i s.va9,i s.wa0]],true,false,0⟩]⟩
noncomputable def pa5{α:Type}(k:da5->α)(e:Nat->α)(z:α)(p:Ba3)(s:da5):α:=(sl (decide (s.ub7<p.ue3)) (sl (inB s.ub7 (List.length p.Ca5)) (k ⟨W (s.ub7+1),(if (gL tV p.Ca5 s.ub7.toNat).x<s.ia6 then (gL tV p.Ca5 s.ub7.toNat).x else s.ia6),(if (gL tV p.Ca5 s.ub7.toNat).y<s.ia7 then (gL tV p.Ca5 s.ub7.toNat).y else s.ia7),(if (gL tV p.Ca5 s.ub7.toNat).z<s.ia8 then (gL tV p.Ca5 s.ub7.toNat).z else s.ia8),(if (gL tV p.Ca5 s.ub7.toNat).x>s.va8 then (gL tV p.Ca5 s.ub7.toNat).x else s.va8),(if (gL tV p.Ca5 s.ub7.toNat).y>s.va9 then (gL tV p.Ca5 s.ub7.toNat).y else s.va9),(if (gL tV p.Ca5 s.ub7.toNat).z>s.wa0 then (gL tV p.Ca5 s.ub7.toNat).z else s.wa0)⟩) z) (e 1))
noncomputable def ma0(p:Ba3)(s:da5):Stp da5:=pa5 .next .exit .fail p s
noncomputable def kb4:Lo Ba3 da5:=⟨En ac7,0,we3,[1,1,1,0,1,4,4],[2,3,5,6,20,21,22],.p,[⟨sUq::sUq::sPq 0::sPq 1::sUq::sPq 2::sPq 3::ru2 13 (sLq tV::sIq::sIq::ru2 38 []),[⟨0,3,true,some [[.o (.lit .i64 0),.o (.lit .i64 0),.o (.lit .i64 0)]]⟩,⟨0,3,true,some [[.o (.lit .i64 0),.o (.lit .i64 0),.o (.lit .i64 0)]]⟩,⟨0,3,true,some [kLq 3]⟩,⟨0,3,true,some [kLq 3]⟩],λa H=>(⟨aLq tV a 20,aIq a 21⟩,⟨aIq a 22,hIq H 2 0 0,hIq H 2 0 1,hIq H 2 0 2,hIq H 3 0 0,hIq H 3 0 1,hIq H 3 0 2⟩)⟩],ma0,[(some 0,λp s=>upq (Bb9 p s) [(23,b (decide (s.ub7<p.ue3)))])],Bb9⟩
theorem Ac2:kb4.Ok:=Lo.ok [] (by kernel_rfl) .nil rfl (.cons (λa H=>by kernel_rfl) .nil) λp s=>(.of @pa5 (λF _ _ _ _ _=>by unfold pa5;(repeat' apply q9 (f:=F))<;>rfl) (by kernel_rfl))
noncomputable def Va2(x:List V3):Option (c7×List c9):=let t1:=(lp (ma0 (⟨rt tV x,(↑(List.length x):Int)⟩:Ba3)) (⟨0,(gL tV x 0).x,(gL tV x 0).y,(gL tV x 0).z,(gL tV x 0).x,(gL tV x 0).y,(gL tV x 0).z⟩:da5));(sl ((↑(List.length x):Int)==0) (some (.tup [.agg [i 0,i 0,i 0],.agg [i 0,i 0,i 0],b false],[])) (sl (inB 0 (List.length x)) (sl (inB 0 (List.length x)) (sl ((cnE tV x)&&true) (sl (Nat.beq t1.1 1) (some (.tup [.agg [i t1.2.ia6,i t1.2.ia7,i t1.2.ia8],.agg [i t1.2.va8,i t1.2.va9,i t1.2.wa0],b true],[])) none) none) none) none))
noncomputable def kb5(x:List V3):V3×V3×Bool:=V0 (nc0 r1V r1V r1B) (Va2 x)
noncomputable def kb6(x:List V3):Bool:=okO (nc0 r1V r1V r1B) (Va2 x)
noncomputable def uc3:Sum:=L0 (ya3 tV) (λx=>.guard (kb6 x) (.ret ((nc0 r1V r1V r1B).enc (kb5 x),[])))
theorem cd1:i6 prog G 25 uc3:=Da4 (bd b25 Pc7) (nc0 r1V r1V r1B) (o:=Va2) λx=>ib8 (.s .p (.s .p (.s .p (.s (.s .p (.b (.u kb4.ls))) .p)))) [kb4.pr] (by kernel_rfl) (.cons Ac2 .nil) (by kernel_rfl)
structure je3 where
 j6:List V3
 (e8 e7 g8:Int)
structure je4 where
 is5:Int
structure Pd2 where
 I1:List Pln
 (e8 e7 g8:Int)
structure Pd3 where
 ph:Nat
 is6:Int
 ns5:Nat
 eh1:List (List c7)
structure Pd4 where
 ns5:Nat
 (is7 is8:Int)
 eh0:List (List c7)
structure Pd5 where
 ph:Nat
 is9:Int
structure Pd6 where
 is7:Int
structure Pd7 where
 (ph ns5:Nat)
 is8:Int
 eh0:List (List c7)
structure Pd8 where
structure Pd9 where
 ph:Nat
 is7:Int
 ns5:Nat
 eh0:List (List c7)
structure Dd2 where
 j6:List V3
 Be1:List Pln
structure Dd3 where
 ph:Nat
 is7:Int
 Be2:List V3
structure je5 where
 j6:List V3
structure je6 where
 (is7 ia6 ia7 ia8 va8 va9 wa0:Int)
structure se4 where
 Hc3:List V3
 (e8 e7 g8 m0:Int)
structure se5 where
 ph:Nat
 is6:Int
 ns5:Nat
 eh1:List (List c7)
structure ee5 where
 Hc3:List V3
 (e8 e7 g8 D7 D8 D9 ia6 ia7 ia8:Int)
structure ee6 where
 is9:Int
structure ee7 where
 Hc3:List V3
 (is8 e8 e7 g8 m0 D7 D8 D9:Int)
structure ee8 where
 (is7 is9:Int)
structure ee9 where
 (e8 e7 g8 m0 D7 D8 D9:Int)
structure fe0 where
 Hc3:List V3
 (is7 is8:Int)
structure je7 where
 j6:List V3
 Be1:List Pln
 Be2:List V3
structure je8 where
 (is8 is9:Int)
noncomputable def uc4:List (Nat×Sum):=[]
theorem fc9:j9 prog G uc4:=trivial
noncomputable def cb2(x:V3)(y:V3):Option (c7×List c9):=(some (.sl 0 0 8 0,[⟨25,3,[[i x.x,i x.y,i x.z],[i y.x,i x.y,i x.z],[i x.x,i y.y,i x.z],[i y.x,i y.y,i x.z],[i x.x,i x.y,i y.z],[i y.x,i x.y,i y.z],[i x.x,i y.y,i y.z],[i y.x,i y.y,i y.z]],true,false,0⟩]))
noncomputable def cb3(x:V3)(y:V3):List V3:=V0 (one (r1L tV)) (cb2 x y)
noncomputable def cb4(x:V3)(y:V3):Bool:=okO (one (r1L tV)) (cb2 x y)
noncomputable def Cb0:Sum:=Ha4 (Z4 tV) (Z4 tV) (λx y=>.guard (cb4 x y) (.ret ((one (r1L tV)).enc (cb3 x y),[])))
theorem uc5:i6 prog G 24 Cb0:=Sb1 (bd b24 fc9) (one (r1L tV)) (o:=cb2) λx y=>y5 (by kernel_rfl)
structure fa3 where
 (da7 da8 da9:Int)
 td7:Nat
 Ud0:Nat->List c7
 (Ud1 Ud2 Ud3:Int)
noncomputable def Ia8:List (Nat×Sum):=[(27,Ya2),(36,la5),(35,na7)]
theorem nb5:j9 prog G Ia8:=⟨jb6,na8,qa7,trivial⟩
structure O8 where
 Be3:Nat
 Gb8:Nat->List c7
 (Ud4 e8 e7 g8:Int)
 he0:Nat
 he3:Nat->List c7
 (D7 D8 D9:Int)
structure n8 where
 (Wa6 va8 va9 wa0:Int)
noncomputable def Ba4(p:O8)(s:n8):St:=⟨.unk::.unk::.ptr 0 0 0 0::.ptr 1 0 0 0::.ptr 2 0 0 0::.ptr 3 0 0 0::ra 4 (.tree 3 p.Be3 p.Gb8::i p.Ud4::i s.Wa6::ra 27 []),[⟨0,4,[[i p.e8,i p.e7,i p.g8,.tree 3 p.he0 p.he3]],true,false,0⟩,⟨0,3,[[i p.D7,i p.D8,i p.D9]],true,false,0⟩,⟨0,3,[[i 0,i 0,i 0]],true,false,0⟩,⟨0,3,[[i s.va8,i s.va9,i s.wa0]],true,false,0⟩]⟩
noncomputable def z8{α:Type}(k:n8->α)(e:Nat->α)(z:α)(p:O8)(s:n8):α:=let t1:=(K3 (⟨s.va8,s.va9,s.wa0⟩:V3) (⟨p.D7,p.D8,p.D9⟩:V3));let t2:=(K3 (⟨toI (hdA (p.Gb8 s.Wa6.toNat)),toI (hdA (tlA (p.Gb8 s.Wa6.toNat))),toI (hdA (tlA (tlA (p.Gb8 s.Wa6.toNat))))⟩:V3) (⟨p.D7,p.D8,p.D9⟩:V3));let t3:=(A1 t1 t2);let t4:=(w7 (⟨p.e8,p.e7,p.g8⟩:V3) t3);(sl (decide (s.Wa6<p.Ud4)) (sl (inB s.Wa6 p.Be3) (sl ((Nat.ble 3 (len (p.Gb8 s.Wa6.toNat)))&&(ma9 [CK.int .i64,CK.int .i64,CK.int .i64] (p.Gb8 s.Wa6.toNat))) (sl (!(((toI (hdA (p.Gb8 s.Wa6.toNat)))==p.D7)&&(((toI (hdA (tlA (p.Gb8 s.Wa6.toNat))))==p.D8)&&(((toI (hdA (tlA (tlA (p.Gb8 s.Wa6.toNat)))))==p.D9)&&true)))) (sl ((s.va8==p.D7)&&((s.va9==p.D8)&&((s.wa0==p.D9)&&true))) (k ⟨W (s.Wa6+1),toI (hdA (p.Gb8 s.Wa6.toNat)),toI (hdA (tlA (p.Gb8 s.Wa6.toNat))),toI (hdA (tlA (tlA (p.Gb8 s.Wa6.toNat))))⟩) (sl (decide (t4<0)) (k ⟨W (s.Wa6+1),toI (hdA (p.Gb8 s.Wa6.toNat)),toI (hdA (tlA (p.Gb8 s.Wa6.toNat))),toI (hdA (tlA (tlA (p.Gb8 s.Wa6.toNat))))⟩) (k ⟨W (s.Wa6+1),s.va8,s.va9,s.wa0⟩))) (k ⟨W (s.Wa6+1),s.va8,s.va9,s.wa0⟩)) z) z) (e 1))
noncomputable def M9(p:O8)(s:n8):Stp n8:=z8 .next .exit .fail p s
noncomputable def ma8:Lo O8 n8:=⟨En Ia8,0,we7,[1,1,0,1,4,4],[2,3,4,5,10,11,12],.p,[⟨sUq::sUq::sPq 0::sPq 1::sPq 2::sPq 3::ru2 4 (sTq 3::sIq::sIq::ru2 27 []),[⟨0,4,true,some [[.o (.int .i64),.o (.int .i64),.o (.int .i64),.o (.tree 3)]]⟩,⟨0,3,true,some [kLq 3]⟩,⟨0,3,true,some [[.o (.lit .i64 0),.o (.lit .i64 0),.o (.lit .i64 0)]]⟩,⟨0,3,true,some [kLq 3]⟩],λa H=>(⟨aNq a 10,aGq a 10,aIq a 11,hIq H 0 0 0,hIq H 0 0 1,hIq H 0 0 2,hNq H 0 0 3,hGq H 0 0 3,hIq H 1 0 0,hIq H 1 0 1,hIq H 1 0 2⟩,⟨aIq a 12,hIq H 3 0 0,hIq H 3 0 1,hIq H 3 0 2⟩)⟩],M9,[(some 0,λp s=>upq (Ba4 p s) [(13,b (decide (s.Wa6<p.Ud4)))])],Ba4⟩
theorem kb7:ma8.Ok:=Lo.ok [] (by kernel_rfl) .nil rfl (.cons (λa H=>by kernel_rfl) .nil) λp s=>(.of @z8 (λF _ _ _ _ _=>by unfold z8;(repeat' apply q9 (f:=F))<;>rfl) (by kernel_rfl))
structure fa4 where
 alt:Nat
 (da7 da8 da9:Int)
noncomputable def N4{α:Type}(kk:fa4->α)(x:fa3):α:=let t1:=(lp (M9 (⟨x.td7,x.Ud0,(↑x.td7:Int),x.da7,x.da8,x.da9,x.td7,x.Ud0,x.Ud1,x.Ud2,x.Ud3⟩:O8)) (⟨0,x.Ud1,x.Ud2,x.Ud3⟩:n8));(sl (Nat.beq t1.1 1) (kk ⟨1,t1.2.va8,t1.2.va9,t1.2.wa0⟩) (kk ⟨0,0,0,0⟩))
noncomputable def W0(x:fa3):fa4:=N4 (λr=>r) x
noncomputable def pa6(x:fa3)(r:fa4):DT (c7×List c9):=(.ite (Nat.beq r.alt 1) (.ret (.agg [i r.da7,i r.da8,i r.da9],[])) .fail)
theorem yb6{α β:Type}(F:α->β)(kk:fa4->α)(x:fa3):F (N4 kk x)=N4 (λr=>F (kk r)) x:=by unfold N4;(repeat' apply q9 (f:=F))<;>rfl
noncomputable def La7:Sum:=Va7 ⟨[.agg [.o (.int .i64),.o (.int .i64),.o (.int .i64),.o (.tree 3)],.agg (kLq 3)],[],λa H=>(⟨cIq a 0 0,cIq a 0 1,cIq a 0 2,cNq a 0 3,cGq a 0 3,cIq a 1 0,cIq a 1 1,cIq a 1 2⟩,())⟩ (λx=>pa6 x (W0 x))
theorem tb8:i6 prog G 38 La7:=R2 (enc:=λx=>⟨[.agg [i x.da7,i x.da8,i x.da9,.tree 3 x.td7 x.Ud0],.agg [i x.Ud1,i x.Ud2,i x.Ud3]],[]⟩) (λa H=>by kernel_rfl) (bd b38 nb5) λx=>ib8 (.s .p (.s .p (.s (.s .p (.b (.u ma8.ls))) .p))) [ma8.pr] (by kernel_rfl) (.cons kb7 .nil) (Eq.trans (b:=N4 (λr=>(pa6 x r).run) x) (by kernel_rfl) (yb6 (λr=>(pa6 x r).run) (λr=>r) x).symm)
noncomputable def Cb1:List (Nat×Sum):=[(36,la5),(35,na7)]
theorem uc6:j9 prog G Cb1:=⟨na8,qa7,trivial⟩
@[reducible] noncomputable def kb8:Sum:=Hb5 (En Cb1) we5
theorem Cb2:i6 prog G 34 kb8:=bd b34 uc6
structure Oa4 where
 (da7 da8 da9 is1 Hc4 Hc5 Hc6:Int)
 Hc7:Nat
 Hc8:Nat->List c7
 e8:Int
noncomputable def Cb3:List (Nat×Sum):=[(38,La7),(36,la5),(35,na7),(34,kb8)]
theorem uc7:j9 prog G Cb3:=⟨tb8,na8,qa7,Cb2,trivial⟩
structure pa7 where
 (Hc4 Hc5 Hc6:Int)
 Hc7:Nat
 Hc8:Nat->List c7
 (ue4 D7 D8 D9:Int)
structure S6 where
 (he4 e8 ia6 ia7 ia8:Int)
noncomputable def mb8(p:pa7)(s:S6):St:=⟨.unk::.unk::.fn 100038 [i p.Hc4,i p.Hc5,i p.Hc6,.tree 3 p.Hc7 p.Hc8]::.fn 34 [.ptr 0 0 0 0]::.ptr 1 0 0 0::ra 3 (.ptr 2 0 0 0::ra 5 (i p.ue4::i s.he4::ra 11 [])),[⟨0,1,[[i s.e8]],true,false,0⟩,⟨0,3,[[i p.D7,i p.D8,i p.D9]],true,false,0⟩,⟨0,3,[[i s.ia6,i s.ia7,i s.ia8]],true,false,0⟩]⟩
noncomputable def Q4{α:Type}(k:S6->α)(e:Nat->α)(z:α)(p:pa7)(s:S6):α:=let t1:=(W0 ⟨p.Hc4,p.Hc5,p.Hc6,p.Hc7,p.Hc8,s.ia6,s.ia7,s.ia8⟩);let t2:=(A1 (⟨p.D7,p.D8,p.D9⟩:V3) (⟨s.ia6,s.ia7,s.ia8⟩:V3));let t3:=(w7 t2 (⟨t1.da7,t1.da8,t1.da9⟩:V3));(sl (decide (s.he4<p.ue4)) (sl (Nat.beq t1.alt 1) (k ⟨W (s.he4+1),W (s.e8+t3),t1.da7,t1.da8,t1.da9⟩) z) (e 1))
noncomputable def ka7(p:pa7)(s:S6):Stp S6:=Q4 .next .exit .fail p s
noncomputable def Va3:Lo pa7 S6:=⟨En Cb3,1,we6,[1,1,1,4,4],[2,3,4,8,14,15],.p,[⟨sUq::sUq::.fn 100038 [.o (.int .i64),.o (.int .i64),.o (.int .i64),.o (.tree 3)]::.fn 34 [.o (.ptr 0 0 0 0)]::sPq 1::ru2 3 (sPq 2::ru2 5 (sIq::sIq::ru2 11 [])),[⟨0,1,true,some [[.o (.int .i64)]]⟩,⟨0,3,true,some [kLq 3]⟩,⟨0,3,true,some [kLq 3]⟩],λa H=>(⟨cIq a 2 0,cIq a 2 1,cIq a 2 2,cNq a 2 3,cGq a 2 3,aIq a 14,hIq H 1 0 0,hIq H 1 0 1,hIq H 1 0 2⟩,⟨aIq a 15,hIq H 0 0 0,hIq H 2 0 0,hIq H 2 0 1,hIq H 2 0 2⟩)⟩],ka7,[(some 0,λp s=>upq (mb8 p s) [(16,b (decide (s.he4<p.ue4)))])],mb8⟩
theorem gc0:Va3.Ok:=Lo.ok [] (by kernel_rfl) .nil rfl (.cons (λa H=>by kernel_rfl) .nil) λp s=>(.of @Q4 (λF _ _ _ _ _=>by unfold Q4;(repeat' apply q9 (f:=F))<;>rfl) (by kernel_rfl))
structure Oa5 where
 alt:Nat
 e8:Int
noncomputable def sa0{α:Type}(kk:Oa5->α)(x:Oa4):α:=let t1:=(W0 ⟨x.Hc4,x.Hc5,x.Hc6,x.Hc7,x.Hc8,x.da7,x.da8,x.da9⟩);let t2:=(lp (ka7 (⟨x.Hc4,x.Hc5,x.Hc6,x.Hc7,x.Hc8,W (x.is1-2),x.da7,x.da8,x.da9⟩:pa7)) (⟨0,x.e8,t1.da7,t1.da8,t1.da9⟩:S6));(sl (Nat.beq t1.alt 1) (sl (Nat.beq t2.1 1) (kk ⟨1,t2.2.e8⟩) (kk ⟨0,0⟩)) (kk ⟨0,0⟩))
noncomputable def Oa6(x:Oa4):Oa5:=sa0 (λr=>r) x
noncomputable def cb5(x:Oa4)(r:Oa5):DT (c7×List c9):=(.ite (Nat.beq r.alt 1) (.ret (.tup [],[⟨0,1,[[i r.e8]],true,false,0⟩])) .fail)
theorem Pc8{α β:Type}(F:α->β)(kk:Oa5->α)(x:Oa4):F (sa0 kk x)=sa0 (λr=>F (kk r)) x:=by unfold sa0;(repeat' apply q9 (f:=F))<;>rfl
noncomputable def Pb9:Sum:=Va7 ⟨[.agg (kLq 3),sIq,.fn 100038 [.o (.int .i64),.o (.int .i64),.o (.int .i64),.o (.tree 3)],.fn 34 [.o (.ptr 0 0 0 0)]],[⟨0,1,true,some [[.o (.int .i64)]]⟩],λa H=>(⟨cIq a 0 0,cIq a 0 1,cIq a 0 2,aIq a 1,cIq a 2 0,cIq a 2 1,cIq a 2 2,cNq a 2 3,cGq a 2 3,hIq H 0 0 0⟩,())⟩ (λx=>cb5 x (Oa6 x))
theorem Ac3:i6 prog G 37 Pb9:=R2 (enc:=λx=>⟨[.agg [i x.da7,i x.da8,i x.da9],i x.is1,.fn 100038 [i x.Hc4,i x.Hc5,i x.Hc6,.tree 3 x.Hc7 x.Hc8],.fn 34 [.ptr 0 0 0 0]],[⟨0,1,[[i x.e8]],true,false,0⟩]⟩) (λa H=>by kernel_rfl) (bd b37 uc7) λx=>ib8 (.s .p (.s .p (.s .p (.b (.u Va3.ls))))) [Va3.pr] (by kernel_rfl) (.cons gc0 .nil) (Eq.trans (b:=sa0 (λr=>(cb5 x r).run) x) (by kernel_rfl) (Pc8 (λr=>(cb5 x r).run) (λr=>r) x).symm)
theorem Pc9:Ga5 []=ba4 []/\Ga6 []=true:=by
 have h:ua2 []=some (.tup [.v (.slice none 0 0),i 11],[]):=by
  unfold ua2;simp only[o6,ma3,l9,tc7 [] (by simp),tc6 [] (by simp),Pb6]
  rfl
 unfold Ga5 Ga6 ba4;rw[h,Pb6];exact⟨rfl,rfl⟩
theorem ze7:La1 []=Pb4 []/\La2 []=true:=by
 have h:ka3 []=some (.tup [.v (.slice none 0 0),i 11],[]):=by
  unfold ka3;simp only[o6,ma3,l9,Pc9.1,Pc9.2,ba4,Pb6];rfl
 unfold La1 La2 Pb4;rw[h,Pb6];exact⟨rfl,rfl⟩
theorem rd8 {α : Type} {f : Nat} {c : Cod α} {k kA kB : α → DT (c7 × List c9)} (hA : i6 prog G f (L0 c kA)) (hB : i6 prog G f (L0 c kB))
  (h:∀a r,(k a).run=some r->(kA a).run=some r\/(kB a).run=some r):i6 prog G f (L0 c k):=λargs blks r out he=>by
 unfold L0 at he
 split at he
 ·rename_i x;cases hd:c.dec x with
  |none=>rw[hd] at he;cases he
  |some a =>
   rw[hd] at he;obtain⟨h1,h2⟩:=DT.run_guard_some (show (DT.guard (c.grd x) (k a)).run=some (r,out) from he)
   rcases h a _ h2 with q|q
   ·refine hA [x] [] r out ?_;show (onO (c.dec x) λa=>DT.guard (c.grd x) (kA a)).run=_
    rw[hd];show (DT.guard (c.grd x) (kA a)).run=_;rw[h1];exact q
   ·refine hB [x] [] r out ?_;show (onO (c.dec x) λa=>DT.guard (c.grd x) (kB a)).run=_
    rw[hd];show (DT.guard (c.grd x) (kB a)).run=_;rw[h1];exact q
 ·cases he
noncomputable def cb6(l:List V3):List Pln×Int:=ba4 l
noncomputable def cb7(l:List V3):Bool:=decide (l.length<=900000)
noncomputable def Cb4:Sum:=L0 (ya3 tV) λl=>.guard (cb7 l) (.ret ((two (r1L tP) r1I).enc (cb6 l),[]))
theorem uc8:i6 prog G 22 Cb4:=rd8 tb7 sb6 λl r hr=>by
 obtain⟨hg,hr⟩:=DT.run_guard_some hr;cases l with
 |nil=>right;rw[Pc9.1,Pc9.2];exact hr
 |cons a c =>
  left
  have:=of_decide_eq_true hg
  rw[show ua4 (a::c)=true from decide_eq_true ⟨by simp,this⟩]
  exact hr
noncomputable def ka8(l:List V3):List V3×Int:=Pb4 l
noncomputable def ka9(l:List V3):Bool:=decide (l.length<=900000)
noncomputable def La5:Sum:=L0 (ya3 tV) λl=>.guard (ka9 l) (.ret ((two (r1L tV) r1I).enc (ka8 l),[]))
theorem gb0:i6 prog G 32 La5:=rd8 Xb6 Wb3 λl r hr=>by
 obtain⟨hg,hr⟩:=DT.run_guard_some hr;cases l with
 |nil=>right;rw[ze7.1,ze7.2];exact hr
 |cons a c =>
  left
  have:=of_decide_eq_true hg
  rw[show mb7 (a::c)=true from decide_eq_true ⟨by simp,this⟩]
  exact hr
noncomputable def cb8:List (Nat×Sum):=[(32,La5),(22,Cb4),(30,ra1),(37,Pb9),(34,kb8)]
theorem uc9:j9 prog G cb8:=⟨gb0,uc8,ta3,Ac3,Cb2,trivial⟩
structure N0 where
 nb1:List V3
 ha0:List Pln
 (md6 cb9:Int)
 xa1:List V3
 (md7 e8 D7 D8 D9 Oa7 ia6 ia7 ia8:Int)
structure o4 where
 ph:Nat
 Wa7:Int
 Oa8:Nat
 eh3:List (List c7)
noncomputable def gb1(p:N0)(s:o4):St:=⟨ra 4 (eL tV p.nb1::.unk::.unk::.ptr 0 0 0 0::.fn 34 [.ptr 0 0 0 0]::.unk::.ptr 1 0 0 0::.ptr 2 0 0 0::ra 19 (eL tP p.ha0::i p.md6::i p.cb9::ra 6 (eL tV p.xa1::i p.md7::i s.Wa7::ra 31 []))),[⟨0,1,[[i p.e8]],true,false,0⟩,⟨0,4,[[i p.D7,i p.D8,i p.D9,i p.Oa7]],true,false,0⟩,⟨0,0,[[i p.ia6,i p.ia7,i p.ia8,.v (.slice none 0 0)]],true,false,0⟩]⟩
noncomputable def gb2(p:N0)(s:o4):St:=⟨ra 4 (eL tV p.nb1::.unk::.unk::.ptr 0 0 0 0::.fn 34 [.ptr 0 0 0 0]::.unk::.ptr 1 0 0 0::.ptr 2 0 0 0::ra 19 (eL tP p.ha0::i p.md6::i p.cb9::ra 6 (eL tV p.xa1::i p.md7::i s.Wa7::ra 31 []))),[⟨0,1,[[i p.e8]],true,false,0⟩,⟨0,4,[[i p.D7,i p.D8,i p.D9,i p.Oa7]],true,false,0⟩,⟨0,0,[[i p.ia6,i p.ia7,i p.ia8,.sl 3 0 s.Oa8 0]],true,false,0⟩,⟨25,3,s.eh3,true,false,0⟩]⟩
noncomputable def gc1(p:N0)(s:o4):St:=(sel (Nat.beq s.ph 1) (gb2 p s) (gb1 p s))
noncomputable def Q5{α:Type}(k:o4->α)(e:Nat->α)(z:α)(p:N0)(s:o4):α:=let t1:=(J2 (⟨(⟨p.D7,p.D8,p.D9⟩:V3),p.Oa7⟩:Pln) (gL tV p.xa1 s.Wa7.toNat));(sl (decide (s.Wa7<p.md7)) (sl (inB s.Wa7 (List.length p.xa1)) (sl (R3 (⟨(⟨p.D7,p.D8,p.D9⟩:V3),p.Oa7⟩:Pln) (gL tV p.xa1 s.Wa7.toNat)) (sl (t1==0) (k ⟨1,W (s.Wa7+1),1,[[i (gL tV p.xa1 s.Wa7.toNat).x,i (gL tV p.xa1 s.Wa7.toNat).y,i (gL tV p.xa1 s.Wa7.toNat).z]]⟩) (k ⟨0,W (s.Wa7+1),0,[]⟩)) z) z) (e 1))
noncomputable def Q6{α:Type}(k:o4->α)(e:Nat->α)(z:α)(p:N0)(s:o4):α:=let t1:=(J2 (⟨(⟨p.D7,p.D8,p.D9⟩:V3),p.Oa7⟩:Pln) (gL tV p.xa1 s.Wa7.toNat));(sl (decide (s.Wa7<p.md7)) (sl (inB s.Wa7 (List.length p.xa1)) (sl (R3 (⟨(⟨p.D7,p.D8,p.D9⟩:V3),p.Oa7⟩:Pln) (gL tV p.xa1 s.Wa7.toNat)) (sl (t1==0) (sl (Nat.beq s.Oa8 (len s.eh3)&&Nat.ble ((s.Oa8+1)*24) room) (k ⟨1,W (s.Wa7+1),s.Oa8+1,app s.eh3 [[i (gL tV p.xa1 s.Wa7.toNat).x,i (gL tV p.xa1 s.Wa7.toNat).y,i (gL tV p.xa1 s.Wa7.toNat).z]]⟩) z) (k ⟨1,W (s.Wa7+1),s.Oa8,s.eh3⟩)) z) z) (e 2))
noncomputable def la0(p:N0)(s:o4):Stp o4:=(sel (Nat.beq s.ph 1) (Q6 .next .exit .fail p s) (Q5 .next .exit .fail p s))
noncomputable def Va4:Lo N0 o4:=⟨En cb8,0,oe1,[1,1,1,1,1,1,1,0,1,4,4,1,1,0,4,1,1,0,1,4,4],[4,7,8,10,11,31,32,33,40,41,42],.p,[⟨ru2 4 (sLq tV::sUq::sUq::sPq 0::.fn 34 [.o (.ptr 0 0 0 0)]::sUq::sPq 1::sPq 2::ru2 19 (sLq tP::sIq::sIq::ru2 6 (sLq tV::sIq::sIq::ru2 31 []))),[⟨0,1,true,some [[.o (.int .i64)]]⟩,⟨0,4,true,some [kLq 4]⟩,⟨0,0,true,some [[.o (.int .i64),.o (.int .i64),.o (.int .i64),.o .nil]]⟩],λa H=>(⟨aLq tV a 4,aLq tP a 31,aIq a 32,aIq a 33,aLq tV a 40,aIq a 41,hIq H 0 0 0,hIq H 1 0 0,hIq H 1 0 1,hIq H 1 0 2,hIq H 1 0 3,hIq H 2 0 0,hIq H 2 0 1,hIq H 2 0 2⟩,⟨0,aIq a 42,0,[]⟩)⟩,⟨ru2 4 (sLq tV::sUq::sUq::sPq 0::.fn 34 [.o (.ptr 0 0 0 0)]::sUq::sPq 1::sPq 2::ru2 19 (sLq tP::sIq::sIq::ru2 6 (sLq tV::sIq::sIq::ru2 31 []))),[⟨0,1,true,some [[.o (.int .i64)]]⟩,⟨0,4,true,some [kLq 4]⟩,⟨0,0,true,some [[.o (.int .i64),.o (.int .i64),.o (.int .i64),.o (.sl 3 0 (some 0) none)]]⟩,⟨25,3,true,none⟩],λa H=>(⟨aLq tV a 4,aLq tP a 31,aIq a 32,aIq a 33,aLq tV a 40,aIq a 41,hIq H 0 0 0,hIq H 1 0 0,hIq H 1 0 1,hIq H 1 0 2,hIq H 1 0 3,hIq H 2 0 0,hIq H 2 0 1,hIq H 2 0 2⟩,⟨1,aIq a 42,slN (slT (rwT (elT H 2) 0) 3),elT H 3⟩)⟩],la0,[(some 2,λp s=>upq (gb1 p s) [(43,b (decide (s.Wa7<p.md7)))]),(some 2,λp s=>upq (gb2 p s) [(43,b (decide (s.Wa7<p.md7)))])],gc1⟩
theorem gc2:Va4.OkM:=Lo.okM [] (by kernel_rfl) .nil rfl (.cons (λa H=>by kernel_rfl) (.cons (λa H=>by kernel_rfl) .nil)) λp s=>(.sel (Nat.beq s.ph 1) (.of @Q6 (λF _ _ _ _ _=>by unfold Q6;(repeat' apply q9 (f:=F))<;>rfl) (by kernel_rfl)) (.of @Q5 (λF _ _ _ _ _=>by unfold Q5;(repeat' apply q9 (f:=F))<;>rfl) (by kernel_rfl)))
structure pa8 where
 md6:Int
structure J0 where
 nb1:List V3
 ha0:List Pln
 (cb9 e8:Int)
noncomputable def mb9(p:pa8)(s:J0):St:=⟨ra 4 (eL tV s.nb1::.unk::.unk::.ptr 0 0 0 0::.fn 34 [.ptr 0 0 0 0]::ra 22 (eL tP s.ha0::i p.md6::i s.cb9::ra 40 [])),[⟨0,1,[[i s.e8]],true,false,0⟩]⟩
noncomputable def Q7{α:Type}(k:J0->α)(e:Nat->α)(z:α)(p:pa8)(s:J0):α:=let t1:=(lp (la0 (⟨rt tV s.nb1,rt tP s.ha0,p.md6,s.cb9,rt tV s.nb1,(↑(List.length s.nb1):Int),s.e8,(gL tP s.ha0 s.cb9.toNat).n.x,(gL tP s.ha0 s.cb9.toNat).n.y,(gL tP s.ha0 s.cb9.toNat).n.z,(gL tP s.ha0 s.cb9.toNat).b,(gL tP s.ha0 s.cb9.toNat).n.x,(gL tP s.ha0 s.cb9.toNat).n.y,(gL tP s.ha0 s.cb9.toNat).n.z⟩:N0)) (⟨0,0,0,[]⟩:o4));let t2:=(Oa6 ⟨(rdR tV t1.2.eh3 0).x,(rdR tV t1.2.eh3 0).y,(rdR tV t1.2.eh3 0).z,(↑t1.2.Oa8:Int),(gL tP s.ha0 s.cb9.toNat).n.x,(gL tP s.ha0 s.cb9.toNat).n.y,(gL tP s.ha0 s.cb9.toNat).n.z,t1.2.Oa8,(λk=>i9 t1.2.eh3 (0+k)),s.e8⟩);(sl (decide (s.cb9<p.md6)) (sl (inB s.cb9 (List.length s.ha0)) (sl ((cnE tV s.nb1)&&((cnE tP s.ha0)&&((cnE tV s.nb1)&&true))) (sl (Nat.beq t1.1 1) (k ⟨rt tV s.nb1,rt tP s.ha0,W (s.cb9+1),s.e8⟩) (sl (Nat.beq t1.1 2) (sl (decide ((↑t1.2.Oa8:Int)>2)) (sl (inB 0 t1.2.Oa8) (sl (ldR tV t1.2.eh3 0) (sl (Nat.beq t2.alt 1) (k ⟨rt tV s.nb1,rt tP s.ha0,W (s.cb9+1),t2.e8⟩) z) z) z) (k ⟨rt tV s.nb1,rt tP s.ha0,W (s.cb9+1),s.e8⟩)) z)) z) z) (e 1))
noncomputable def la1(p:pa8)(s:J0):Stp J0:=Q7 .next .exit .fail p s
noncomputable def Va5:Lo pa8 J0:=⟨En cb8,0,oe1,[1,1,1,1,1,1,1,0,1,4,4],[4,7,8,31,32,33],.s .p (.s .p (.s (.b (.s .p (.s .p (.s (.s .p (.b (.u Va4.lsM))) .p)))) .p)),[⟨ru2 4 (sLq tV::sUq::sUq::sPq 0::.fn 34 [.o (.ptr 0 0 0 0)]::ru2 22 (sLq tP::sIq::sIq::ru2 40 [])),[⟨0,1,true,some [[.o (.int .i64)]]⟩],λa H=>(⟨aIq a 32⟩,⟨aLq tV a 4,aLq tP a 31,aIq a 33,hIq H 0 0 0⟩)⟩],la1,[(some 0,λp s=>upq (mb9 p s) [(34,b (decide (s.cb9<p.md6)))])],mb9⟩
theorem gc3:Va5.OkM:=Lo.okM [Va4.prM] (by kernel_rfl) (.cons gc2 .nil) rfl (.cons (λa H=>by kernel_rfl) .nil) λp s=>(.of @Q7 (λF _ _ _ _ _=>by unfold Q7;(repeat' apply q9 (f:=F))<;>rfl) (by kernel_rfl))
noncomputable def Ba5(x:List V3):Option (c7×List c9):=let t1:=(ka8 (rt tV x));let t2:=(cb6 (rt tV t1.1));let t3:=(lp (la1 (⟨(↑(List.length t2.1):Int)⟩:pa8)) (⟨rt tV t1.1,rt tP t2.1,0,0⟩:J0));(sl (okE tV x) (sl (ka9 (rt tV x)) (sl (t1.2 != 0) (some (.tup [i 0,i t1.2],[])) (sl (okE tV t1.1) (sl (cb7 (rt tV t1.1)) (sl (t2.2 != 0) (some (.tup [i 0,i t2.2],[])) (sl ((cnE tV t1.1)&&((cnE tP t2.1)&&true)) (sl (Nat.beq t3.1 1) (some (.tup [i t3.2.e8,i 0],[])) none) none)) none) none)) none) none)
noncomputable def F9(x:List V3):Int×Int:=V0 (two r1I r1I) (Ba5 x)
noncomputable def G3(x:List V3):Bool:=okO (two r1I r1I) (Ba5 x)
noncomputable def Ba6:Sum:=L0 (ya3 tV) (λx=>.guard (G3 x) (.ret ((two r1I r1I).enc (F9 x),[])))
theorem Ga9:i6 prog G 11 Ba6:=Da4 (bd b11 uc9) (two r1I r1I) (o:=Ba5) λx=>Ec6 (.s .p (.s .p (.s .p (.s .p (.s .p (.s .p (.s .p (.s (.s .p (.b (.u Va5.lsM))) .p)))))))) [Va5.prM] (by kernel_rfl) (.cons gc3 .nil) (by kernel_rfl)
end Go.Ev.Ce
namespace Go.Ev.Ce
def sig{α:Type}(l:List α)(f:α->Int):Int:=l.foldr (λx s=>f x+s) 0
section
variable{α β:Type}
theorem Za1(f:α->Int):sig [] f=0:=rfl
theorem m8(x:α)(l:List α)(f:α->Int):sig (x::l) f=f x+sig l f:=rfl
theorem jc3(f:α->Int):∀a c:List α,sig (a++c) f=sig a f+sig c f
 |[],c=>by rw[List.nil_append,Za1,Qjav]
 |x::a,c=>by rw[List.cons_append,m8,m8,jc3 f a c,Int.add_assoc]
theorem N5{f g:α->Int}:∀{l:List α},(∀x∈l,f x=g x)->sig l f=sig l g
 |[],_=>rfl
 |x::l,h=>by rw[m8,m8,h x (by simp),N5 λy hy=>h y (by simp[hy])]
theorem rd9(f g:α->Int):∀l:List α,sig l (λx=>f x+g x)=sig l f+sig l g
 |[]=>rfl
 |x::l=>by rw[m8,m8,m8,rd9 f g l];omega
theorem xb3(f g:α->Int):∀l:List α,sig l (λx=>f x-g x)=sig l f-sig l g
 |[]=>rfl
 |x::l=>by rw[m8,m8,m8,xb3 f g l];omega
theorem Qc0(f:α->Int):∀l:List α,sig l (λx=>-f x)=-sig l f
 |[]=>rfl
 |x::l=>by rw[m8,m8,Qc0 f l];omega
theorem sd0(k:Int)(f:α->Int):∀l:List α,sig l (λx=>k*f x)=k*sig l f
 |[]=>by rw[Za1,Za1,Qjn]
 |x::l=>by rw[m8,m8,sd0 k f l,Int.mul_add]
theorem Ba7{f:α->Int}:∀{l:List α},(∀x∈l,f x=0)->sig l f=0
 |[],_=>rfl
 |x::l,h=>by rw[m8,h x (by simp),Ba7 λy hy=>h y (by simp[hy]),Qjav]
theorem Qb0(c:List β)(f:α->β->Int):∀a:List α,sig a (λx=>sig c (f x))=sig c (λy=>sig a (λx=>f x y))
 |[]=>(Ba7 λ_ _=>rfl).symm
 |x::a=>by rw[m8,Qb0 c f a,<- rd9];exact N5 λy _=>rfl
theorem vc0{f:α->Int}{a c:List α}(h:a.Perm c):sig a f=sig c f:=by
 induction h with
 |nil=>rfl
 |cons x _ ih=>rw[m8,m8,ih]
 |swap x y l=>rw[m8,m8,m8,m8];omega
 |trans _ _ h1 h2=>rw[h1,h2]
theorem jc4(g:α->β)(f:β->Int):∀l:List α,sig (l.map g) f=sig l (λx=>f (g x))
 |[]=>rfl
 |x::l=>by rw[List.map_cons,m8,m8,jc4 g f l]
theorem Fa0(c:α->Bool)(f:α->Int):∀l:List α,sig (l.filter c) f=sig l (λx=>if c x=true then f x else 0)
 |[]=>rfl
 |x::l=>by
  rw[Qjv,m8];split
  ·rw[m8,Fa0 c f l]
  ·rw[Fa0 c f l,Qjav]
theorem Qd0{f g:α->Int}:∀{l:List α},(∀x∈l,f x<=g x)->sig l f<=sig l g
 |[],_=>Int.le_refl _
 |x::l,h=>by
  rw[m8,m8]
  have:=h x (by simp)
  have:=Qd0 (l:=l) λy hy=>h y (by simp[hy])
  omega
theorem vc1{f:α->Int}{l:List α}(h:∀x∈l,0<=f x):0<=sig l f:=by
 have:=Qd0 (f:=λ_=>0) h
 rw[Ba7 (λ_ _=>rfl)] at this
 exact this
theorem Gb7{f:α->Int}{x:α}:∀{l:List α},l.Nodup->x∈l->(∀y∈l,y≠x->f y=0)->sig l f=f x
 |[],_,h,_=>by cases h
 |y::l,hn,hx,h=>by
  obtain⟨h1,h2⟩:=List.nodup_cons.1 hn;rw[m8]
  rcases Qjk.1 hx with rfl|hx
  ·rw[Ba7 (λz hz=>h z (by simp[hz]) λe=>h1 (e ▸ hz)),Int.add_zero]
  ·rw[h y (by simp) (λe=>h1 (e ▸ hx)),Gb7 h2 hx λz hz=>h z (by simp[hz]),Qjav]
theorem sd1{a c:List α}(ha:a.Nodup)(hc:c.Nodup)(h:∀x,x∈a↔x∈c):a.Perm c:=(List.perm_ext_iff_of_nodup ha hc).2 h
theorem Qd1{f:α->Int}{a c:List α}(ha:a.Nodup)(hc:c.Nodup)(h:∀x,x∈a↔x∈c):sig a f=sig c f:=vc0 (sd1 ha hc h)
theorem cd2{a c:List α}(ha:a.Nodup)(hc:c.Nodup)(hs:∀x∈a,x∈c)(hl:c.length<=a.length):a.Perm c:=by
 refine sd1 ha hc λx=>⟨hs x,λhx=>?_⟩
 apply Qjaf;intro hn
 have:=List.Nodup.length_le_of_subset (List.nodup_cons.2 ⟨hn,ha⟩) (λy hy=>(Qjk.1 hy).elim (λe=>e ▸ hx) (hs y))
 simp only[List.length_cons] at this;omega
theorem Qd2{a:List α}{f:α->α->Int}(h:∀x∈a,∀y∈a,f x y=-f y x):sig a (λx=>sig a (f x))=0:=by
 have e1:=Qb0 a f a;have e2:sig a (λy=>sig a λx=>f x y)=-sig a (λy=>sig a (f y)):=by
  rw[<- Qc0];refine N5 λy hy=>?_
  rw[<- Qc0];exact N5 λx hx=>h x hx y hy
 omega
end
end Go.Ev.Ce
namespace Go.Ev.Ce
open Go Go.Ev Go.Ev.L Go.Proofs
structure Ins(r:List Pln)(x:Pt):Prop where
 w:0<x.pw
 h:∀p∈r,0<rmZ p x
theorem Ins.inr{r:List Pln}{x:Pt}(h:Ins r x):Inr r x:=⟨h.w,λp hp=>Int.le_of_lt (h.h p hp)⟩
theorem Ins.mono{r r':List Pln}{x:Pt}(h:Ins r x)(hs:∀p∈r',p∈r):Ins r' x:=⟨h.w,λp hp=>h.h p (hs p hp)⟩
theorem Inr.mono{r r':List Pln}{x:Pt}(h:Inr r x)(hs:∀p∈r',p∈r):Inr r' x:=⟨h.w,λp hp=>h.h p (hs p hp)⟩
theorem Ins.app{r r':List Pln}{x:Pt}(h:Ins r x)(h':Ins r' x):Ins (r++r') x:=⟨h.w,λp hp=>(Qjae.1 hp).elim (h.h p) (h'.h p)⟩
theorem Inr.app{r r':List Pln}{x:Pt}(h:Inr r x)(h':Inr r' x):Inr (r++r') x:=⟨h.w,λp hp=>(Qjae.1 hp).elim (h.h p) (h'.h p)⟩
theorem far{f g:Pln->Int}:∀l:List Pln,(∀p∈l,0<f p)->∃N:Int,0<=N/\∀M,N<=M->∀p∈l,0<M*f p+g p
 |[],_=>⟨0,Int.le_refl _,λ_ _ p hp=>by cases hp⟩
 |a::l,h=>by
  obtain⟨N,h0,h1⟩:=far l λp hp=>h p (List.mem_cons_of_mem _ hp)
  have ha:=h a Qjl;refine⟨max N ((g a).natAbs+1),by omega,λM hM p hp=>?_⟩
  rcases Qjk.1 hp with rfl|hp
  ·have:M*1<=M*f p:=Qjaq (by omega) (by omega)
   omega
  ·exact h1 M (by omega) p hp
theorem se6:∀p∈ws,okp p=true:=Qja.1 (by decide)
theorem ga9{n:V3}(h:n≠⟨0,0,0⟩):0<dot n n:=by
 have k:∀a:Int,0<=a*a/\(a≠0->0<a*a):=λa=>by
  rcases Int.lt_trichotomy a 0 with h|h|h
  ·have:=Qjau h h;exact⟨by omega,λ_=>this⟩
  ·subst h;exact⟨by decide,λh=>absurd rfl h⟩
  ·have:=Int.mul_pos h h;exact⟨by omega,λ_=>this⟩
 unfold dot
 have:=k n.x;have:=k n.y;have:=k n.z
 by_cases hx:n.x=0
 ·by_cases hy:n.y=0
  ·by_cases hz:n.z=0
   ·exact absurd (Qjba hx hy hz) h
   ·have:=(k n.z).2 hz;omega
  ·have:=(k n.y).2 hy;omega
 ·have:=(k n.x).2 hx;omega
theorem nc8{c:List Pln}(h:(chk c==0)=true):∀p∈c++ws,okp p=true:=λp hp=>by
 rw[beq_iff_eq,sc2] at h
 rcases Qjae.1 hp with hp|hp
 ·exact h.2 p hp
 ·exact se6 p hp
def Fv:V3:=⟨10000,100,1⟩
structure Crs(l:List V3)(p:Pln)(v:V3):Prop where
 h:∃u w,u∈l/\w∈l/\dot p.n u=p.b/\dot p.n w=p.b/\dot Fv w<dot Fv v/\dot Fv v<dot Fv u/\N3 v u w≠⟨0,0,0⟩
 on:dot p.n v=p.b
section
variable{l:List V3}(hl:l.all inV=true)
include hl
theorem vc2(hs:Sol l){p q:Pln}(hp:Ca6 l p)(hq:Ca6 l q){u w x:V3}(hu:u∈l)(hw:w∈l)(hx:x∈l)(h3:N3 u w x≠⟨0,0,0⟩)(p1:dot p.n u=p.b)(p2:dot p.n w=p.b)(p3:dot p.n x=p.b)(q1:dot q.n u=q.b)(q2:dot q.n w=q.b)(q3:dot q.n x=q.b):p=q:=by
 have hi:=Qja.1 hl;have hT:=(da4 (ua3 (hi u hu) (hi w hw) (hi x hx) h3)).2;have fl:∀{p:Pln},Ca6 l p->Ca6 l (Y8 p)->False:=λ{p} h h'=>by
  obtain⟨v,hv,hne⟩:=hs.off (Ya8 h.ok) p.b;have a:=h.hd v hv;have c:=h'.hd v hv;rw[tb4] at c;have c:-dot p.n v<=-p.b:=c;omega
 rcases tb6 hT hp.ok p1 p2 p3 with e|e<;>rcases tb6 hT hq.ok q1 q2 q3 with e'|e'
 ·rw[e,e']
 ·rw[e',<- e] at hq;exact (fl hp hq).elim
 ·rw[e,<- e'] at hp;exact (fl hq hp).elim
 ·rw[e,e']
end
theorem cd3{α β:Type}{R:α->β->Prop}{X:List α}{L:List β}(hX:X.Nodup)(h:∀q∈X,∃y∈L,R q y)(hi:∀q∈X,∀r∈X,∀y,R q y->R r y->q=r):X.length<=L.length:=by
 have h':∀q:{ q // q∈X },∃y,y∈L/\R q.1 y:=λq=>by
  obtain⟨y,h1,h2⟩:=h q.1 q.2;exact⟨y,h1,h2⟩
 obtain⟨f,hf⟩:=Classical.axiomOfChoice h';have hn:(X.attach.map f).Nodup:=by
  unfold List.Nodup;rw[List.pairwise_map];have hXa:X.attach.Nodup:=by
   unfold List.Nodup;have h0:(X.attach.map Subtype.val).Nodup:=by rw[List.attach_map_subtype_val];exact hX
   unfold List.Nodup at h0;rw[List.pairwise_map] at h0;exact h0.imp λhne e=>hne (by rw[e])
  refine List.Pairwise.imp (λ{a c} hne e=>hne (Subtype.ext (hi a.1 a.2 c.1 c.2 (f a) (hf a).2 (by rw[e];exact (hf c).2)))) hXa
 have:=List.Nodup.length_le_of_subset hn λy hy=>by
  obtain⟨q,_,rfl⟩:=Qjp.1 hy;exact (hf q).1
 simpa using this
theorem sa1{n N d:V3}(h:c8 n N=⟨0,0,0⟩):dot N N*dot n d=dot n N*dot N d:=by
 have e:dot N N*dot n d-dot n N*dot N d=dot (c8 n N) (c8 d N):=by simp only[dot,c8];grind
 rw[h] at e;have z:dot ⟨0,0,0⟩ (c8 d N)=0:=by simp[dot]
 rw[z] at e;exact Int.eq_of_sub_eq_zero e
theorem ua5{n a c:V3}(h1:dot n a=0)(h2:dot n c=0):c8 n (c8 a c)=⟨0,0,0⟩:=by
 refine Qjba ?_ ?_ ?_
 ·have:(c8 n (c8 a c)).x=a.x*dot n c-c.x*dot n a:=by simp only[c8,dot];grind
  rw[this,h1,h2];simp
 ·have:(c8 n (c8 a c)).y=a.y*dot n c-c.y*dot n a:=by simp only[c8,dot];grind
  rw[this,h1,h2];simp
 ·have:(c8 n (c8 a c)).z=a.z*dot n c-c.z*dot n a:=by simp only[c8,dot];grind
  rw[this,h1,h2];simp
theorem K7(n a c:V3):dot n (d9 a c)=dot n a-dot n c:=by simp only[dot,d9];grind
theorem Qc1 {l : List V3} (hl : l.all inV = true) {n u w x : V3} (hu : u ∈ l) (hw : w ∈ l) (hx : x ∈ l) (h3 : N3 u w x ≠ ⟨0, 0, 0⟩) (hle : ∀ v ∈ l, dot n v ≤ dot n u) (e1 : dot n w = dot n u) (e2 : dot n x = dot n u) (hoff : ∃ v ∈ l, dot n v ≠ dot n u) :
  ∃p,Ca6 l p/\dot p.n u=p.b/\dot p.n w=p.b/\dot p.n x=p.b:=by
 have hi:=Qja.1 hl;have hT:=(da4 (ua3 (hi u hu) (hi w hw) (hi x hx) h3)).2;obtain⟨s1,s2,s3⟩:=tc1 hT;have hT0:=hT;obtain⟨ok,⟨g,hg,g1,g2,g3'⟩,_⟩:=hT;generalize (A7 u w x).1=p at *
 have hN:dot (N3 u w x) (N3 u w x)>0:=ga9 h3;have hpar:c8 n (N3 u w x)=⟨0,0,0⟩:=by
  have a1:dot n (d9 w u)=0:=by rw[K7];omega
  have a2:dot n (d9 x u)=0:=by rw[K7];omega
  exact ua5 a1 a2
 have hd:∀v,dot (N3 u w x) (N3 u w x)*(dot n v-dot n u)=dot n (N3 u w x)*(g*(dot p.n v-p.b)):=λv=>by
  rw[<- K7,sa1 hpar,<- s1];congr 1
  have:g*(dot p.n v-dot p.n u)=(g*p.n.x)*(v.x-u.x)+(g*p.n.y)*(v.y-u.y)+(g*p.n.z)*(v.z-u.z):=by simp only[dot];grind
  rw[this,g1,g2,g3'];simp only[N3,dot,d9,c8,sub]
 rcases Int.lt_trichotomy (dot n (N3 u w x)) 0 with h|h|h
 ·refine⟨Y8 p,Pb1 hu hw hx hT0 λv hv=>?_,(Ea7 p u).2 s1,(Ea7 p w).2 s2,(Ea7 p x).2 s3⟩
  rw[tb4];show -dot p.n v<=-p.b;have k1:=hd v;have k2:dot (N3 u w x) (N3 u w x)*(dot n v-dot n u)<=0:=Qjs (by omega) (by have:=hle v hv;omega)
  apply Qjaf;intro hno
  have:=Qjau h (Int.mul_neg_of_pos_of_neg hg (show dot p.n v-p.b<0 by omega))
  omega
 ·exfalso;obtain⟨v,hv,hne⟩:=hoff;have k1:=hd v;rw[h,Qjah] at k1
  have:=(Qjg.1 k1).resolve_left (by omega)
  omega
 ·refine⟨p,jc0 hu hw hx hT0 λv hv=>?_,s1,s2,s3⟩
  have k1:=hd v;have k2:dot (N3 u w x) (N3 u w x)*(dot n v-dot n u)<=0:=Qjs (by omega) (by have:=hle v hv;omega)
  apply Qjaf;intro hno
  have:=Int.mul_pos h (Int.mul_pos hg (show 0<dot p.n v-p.b by omega))
  omega
structure Sim(l:List V3)(T:V3->V3):Prop where
 li:l.all inV=true
 mi:(l.map T).all inV=true
 dn:∀n:V3,∃n':V3,∃k:Int,0<k/\∀u∈l,∀w∈l,dot n' (T u)-dot n' (T w)=k*(dot n u-dot n w)
 up:∀n':V3,∃n:V3,∃k:Int,0<k/\∀u∈l,∀w∈l,dot n u-dot n w=k*(dot n' (T u)-dot n' (T w))
 n3:∀u∈l,∀w∈l,∀x∈l,N3 u w x≠⟨0,0,0⟩↔N3 (T u) (T w) (T x)≠⟨0,0,0⟩
theorem ld7{k x:Int}(hk:0<k)(h:x<=0):k*x<=0:=Qjs (by omega) h
theorem la2{k x:Int}(hk:0<k)(h:k*x=0):x=0:=(Qjg.1 h).resolve_left (by omega)
def Car(l:List V3)(T:V3->V3)(p q:Pln):Prop:=∃u w x,u∈l/\w∈l/\x∈l/\N3 u w x≠⟨0,0,0⟩/\(dot p.n u=p.b/\dot p.n w=p.b/\dot p.n x=p.b)/\dot q.n (T u)=q.b/\dot q.n (T w)=q.b/\dot q.n (T x)=q.b/\(∀v∈l,dot p.n v=p.b↔dot q.n (T v)=q.b)
section
variable{l:List V3}{T:V3->V3}(h:Sim l T)(hs:Sol l)(hs':Sol (l.map T))
include h hs hs'
theorem Sim.mem{v:V3}(hv:v∈l):T v∈l.map T:=Qjp.2 ⟨v,hv,rfl⟩
theorem Sim.down{q:Pln}(hq:q∈F0 (l.map T)):∃p∈F0 l,Car l T p q:=by
 have hf:=(A2 h.mi q).1 hq;obtain⟨u',w',x',hu',hw',hx',h3,t1,t2,t3⟩:=hf.on;obtain⟨u,hu,rfl⟩:=Qjp.1 hu';obtain⟨w,hw,rfl⟩:=Qjp.1 hw';obtain⟨x,hx,rfl⟩:=Qjp.1 hx';obtain⟨n,k,hk,hn⟩:=h.up q.n;have h3':=(h.n3 u hu w hw x hx).2 h3;have hle:∀v∈l,dot n v<=dot n u:=λv hv=>by
  have e:=hn v hv u hu
  have:=ld7 hk (show dot q.n (T v)-dot q.n (T u)<=0 by have:=hf.hd _ (Sim.mem h hs hs' hv);omega)
  omega
 have e1:dot n w=dot n u:=by
  have e:=hn w hw u hu;rw[t2,t1,Qjap,Qjn] at e;omega
 have e2:dot n x=dot n u:=by
  have e:=hn x hx u hu;rw[t3,t1,Qjap,Qjn] at e;omega
 have hoff:∃v∈l,dot n v≠dot n u:=by
  obtain⟨v',hv',hne⟩:=hs'.off (Ya8 hf.ok) q.b;obtain⟨v,hv,rfl⟩:=Qjp.1 hv';refine⟨v,hv,λe=>hne ?_⟩
  have e':=hn v hv u hu
  have:=la2 hk (show k*(dot q.n (T v)-dot q.n (T u))=0 by omega)
  omega
 obtain⟨p,hp,p1,p2,p3⟩:=Qc1 h.li hu hw hx h3' hle e1 e2 hoff;refine⟨p,(A2 h.li p).2 hp,u,w,x,hu,hw,hx,h3',⟨p1,p2,p3⟩,t1,t2,t3,λv hv=>?_⟩
 -- on p if and only if n is highest there
 have hT:=(da4 (ua3 (Qja.1 h.li u hu) (Qja.1 h.li w hw) (Qja.1 h.li x hx) h3')).2;have hN:dot (N3 u w x) (N3 u w x)>0:=ga9 h3';have c1:c8 n (N3 u w x)=⟨0,0,0⟩:=ua5 (by rw[K7];omega) (by rw[K7];omega)
 have c2:c8 p.n (N3 u w x)=⟨0,0,0⟩:=ua5 (by rw[K7];omega) (by rw[K7];omega)
 have d1:=sa1 (d:=d9 v u) c1;have d2:=sa1 (d:=d9 v u) c2;rw[K7] at d1 d2;have n1:dot n (N3 u w x)≠0:=λe=>by
  obtain⟨v0,hv0,hne⟩:=hoff;have d0:=sa1 (d:=d9 v0 u) c1;rw[K7,e,Qjah] at d0
  have:=la2 hN d0
  omega
 have n2:dot p.n (N3 u w x)≠0:=λe=>by
  obtain⟨v0,hv0,hne⟩:=hs.off (Ya8 hp.ok) p.b;have d0:=sa1 (d:=d9 v0 u) c2;rw[K7,e,Qjah] at d0
  have:=la2 hN d0
  omega
 have e':=hn v hv u hu;constructor
 ·intro hv';rw[show dot p.n v-dot p.n u=0 by omega,Qjn] at d2
  have z:=(Qjg.1 d2.symm).resolve_left n2;rw[z,Qjn] at d1
  have:=la2 hN d1
  have:=la2 hk (show k*(dot q.n (T v)-dot q.n (T u))=0 by omega)
  omega
 ·intro hv';rw[hv',t1,Qjap,Qjn] at e';rw[e',Qjn] at d1;have z:=(Qjg.1 d1.symm).resolve_left n1;rw[z,Qjn] at d2
  have:=la2 hN d2
  omega
theorem Sim.img{p p':Pln}(hp:p∈F0 l)(ok:okp p'=true)(hd:∀v∈l,dot p'.n (T v)<=p'.b)(on:∀v∈l,dot p.n v=p.b->dot p'.n (T v)=p'.b):p'∈F0 (l.map T):=by
 have hf:=(A2 h.li p).1 hp;obtain⟨u,w,x,hu,hw,hx,h3,t1,t2,t3⟩:=hf.on;refine (A2 h.mi p').2 ⟨⟨λv' hv'=>?_,T u,T w,T x,Sim.mem h hs hs' hu,Sim.mem h hs hs' hw,Sim.mem h hs hs' hx,(h.n3 u hu w hw x hx).1 h3,on u hu t1,on w hw t2,on x hx t3⟩,ok⟩
 obtain⟨v,hv,rfl⟩:=Qjp.1 hv';exact hd v hv
theorem Sim.upf{p:Pln}(hp:p∈F0 l):∃q∈F0 (l.map T),Car l T p q:=by
 have hf:=(A2 h.li p).1 hp;obtain⟨u,w,x,hu,hw,hx,h3,t1,t2,t3⟩:=hf.on;obtain⟨n,k,hk,hn⟩:=h.dn p.n;have h3':=(h.n3 u hu w hw x hx).1 h3;obtain⟨q,hq,q1,q2,q3⟩:=Qc1 (n:=n) h.mi (Sim.mem h hs hs' hu) (Sim.mem h hs hs' hw) (Sim.mem h hs hs' hx) h3' (λv' hv'=>by
  obtain⟨v,hv,rfl⟩:=Qjp.1 hv';have e:=hn v hv u hu
  have:=ld7 hk (show dot p.n v-dot p.n u<=0 by have:=hf.hd v hv;omega)
  omega) (by
  have e:=hn w hw u hu;rw[t2,t1,Qjap,Qjn] at e
  omega) (by
  have e:=hn x hx u hu;rw[t3,t1,Qjap,Qjn] at e
  omega) (by
  obtain⟨v,hv,hne⟩:=hs.off (Ya8 hf.ok) p.b;refine⟨T v,Sim.mem h hs hs' hv,λe=>hne ?_⟩
  have e':=hn v hv u hu
  have:=la2 hk (show k*(dot p.n v-dot p.n u)=0 by omega)
  omega)
 obtain⟨p2,hp2,u',w',x',hu',hw',hx',h3'',on2,r1,r2,r3,hall⟩:=Sim.down h hs hs' ((A2 h.mi q).2 hq);have e:p2=p:=vc2 h.li hs ((A2 h.li p2).1 hp2) hf hu hw hx h3 ((hall u hu).2 q1) ((hall w hw).2 q2) ((hall x hx).2 q3) t1 t2 t3;subst e;exact⟨q,(A2 h.mi q).2 hq,u',w',x',hu',hw',hx',h3'',on2,r1,r2,r3,hall⟩
theorem Sim.len:(F0 (l.map T)).length=(F0 l).length:=by
 refine Nat.le_antisymm ?_ ?_
 ·refine cd3 (R:=λq p=>Car l T p q) (Xb0 (tb5 _)) (λq hq=>Sim.down h hs hs' hq) λq hq r hr p h1 h2=>?_
  obtain⟨u,w,x,hu,hw,hx,h3,⟨p1,p2,p3⟩,q1,q2,q3,_⟩:=h1;obtain⟨_,_,_,_,_,_,_,_,_,_,_,hall⟩:=h2;exact vc2 h.mi hs' ((A2 h.mi q).1 hq) ((A2 h.mi r).1 hr) (Sim.mem h hs hs' hu) (Sim.mem h hs hs' hw) (Sim.mem h hs hs' hx) ((h.n3 u hu w hw x hx).1 h3) q1 q2 q3 ((hall u hu).1 p1) ((hall w hw).1 p2) ((hall x hx).1 p3)
 ·refine cd3 (R:=λp q=>Car l T p q) (Xb0 (tb5 _)) (λp hp=>Sim.upf h hs hs' hp) λp hp r hr q h1 h2=>?_
  obtain⟨u,w,x,hu,hw,hx,h3,⟨p1,p2,p3⟩,q1,q2,q3,_⟩:=h1;obtain⟨_,_,_,_,_,_,_,_,_,_,_,hall⟩:=h2;exact vc2 h.li hs ((A2 h.li p).1 hp) ((A2 h.li r).1 hr) hu hw hx h3 p1 p2 p3 ((hall u hu).2 q1) ((hall w hw).2 q2) ((hall x hx).2 q3)
end
theorem He2(O:List V3)(v:V3):app (bL tV O) [[i v.x,i v.y,i v.z]]=bL tV (O++[v]):=Ra1 tV O [v]
def rch(n e:V3):Int:=(n.x.natAbs:Int)*e.x+(n.y.natAbs:Int)*e.y+(n.z.natAbs:Int)*e.z
def pq(e:V3)(s:Int)(p:Pln):Pln:=⟨p.n,p.b+s*rch p.n e⟩
def okq(e:V3)(s:Int)(p:Pln):Bool:=okp p&&smb 2097152 (p.b+s*rch p.n e)
structure B12(e:V3):Prop where
 x1:0<=e.x
 x2:e.x<=12
 y1:0<=e.y
 y2:e.y<=12
 z1:0<=e.z
 z2:e.z<=12
section
variable(c:List Pln)(e:V3)(s:Int)
structure PI(j:Nat)(o:List Pln):Prop where
 le:j<=c.length
 o:o=(c.take j).map (pq e s)
 a:(c.take j).all (okq e s)=true
end
section
variable(c:List Pln)(e:V3)(hc:c.length<=1000000)
include hc
end
theorem Ia9:∀(l r:List V3),l.Pairwise LtV->r.Pairwise LtV->(∀v,v∈l↔v∈r)->l=r
 |[],[],_,_,_=>rfl
 |[],y::r,_,_,h=>absurd ((h y).2 (Qjl ..)) (by simp)
 |x::l,[],_,_,h=>absurd ((h x).1 (Qjl ..)) (by simp)
 |x::l,y::r,h1,h2,h=>by
  obtain⟨a1,a2⟩:=Qjy.1 h1;obtain⟨b1,b2⟩:=Qjy.1 h2;have e:x=y:=by
   rcases Qjk.1 ((h x).1 (Qjl ..)) with e|hx
   ·exact e
   ·rcases Qjk.1 ((h y).2 (Qjl ..)) with e|hy
    ·exact e.symm
    ·exact absurd (Xb3 (b1 x hx) (a1 y hy)) (Pb2 y)
  subst e
  have:l=r:=Ia9 l r a2 b2 λv=>by
   have hv:=h v;simp only[Qjk] at hv;constructor
   ·intro hm
    rcases hv.1 (.inr hm) with e|h'
    ·subst e;exact absurd (a1 v hm) (Pb2 v)
    ·exact h'
   ·intro hm
    rcases hv.2 (.inr hm) with e|h'
    ·subst e;exact absurd (b1 v hm) (Pb2 v)
    ·exact h'
  rw[this]
theorem vc3{n:Nat}(h:n<=1000000000000):Nat.ble (n*24) room=true:=by
 rw[Qjao];unfold room;omega
theorem cd4(l:List V3)(n:Nat)(h:n<=l.length):o5 (λk=>(λk=>tV.row (gL tV l k)) (0+k)) (List.range (n-0))=bL tV (l.take n):=by
 rw[<- Kb2,k9,k9,Qjc,Nat.min_eq_left h,Nat.sub_zero];apply List.map_congr_left;intro k hk;rw[Qji] at hk;show tV.row (gL tV l (0+k))=tV.row (gL tV (l.take n) k);congr 1;simp[gL,Qjr,Qjar,hk]
theorem cd5(l:List V3)(n:Nat):o5 (λk=>(λk=>tV.row (gL tV l k)) (n+k)) (List.range (l.length-n))=bL tV (l.drop n):=by
 rw[<- Kb2,k9,k9,Qjak];apply List.map_congr_left;intro k hk;show tV.row (gL tV l (n+k))=tV.row (gL tV (l.drop n) k);rw[Nc6]
noncomputable def nrm(F:List Pln)(v:V3):List V3:=(own F v).map λp=>p.n
def N46(n:V3):Prop:=Sm 4608 n.x/\Sm 4608 n.y/\Sm 4608 n.z
section
variable(N:List V3)(hN:∀n∈N,N46 n)(hl:N.length<=1000000)
include hN hl
end
end Go.Ev.Ce
