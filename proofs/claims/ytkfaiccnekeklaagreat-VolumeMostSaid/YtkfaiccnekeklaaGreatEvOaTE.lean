/- Own work. -/
import Derived.Test.YtkfaiccnekeklaaGreatEvJ1
set_option linter.all false
def Qja:=@List.all_eq_true
def Qjb:=@List.any_eq_true
def Qjc:=@List.length_append
def Qjd:=@List.length_take
def Qje:=@Nat.lt_irrefl
def Qjf:=@Nat.zero_add
def Qjg:=@List.mem_map
def Qjh:=@Int.mul_eq_zero
def Qji:=@Bool.false_eq_true
def Qjj:=@List.mem_cons_self
def Qjk:=@List.mem_cons
def Qjl:=@List.mem_filter
def Qjm:=@Nat.zero_le
def Qjn:=@List.mem_range
def Qjo:=@Classical.byContradiction
def Qjp:=@Nat.le_refl
def Qjq:=@Int.mul_zero
def Qjr:=@List.drop_zero
def Qjs:=@List.append_nil
def Qjt:=@Int.mul_nonpos_of_nonneg_of_nonpos
def Qju:=@List.mem_iff_getElem
def Qjv:=@Bool.and_eq_true
def Qjw:=@List.filter_cons
def Qjx:=@Bool.and_true
def Qjy:=@List.length_set
def Qjz:=@List.pairwise_cons
def Qjaa:=@List.mem_append
def Qjab:=@List.filter_append
def Qjac:=@Int.mul_le_mul_of_nonneg_left
def Qjad:=@List.take_append_of_le_length
def Qjae:=@Nat.beq_refl
def Qjaf:=@List.findIdx_getElem
def Qjag:=@List.getD_eq_getElem?_getD
def Qjah:=@Nat.lt_or_gt_of_ne
def Qjai:=@Int.zero_mul
def Qjaj:=@Bool.and_self
def Qjak:=@List.take_succ_eq_append_getElem
def Qjal:=@Bool.not_eq_true
def Qjam:=@List.findIdx_lt_length_of_exists
def Qjan:=@List.length_filter_le
def Qjao:=@Int.sub_self
def Qjap:=@List.mem_singleton
def Qjaq:=@List.drop_eq_getElem_cons
def Qjar:=@Nat.ble_eq
def Qjas:=@Int.mul_pos_of_neg_of_neg
def Qjat:=@List.length_drop
def Qjau:=@Int.zero_add
def Qjav:=@List.drop_eq_nil_of_le
def Qjaw:=@Int.le_refl
def Qjax:=@Int.mul_nonneg
def Qjay:=@List.getElem_set_self
def Qjaz:=@List.take_take
def Qjba:=@List.length_replicate
def Qjbb:=@Go.Ev.Ce.V3.ext'
namespace Go.Ev.Ce
open Go Go.Ev Go.Ev.L Go.Proofs
theorem Be6{l:List V3}(hf:nf0 l=true):Sol l:=(Se5 hf).h
theorem zd2{v:V3}(h:g3 v=0):v=⟨0,0,0⟩:=by
 unfold g3 at h;have h:Nat.gcd (Nat.gcd v.x.natAbs v.y.natAbs) v.z.natAbs=0:=by omega
 rw[Nat.gcd_eq_zero_iff,Nat.gcd_eq_zero_iff] at h;exact Qjbb (by show v.x=0;omega) (by show v.y=0;omega) (by show v.z=0;omega)
theorem ra0{a c k:V3}(ha:inV a=true)(hc:inV c=true)(hk:inV k=true)(h:N3 a c k≠⟨0,0,0⟩):(B9 a c k).2=true:=by
 unfold B9;rw[ha,hc,hk];simp only[Qjaj,if_true];rw[if_neg (λh0=>h (zd2 h0):¬ g3 (c7 (sub c a) (sub k a))=0)]
theorem Mc0{a c k:V3}{p:Pln}(h:Thr a c k p):N3 a c k≠⟨0,0,0⟩:=λe=>by
 obtain⟨ok,⟨g,hg,e1,e2,e3⟩,_⟩:=h;have e':c7 (sub c a) (sub k a)=⟨0,0,0⟩:=e;rw[e'] at e1 e2 e3;have z:∀{x:Int},g*x=0->x=0:=λh=>(Qjh.1 h).resolve_left (by omega)
 exact Xa0 ok (Qjbb (z e1) (z e2) (z e3))
theorem cc8{a c k:V3}{p:Pln}(h:Thr a c k p):dot p.n a=p.b/\dot p.n c=p.b/\dot p.n k=p.b:=by
 obtain⟨ok,⟨g,hg,e1,e2,e3⟩,o⟩:=h;have z:∀{x y:Int},g*(x-y)=0->x=y:=λh=>by have:=(Qjh.1 h).resolve_left (by omega);omega
 refine⟨o.symm,?_,?_⟩
 ·rw[o];apply z
  have:g*(dot p.n c-dot p.n a)=(g*p.n.x)*(c.x-a.x)+(g*p.n.y)*(c.y-a.y)+(g*p.n.z)*(c.z-a.z):=by simp only[dot];grind
  rw[this,e1,e2,e3];simp only[c7,sub];grind
 ·rw[o];apply z
  have:g*(dot p.n k-dot p.n a)=(g*p.n.x)*(k.x-a.x)+(g*p.n.y)*(k.y-a.y)+(g*p.n.z)*(k.z-a.z):=by simp only[dot];grind
  rw[this,e1,e2,e3];simp only[c7,sub];grind
theorem Ha5(p:Pln)(v:V3):dot (N8 p).n v=(N8 p).b↔dot p.n v=p.b:=by
 rw[ib4];show -dot p.n v=-p.b↔_;omega
theorem wb7{a c k:V3}{p q:Pln}(h:Thr a c k q)(hp:okp p=true)(t1:dot p.n a=p.b)(t2:dot p.n c=p.b)(t3:dot p.n k=p.b):p=q\/p=N8 q:=by
 obtain⟨s1,s2,s3⟩:=cc8 h;obtain⟨ok,⟨g,hg,e1,e2,e3⟩,o⟩:=h;have d1:dot p.n (sub c a)=0:=by simp only[dot,sub] at *;grind
 have d2:dot p.n (sub k a)=0:=by simp only[dot,sub] at *;grind
 have hc:c7 q.n p.n=⟨0,0,0⟩:=by
  have z:∀{x:Int},g*x=0->x=0:=λh=>(Qjh.1 h).resolve_left (by omega)
  generalize sub c a=u at *
  generalize sub k a=w at *
  refine Qjbb (z ?_) (z ?_) (z ?_)
  ·have:g*(c7 q.n p.n).x=(g*q.n.y)*p.n.z-(g*q.n.z)*p.n.y:=by simp only[c7];grind
   rw[this,e2,e3]
   have:(c7 u w).y*p.n.z-(c7 u w).z*p.n.y=w.x*dot p.n u-u.x*dot p.n w:=by simp only[c7,dot];grind
   rw[this,d1,d2];simp
  ·have:g*(c7 q.n p.n).y=(g*q.n.z)*p.n.x-(g*q.n.x)*p.n.z:=by simp only[c7];grind
   rw[this,e1,e3]
   have:(c7 u w).z*p.n.x-(c7 u w).x*p.n.z=w.y*dot p.n u-u.y*dot p.n w:=by simp only[c7,dot];grind
   rw[this,d1,d2];simp
  ·have:g*(c7 q.n p.n).z=(g*q.n.x)*p.n.y-(g*q.n.y)*p.n.x:=by simp only[c7];grind
   rw[this,e1,e2]
   have:(c7 u w).x*p.n.y-(c7 u w).y*p.n.x=w.z*dot p.n u-u.z*dot p.n w:=by simp only[c7,dot];grind
   rw[this,d1,d2];simp
 obtain⟨pn,pb⟩:=p;obtain⟨qn,qb⟩:=q
 rcases Sb9 (Kb0 ok) (Kb0 hp) hc with e|e
 ·left
  simp only at e o t1 s1 t2 t3
  subst e;rw[<- t1,s1]
 ·right
  simp only at e o t1 s1 t2 t3
  subst e;rw[<- t1];simp only[dot,neg,N8] at s1 ⊢;simp only[Pln.mk.injEq,true_and]
  grind
structure Da7(l:List V3)(p:Pln):Prop extends Fac l p.n p.b where
 ok:okp p=true
theorem Tb2{l:List V3}{p:Pln}{u w x:V3}(hu:u∈l)(hw:w∈l)(hx:x∈l)(h:Thr u w x p)(hh:∀v∈l,dot (N8 p).n v<=(N8 p).b):Da7 l (N8 p):=by
 obtain⟨s1,s2,s3⟩:=cc8 h;exact⟨⟨hh,u,w,x,hu,hw,hx,Mc0 h,(Ha5 p u).2 s1,(Ha5 p w).2 s2,(Ha5 p x).2 s3⟩,wb6 h.ok⟩
theorem pc1{l:List V3}{p:Pln}{u w x:V3}(hu:u∈l)(hw:w∈l)(hx:x∈l)(h:Thr u w x p)(hh:∀v∈l,dot p.n v<=p.b):Da7 l p:=by
 obtain⟨s1,s2,s3⟩:=cc8 h;exact⟨⟨hh,u,w,x,hu,hw,hx,Mc0 h,s1,s2,s3⟩,h.ok⟩
theorem Vd6{u w x:V3}(h:N3 u w x≠⟨0,0,0⟩):N3 w u x≠⟨0,0,0⟩/\N3 u x w≠⟨0,0,0⟩/\N3 x w u≠⟨0,0,0⟩/\N3 w x u≠⟨0,0,0⟩/\N3 x u w≠⟨0,0,0⟩:=by
 have e1:N3 w u x=neg (N3 u w x):=Qjbb (by simp only[N3,c7,c9,neg];grind) (by simp only[N3,c7,c9,neg];grind) (by simp only[N3,c7,c9,neg];grind)
 have e2:N3 u x w=neg (N3 u w x):=Qjbb (by simp only[N3,c7,c9,neg];grind) (by simp only[N3,c7,c9,neg];grind) (by simp only[N3,c7,c9,neg];grind)
 have e3:N3 x w u=neg (N3 u w x):=Qjbb (by simp only[N3,c7,c9,neg];grind) (by simp only[N3,c7,c9,neg];grind) (by simp only[N3,c7,c9,neg];grind)
 have e4:N3 w x u=N3 u w x:=Qjbb (by simp only[N3,c7,c9];grind) (by simp only[N3,c7,c9];grind) (by simp only[N3,c7,c9];grind)
 have e5:N3 x u w=N3 u w x:=Qjbb (by simp only[N3,c7,c9];grind) (by simp only[N3,c7,c9];grind) (by simp only[N3,c7,c9];grind)
 rw[e1,e2,e3,e4,e5];exact⟨Uc3 h,Uc3 h,Uc3 h,h,h⟩
theorem Ke6{u w x:V3}(h:N3 u w x≠⟨0,0,0⟩):u≠w/\u≠x/\w≠x:=by
 refine⟨λe=>h ?_,λe=>h ?_,λe=>h ?_⟩<;>subst e<;>refine Qjbb ?_ ?_ ?_<;>simp only[N3,c7,c9]<;>grind
theorem le2 {l : List V3} {u w x : V3} (hu : u ∈ l) (hw : w ∈ l) (hx : x ∈ l) (h : N3 u w x ≠ ⟨0, 0, 0⟩) :
  ∃a,a<l.length/\∃c,c<a/\∃k,k<c/\N3 (gL tV l a) (gL tV l c) (gL tV l k)≠⟨0,0,0⟩/\∀f:V3->Prop,f u->f w->f x->f (gL tV l a)/\f (gL tV l c)/\f (gL tV l k):=by
 obtain⟨i,hi,rfl⟩:=Qju.1 hu;obtain⟨j,hj,rfl⟩:=Qju.1 hw;obtain⟨k,hk,rfl⟩:=Qju.1 hx;obtain⟨n1,n2,n3⟩:=Ke6 h;obtain⟨s1,s2,s3,s4,s5⟩:=Vd6 h;have d1:i≠j:=λe=>n1 (by subst e;rfl)
 have d2:i≠k:=λe=>n2 (by subst e;rfl)
 have d3:j≠k:=λe=>n3 (by subst e;rfl)
 rw[<- pb0 tV hi,<- pb0 tV hj,<- pb0 tV hk] at *
 rcases Qjah d1 with h1|h1<;>rcases Qjah d2 with h2|h2<;>rcases Qjah d3 with h3|h3
 ·exact⟨k,hk,j,h3,i,h1,s3,λf a b c=>⟨c,b,a⟩⟩
 ·exact⟨j,hj,k,h3,i,h2,s4,λf a b c=>⟨b,c,a⟩⟩
 ·omega
 ·exact⟨j,hj,i,h1,k,h2,s1,λf a b c=>⟨b,a,c⟩⟩
 ·exact⟨k,hk,i,h2,j,h1,s5,λf a b c=>⟨c,a,b⟩⟩
 ·omega
 ·exact⟨i,hi,k,h2,j,h3,s2,λf a b c=>⟨a,c,b⟩⟩
 ·exact⟨i,hi,j,h1,k,h3,h,λf a b c=>⟨a,b,c⟩⟩
theorem C4{l:List V3}(hl:l.all inV=true)(p:Pln):p∈F0 l↔Da7 l p:=by
 have hin:=Qja.1 hl;constructor
 ·intro hp;obtain⟨a,ha,c,hc,k,hk,h1,h2⟩:=(rd7 l p).1 hp;have ma:=gLm ha;have mc:=gLm (show c<l.length by omega)
  have mk:=gLm (show k<l.length by omega)
  have ht:=(ba6 h1).2
  rcases h2 with⟨rfl,h3⟩|⟨rfl,h3⟩
  ·exact pc1 ma mc mk ht ((ib3 ht.ok hl).1 h3)
  ·exact Tb2 ma mc mk ht ((ib3 (wb6 ht.ok) hl).1 h3)
 ·intro h;obtain⟨u,w,x,hu,hw,hx,h3,t1,t2,t3⟩:=h.on;obtain⟨a,ha,c,hc,k,hk,hn,hall⟩:=le2 hu hw hx h3;obtain⟨i1,i2,i3⟩:=hall (λv=>inV v=true) (hin u hu) (hin w hw) (hin x hx)
  obtain⟨e1,e2,e3⟩:=hall (λv=>dot p.n v=p.b) t1 t2 t3
  have h2:=ra0 i1 i2 i3 hn;refine (rd7 l p).2 ⟨a,ha,c,hc,k,hk,h2,?_⟩;have hh:=(ib3 h.ok hl).2 h.hd
  rcases wb7 (ba6 h2).2 h.ok e1 e2 e3 with e|e
  ·exact .inl ⟨e,hh⟩
  ·exact .inr ⟨e,hh⟩
theorem zd3{n:V3}(h:n≠⟨0,0,0⟩):0<dot n n:=by
 have sq:∀a:Int,0<=a*a:=λa=>by
  by_cases h:0<=a
  ·exact Qjax h h
  ·have:=Qjax (show 0<=-a by omega) (show 0<=-a by omega)
   rw[Int.neg_mul_neg] at this;exact this
 have z:∀{a:Int},a*a=0->a=0:=λh=>(Qjh.1 h).elim id id
 have s1:=sq n.x;have s2:=sq n.y;have s3:=sq n.z;by_cases h0:0<dot n n
 ·exact h0
 ·exfalso;simp only[dot] at h0;exact h (Qjbb (z (by omega)) (z (by omega)) (z (by omega)))
theorem Uc5{l:List V3}(hl:l.all inV=true){c:List Pln}(hc:∀p,Da7 l p->p∈c):Be5 l c:=λn b hn hf=>by
 have hin:=Qja.1 hl;obtain⟨u,w,x,hu,hw,hx,h3,t1,t2,t3⟩:=hf.on;have h2:=ra0 (hin u hu) (hin w hw) (hin x hx) h3;have ht:=(ba6 h2).2;generalize (B9 u w x).1=q at ht;obtain⟨s1,s2,s3⟩:=cc8 ht;have hnn:=zd3 hn;have d1:dot n (c9 w u)=0:=by simp only[dot,c9] at *;grind
 have d2:dot n (c9 x u)=0:=by simp only[dot,c9] at *;grind
 -- the normals are parallel
 have par:dot n n*q.n.x=dot q.n n*n.x/\dot n n*q.n.y=dot q.n n*n.y/\dot n n*q.n.z=dot q.n n*n.z:=by
  obtain⟨ok,⟨g,hg,e1,e2,e3⟩,o⟩:=ht;have z:∀{x y:Int},g*(x-y)=0->x=y:=λh=>by have:=(Qjh.1 h).resolve_left (by omega);omega
  have eg:g*dot q.n n=(c7 (c9 w u) (c9 x u)).x*n.x+(c7 (c9 w u) (c9 x u)).y*n.y+(c7 (c9 w u) (c9 x u)).z*n.z:=by
   have:g*dot q.n n=(g*q.n.x)*n.x+(g*q.n.y)*n.y+(g*q.n.z)*n.z:=by simp only[dot];grind
   rw[this,e1,e2,e3];rfl
  have e1:g*q.n.x=(c7 (c9 w u) (c9 x u)).x:=e1;have e2:g*q.n.y=(c7 (c9 w u) (c9 x u)).y:=e2;have e3:g*q.n.z=(c7 (c9 w u) (c9 x u)).z:=e3;generalize c9 w u=p at *
  generalize c9 x u=r at *
  refine⟨z ?_,z ?_,z ?_⟩
  ·have:g*(dot n n*q.n.x-dot q.n n*n.x)=dot n n*(g*q.n.x)-(g*dot q.n n)*n.x:=by grind
   rw[this,e1,eg]
   have:dot n n*(c7 p r).x-((c7 p r).x*n.x+(c7 p r).y*n.y+(c7 p r).z*n.z)*n.x=(n.y*r.z-n.z*r.y)*dot n p-(n.y*p.z-n.z*p.y)*dot n r:=by simp only[dot,c7];grind
   rw[this,d1,d2];simp
  ·have:g*(dot n n*q.n.y-dot q.n n*n.y)=dot n n*(g*q.n.y)-(g*dot q.n n)*n.y:=by grind
   rw[this,e2,eg]
   have:dot n n*(c7 p r).y-((c7 p r).x*n.x+(c7 p r).y*n.y+(c7 p r).z*n.z)*n.y=(n.z*r.x-n.x*r.z)*dot n p-(n.z*p.x-n.x*p.z)*dot n r:=by simp only[dot,c7];grind
   rw[this,d1,d2];simp
  ·have:g*(dot n n*q.n.z-dot q.n n*n.z)=dot n n*(g*q.n.z)-(g*dot q.n n)*n.z:=by grind
   rw[this,e3,eg]
   have:dot n n*(c7 p r).z-((c7 p r).x*n.x+(c7 p r).y*n.y+(c7 p r).z*n.z)*n.z=(n.x*r.y-n.y*r.x)*dot n p-(n.x*p.y-n.y*p.x)*dot n r:=by simp only[dot,c7];grind
   rw[this,d1,d2];simp
 have fin:∀r:Pln,Thr u w x q->(r=q\/r=N8 q)->0<dot r.n n->(dot n n*r.n.x=dot r.n n*n.x/\dot n n*r.n.y=dot r.n n*n.y/\dot n n*r.n.z=dot r.n n*n.z)->∃s t:Int,0<s/\0<t/\∃q∈c,t*q.n.x=s*n.x/\t*q.n.y=s*n.y/\t*q.n.z=s*n.z/\t*q.b=s*b:=λr ht hr hp ⟨p1,p2,p3⟩=>by
  have hru:dot r.n u=r.b:=by
   rcases hr with rfl|rfl
   ·exact s1
   ·exact (Ha5 q u).2 s1
  have ed:∀v,dot n n*dot r.n v=dot r.n n*dot n v:=λv=>by
   have:dot n n*dot r.n v=(dot n n*r.n.x)*v.x+(dot n n*r.n.y)*v.y+(dot n n*r.n.z)*v.z:=by
    generalize dot n n=t;simp only[dot];grind
   rw[this,p1,p2,p3];generalize dot r.n n=s;simp only[dot];grind
  have eb:dot n n*r.b=dot r.n n*b:=by rw[<- hru,ed,t1]
  have hd:∀v∈l,dot r.n v<=r.b:=λv hv=>by
   have h1:=Qjac (hf.hd v hv) (Int.le_of_lt hp);rw[<- ed,<- eb] at h1;exact Int.le_of_mul_le_mul_left h1 hnn
  have hF:Da7 l r:=by
   rcases hr with rfl|rfl
   ·exact pc1 hu hw hx ht hd
   ·exact Tb2 hu hw hx ht hd
  exact⟨dot r.n n,dot n n,hp,hnn,r,hc r hF,p1,p2,p3,eb⟩
 by_cases h0:0<dot q.n n
 ·exact fin q ht (.inl rfl) h0 par
 ·refine fin (N8 q) ht (.inr rfl) ?_ ?_
  ·rw[ib4]
   have:dot q.n n≠0:=λe=>by
    obtain⟨p1,p2,p3⟩:=par;rw[e] at p1 p2 p3;simp only[Qjai] at p1 p2 p3;have z:∀{x:Int},dot n n*x=0->x=0:=λh=>(Qjh.1 h).resolve_left (by omega)
    exact Xa0 ht.ok (Qjbb (z p1) (z p2) (z p3))
   omega
  ·rw[ib4];obtain⟨p1,p2,p3⟩:=par;show dot n n*-q.n.x=_/\dot n n*-q.n.y=_/\dot n n*-q.n.z=_;rw[Int.mul_neg,Int.mul_neg,Int.mul_neg,p1,p2,p3,Int.neg_mul,Int.neg_mul,Int.neg_mul];exact⟨rfl,rfl,rfl⟩
end Go.Ev.Ce
namespace Go.Ev.Ce
open Go Go.Ev Go.Ev.L Go.Proofs Go.Sort
def eqV(x y:V3):Bool:=x.x==y.x&&(x.y==y.y&&(x.z==y.z&&true))
theorem Ja9(x y:V3):eqV x y=true↔x=y:=by
 unfold eqV;simp only[Qjx,Qjv,beq_iff_eq];refine⟨λ⟨h1,h2,h3⟩=>Qjbb h1 h2 h3,λh=>by subst h;exact⟨rfl,rfl,rfl⟩⟩
theorem zc5{l:List V3}{j:Nat}(h:j<l.length):ldR tV (bL tV l) (0+j)=true:=by rw[Qjf];exact od5 tV h
theorem cc9{l:List V3}{j:Nat}(h:j<l.length):rdR tV (bL tV l) (0+j)=gL tV l j:=by rw[Qjf];exact od4 tV h
theorem hd7(l:List V3)(n:Nat):G7 (bL tV l) n=bL tV (l.take n):=by unfold bL;rw[H8,n4,n4,List.map_take]
theorem zc6(l:List V3)(n:Nat):i6 (bL tV l) n=bL tV (l.drop n):=by unfold bL;rw[E7,n4,n4,List.map_drop]
theorem hd8(n:Nat):List.replicate n [i 0,i 0,i 0]=bL tV (List.replicate n ⟨0,0,0⟩):=by unfold bL;rw[n4,List.map_replicate];rfl
def dvF:V3->List V3->List V3
 |_,[]=>[]
 |a,x::l=>if eqV x a then dvF x l else x::dvF x l
def ddV:List V3->List V3
 |[]=>[]
 |x::l=>x::dvF x l
structure Vd7(l:List V3)(n:Nat)(cur:List V3)(m j:Nat)(R:List V3):Prop where
 len:cur.length=l.length
 t:cur.take m++dvF (gL tV l (j-1)) ((l.take n).drop j)=R
 d:cur.drop (j-1)=l.drop (j-1)
 le:m+1<=j
theorem Gc4 (l : List V3) (n o : Nat) (hn : n ≤ l.length) (hl : l.length ≤ 1000000000) (ho : o < n) (m : Nat) (cur : List V3) (R : List V3) (hd : Vd7 l n cur m (o + 1) R) :
  ∃t s,lp (r5 ⟨n,0+o,n-o⟩) ⟨(m:Int),((1:Nat):Int),bL tV cur⟩=(t,s)/\(t=1/\∃m' cur' k,s=⟨((m':Nat):Int),k,bL tV cur'⟩/\cur'.length=l.length/\cur'.take m'=R/\m'<=n):=by
 refine P6 (step:=r5 ⟨n,0+o,n-o⟩) (mk:=λj (x:Nat×List V3)=>(⟨(x.1:Int),(j:Int),bL tV x.2⟩:o6)) (n-o) (λj x=>Vd7 l n x.2 x.1 (o+j) R/\1<=j/\x.1<=n) (λt s=>t=1/\∃m' cur' k,s=⟨((m':Nat):Int),k,bL tV cur'⟩/\cur'.length=l.length/\cur'.take m'=R/\m'<=n) (by omega) (λj x hj hx=>?_) (λj x hj hx=>?_) 1 (m,cur) ⟨hd,Qjp _,by have:=hd.le;show m<=n;omega⟩
 ·obtain⟨m,cur⟩:=x;obtain⟨⟨h1,h2,h3,h4⟩,hj1,hmn⟩:=hx
  simp only at h1 h2 h3 h4 hmn
  have hoj:o+j<n:=by omega
  have hjc:o+j<cur.length:=by omega
  have hjc':o+(j-1)<cur.length:=by omega
  have hmc:m<cur.length:=by omega
  have hg':gL tV cur (o+(j-1))=gL tV l (o+j-1):=by rw[show o+(j-1)=o+j-1 by omega];exact bc8 tV h3
  have hd1:cur.drop (o+j)=l.drop (o+j):=by have:=Sb2 h3 1;rw[show o+j-1+1=o+j by omega] at this;exact this
  have hg:gL tV cur (o+j)=gL tV l (o+j):=bc8 tV hd1;have hWm:W ((m:Int)+1)=((m+1:Nat):Int):=by rw[I6 (by omega) (by omega)];omega
  have hWj:W ((j:Int)-1)=((j-1:Nat):Int):=by rw[I6 (by omega) (by omega)];omega
  have hb:Nat.blt m cur.length=true:=by rw[Nat.blt_eq];exact hmc
  have hrow:i7 (bL tV cur) m=tV.row (gL tV cur m):=O4 tV hmc;have sp:∀(v:V3) (x1 x2 x3:Int),P1 (tV.row v) 0 [i x1,i x2,i x3]=tV.row ⟨x1,x2,x3⟩:=λ_ _ _ _=>rfl
  have rl:∀v:V3,Nat.ble 3 (len (tV.row v))=true:=λ_=>rfl
  simp only[r5,J9,Int.toNat_natCast,Qjf,hWj,od5 tV hjc,od5 tV hjc',od4 tV hjc,od4 tV hjc',D2 hj (show n-o<=4611686018427387904 by omega),hWm,hg,hg',hrow,Ba7,hb,sp,rl,Ka5,i9 (show m<n by omega)]
  rw[btD (r7 hj)];simp only[i9 hj,i9 (show j-1<n-o by omega),y7,Qjaj]
  rw[show ((gL tV l (o+j)).x==(gL tV l (o+j-1)).x&&((gL tV l (o+j)).y==(gL tV l (o+j-1)).y&&((gL tV l (o+j)).z==(gL tV l (o+j-1)).z&&true)))=eqV (gL tV l (o+j)) (gL tV l (o+j-1)) from rfl]
  have hcons:(l.take n).drop (o+j)=gL tV l (o+j)::(l.take n).drop (o+(j+1)):=by
   rw[Qjaq (by rw[Qjd];omega),List.getElem_take,pb0 tV (by omega)]
   rfl
  rw[hcons] at h2;have hlast:o+(j+1)-1=o+j:=by omega
  unfold dvF at h2;cases he:eqV (gL tV l (o+j)) (gL tV l (o+j-1)) with
  |true =>
   rw[he] at h2;simp only[if_true] at h2;refine .nx ⟨(m,cur),rfl,⟨⟨h1,?_,?_,by show m+1<=o+(j+1);omega⟩,by omega,hmn⟩⟩
   ·rw[hlast];exact h2
   ·rw[hlast];exact hd1
  |false =>
   rw[he] at h2;simp only[Qji,if_false] at h2;refine .nx ⟨(m+1,cur.set m (gL tV l (o+j))),rfl,⟨⟨by rw[Qjy];exact h1,?_,?_,by show m+1+1<=o+(j+1);omega⟩,by omega,by show m+1<=n;omega⟩⟩
   ·rw[hlast];show (cur.set m (gL tV l (o+j))).take (m+1)++_=R;rw[Qjak (by rw[Qjy];exact hmc),Qjay,List.take_set_of_le (Qjp _),List.append_assoc]
    exact h2
   ·rw[hlast];show (cur.set m (gL tV l (o+j))).drop (o+j)=_;rw[List.drop_set_of_lt (by omega),hd1]
 ·obtain⟨m,cur⟩:=x;obtain⟨⟨h1,h2,h3,h4⟩,hj1,hmn⟩:=hx
  simp only at h1 h2 h3 h4 hmn
  refine⟨1,?_,rfl,m,cur,_,rfl,h1,?_,hmn⟩
  ·simp only[r5,J9];rw[bfD (by omega)]
  ·rw[Qjav (by rw[Qjd];omega)] at h2
   unfold dvF at h2;rw[Qjs] at h2;exact h2
theorem hd9 (l : List V3) (n : Nat) (hn : n ≤ l.length) (hl : l.length ≤ 1000000000) :
  ∃m r,L3 ⟨n,bL tV l⟩=⟨1,m,bL tV r⟩/\m<=r.length/\r.take m=ddV (l.take n)/\r.length=l.length:=by
 unfold L3 L2
 simp only
 by_cases h2:(n:Int)<2
 ·rw[btD h2];refine⟨n,l,rfl,hn,?_,rfl⟩
  have:n=0\/n=1:=by omega
  rcases this with rfl|rfl
  ·rfl
  ·cases l with
   |nil=>rfl
   |cons x l=>rfl
 ·rw[bfD h2];have h1n:1<=n:=by omega
  have hI : ∀ j, j < n → 1 ≤ j → l.take j ++ dvF (gL tV l (j - 1)) ((l.take n).drop j) = ddV (l.take n) →
    (eqV (gL tV l j) (gL tV l (j-1))=true->Vd7 l n l j (j+1) (ddV (l.take n)))/\(eqV (gL tV l j) (gL tV l (j-1))=false->l.take (j+1)++dvF (gL tV l (j+1-1)) ((l.take n).drop (j+1))=ddV (l.take n)):=by
   intro j hj hj1 hR;have hcons:(l.take n).drop j=gL tV l j::(l.take n).drop (j+1):=by
    rw[Qjaq (by rw[Qjd];omega),List.getElem_take,pb0 tV (by omega)]
   rw[hcons] at hR;unfold dvF at hR;constructor
   ·intro he;rw[he] at hR;simp only[if_true] at hR;exact⟨rfl,hR,rfl,Qjp _⟩
   ·intro he;rw[he] at hR;simp only[Qji,if_false] at hR;rw[mb4 tV (show j<l.length by omega),List.append_assoc]
    exact hR
  have inner:∀k,k<n->1<=k->Vd7 l n l k (k+1) (ddV (l.take n))->∃m' cur' k',lp (r5 ⟨n,0+k,n-k⟩) ⟨(k:Int),1,bL tV l⟩=(1,⟨((m':Nat):Int),k',bL tV cur'⟩)/\cur'.length=l.length/\cur'.take m'=ddV (l.take n)/\m'<=n:=by
   intro k hk hk1 hc;obtain⟨t,s,e1,rfl,m',cur',k',rfl,e2,e3,e4⟩:=Gc4 l n k hn hl hk k l _ hc;exact⟨m',cur',k',e1,e2,e3,e4⟩
  have key:=P6 (step:=L1 ⟨n,bL tV l⟩) (mk:=λj (_:Unit)=>(⟨(j:Int)⟩:s7)) n (λj _=>1<=j/\j<=n/\l.take j++dvF (gL tV l (j-1)) ((l.take n).drop j)=ddV (l.take n))
   (λt s=>(t=1/\∃k:Nat,s=⟨(k:Int)⟩/\k<n/\1<=k/\Vd7 l n l k (k+1) (ddV (l.take n)))\/(t=2/\l.take n=ddV (l.take n))) (by omega) (λj x hj hx=>?_) (λj x hj hx=>?_) 1 () ⟨Qjp _,h1n,by
    cases l with
    |nil=>simp only[List.length_nil] at hn;omega
    |cons x l =>
     cases n with
     |zero=>omega
     |succ n=>rfl⟩
  ·obtain⟨t,s,e1,e2⟩:=key;rw[show (⟨1⟩:s7)=⟨((1:Nat):Int)⟩ from rfl,e1]
   rcases e2 with⟨rfl,k,rfl,hk,hk1,hc⟩|⟨rfl,he⟩
   ·obtain⟨m',cur',k',e2,e3,e4,e5⟩:=inner k hk hk1 hc;simp only[Int.toNat_natCast,e2];simp only[Qjf,Nat.sub_zero];refine⟨m',cur'.take m'++(List.replicate (n-m') ⟨0,0,0⟩++cur'.drop (m'+(n-m'))),?_,?_,?_,?_⟩
    ·rw[hd7,hd8,zc6,cb1,cb1];rfl
    ·rw[Qjc,Qjd,e3];omega
    ·rw[Qjad (by rw[Qjd,e3];omega),Qjaz,Nat.min_self,e4]
    ·rw[Qjc,Qjc,Qjd,Qjba,Qjat,e3];omega
   ·exact⟨n,l,rfl,hn,he,rfl⟩
  ·obtain⟨hj1,hjn,hR⟩:=hx;obtain⟨i1,i2⟩:=hI j hj hj1 hR;have hWj:W ((j:Int)-1)=((j-1:Nat):Int):=by rw[I6 (by omega) (by omega)];omega
   have hjl:j<l.length:=by omega
   have hjl':j-1<l.length:=by omega
   simp only[L1,K0,Int.toNat_natCast,hWj,zc5 hjl,zc5 hjl',cc9 hjl,cc9 hjl',D2 hj (show n<=4611686018427387904 by omega)]
   rw[btD (r7 hj),bt (i9 hj),bt (i9 (show j-1<n by omega)),bt (i9 (show j<n+1 by omega))]
   simp only[y7];rw[show ((gL tV l j).x==(gL tV l (j-1)).x&&((gL tV l j).y==(gL tV l (j-1)).y&&((gL tV l j).z==(gL tV l (j-1)).z&&true)))=eqV (gL tV l j) (gL tV l (j-1)) from rfl]
   cases he:eqV (gL tV l j) (gL tV l (j-1)) with
   |false=>exact .nx ⟨(),rfl,by omega,by omega,i2 he⟩
   |true =>
    obtain⟨m',cur',k',e2,e3,e4,e5⟩:=inner j hj hj1 (i1 he);rw[e2];simp only[i9 (show m'<n+1 by omega)]
    exact .ex (.inl ⟨rfl,j,rfl,hj,hj1,i1 he⟩)
  ·obtain⟨hj1,hjn,hR⟩:=hx;refine⟨2,?_,.inr ⟨rfl,?_⟩⟩
   ·simp only[L1,K0];rw[bfD (by omega)]
   ·have:j=n:=by omega
    subst this;rw[Qjav (by rw[Qjd];omega)] at hR
    unfold dvF at hR;rw[Qjs] at hR;exact hR
def Vd8(l:List V3):Prop:=l.Pairwise LtV
theorem Ab2{x y z:V3}(h1:LtV x y)(h2:LtV y z):LtV x z:=by unfold LtV at *;omega
theorem Tb3(x:V3):¬ LtV x x:=by unfold LtV;omega
theorem zd4(x y:V3):LtV x y\/x=y\/LtV y x:=by
 by_cases h1:LtV x y
 ·exact .inl h1
 ·by_cases h2:LtV y x
  ·exact .inr (.inr h2)
  ·refine .inr (.inl ?_);unfold LtV at h1 h2;exact Qjbb (by omega) (by omega) (by omega)
theorem rd8(l:List V3):List.Perm (pb1 l) l:=List.mergeSort_perm l _
theorem Jd2(x y z:V3)(h1:(!ltOf db5 y x)=true)(h2:(!ltOf db5 z y)=true):(!ltOf db5 z x)=true:=by
 rw[za9] at *
 simp only[Bool.not_eq_true',decide_eq_false_iff_not] at *
 unfold LtV at *
 omega
theorem Jd3(x y:V3):((!ltOf db5 y x)||(!ltOf db5 x y))=true:=by
 rw[za9,za9];by_cases h:LtV y x
 ·have h2:¬ LtV x y:=λh2=>Tb3 x (Ab2 h2 h)
  simp[h2]
 ·simp[h]
theorem Uc6(l:List V3):(pb1 l).Pairwise λx y=>(!ltOf db5 y x)=true:=List.pairwise_mergeSort Jd2 Jd3 l
theorem zd5(p:V3):∀(a:V3) (l:List V3),p∈a::dvF a l↔p∈a::l
 |a,[]=>by simp[dvF]
 |a,x::l=>by
  have ih:=zd5 p x l;unfold dvF;split
  ·rename_i h;rw[Ja9] at h;subst h;rw[ih];simp
  ·simp only[Qjk] at ih ⊢;rw[ih]
theorem Be7(p:V3):∀l:List V3,p∈ddV l↔p∈l
 |[]=>Iff.rfl
 |x::l=>zd5 p x l
theorem zd6:∀(a:V3) (l:List V3),(a::l).Pairwise (λx y=>(!ltOf db5 y x)=true)->Vd8 (a::dvF a l)
 |a,[],_=>List.pairwise_singleton _ _
 |a,x::l,h=>by
  obtain⟨h1,h2⟩:=Qjz.1 h;have ih:=zd6 x l h2;have hle:=h1 x Qjj;rw[za9] at hle;have hle:¬ LtV x a:=by simpa using hle
  unfold dvF;split
  ·rename_i he;rw[Ja9] at he;subst he;exact ih
  ·rename_i hne;have hlt:LtV a x:=by
    rcases zd4 a x with h|h|h
    ·exact h
    ·exact absurd ((Ja9 _ _).2 h.symm) hne
    ·exact absurd h hle
   refine Qjz.2 ⟨λp hp=>?_,ih⟩
   rcases Qjk.1 hp with e|hp'
   ·subst e;exact hlt
   ·exact Ab2 hlt ((Qjz.1 ih).1 p hp')
theorem Uc7(l:List V3):Vd8 (ddV (pb1 l)):=by
 have h:=Uc6 l;cases hs:pb1 l with
 |nil=>exact .nil
 |cons a l'=>rw[hs] at h;exact zd6 a l' h
noncomputable def dis(l:List V3):List V3:=ddV (pb1 l)
theorem mb6(l:List V3)(v:V3):v∈dis l↔v∈l:=by unfold dis;rw[Be7,(rd8 l).mem_iff]
theorem dc0(l:List V3):(dis l).Nodup:=List.Pairwise.imp (λ{x y} (h:LtV x y) (e:x=y)=>Tb3 y (e ▸ h)) (Uc7 l)
theorem Uc8(l:List V3):(dis l).length<=l.length:=by
 have:=List.Nodup.length_le_of_subset (dc0 l) (λv hv=>(mb6 l v).1 hv)
 exact this
theorem Mc1(l:List V3)(n:Nat)(hn:n<=l.length):slR tV (bL tV l) 0 n=l.take n:=Wb3 tV (by rw[Qjd];omega) λk hk=>by
 rw[Qjf,O4 tV (by omega)]
 congr 1;simp[gL,Qjag,List.getElem?_take,hk]
theorem dc1(l:List V3)(n:Nat)(hn:n<=l.length):okS tV (bL tV l) 0 n=true:=cb0 tV (f:=λk=>gL tV l k) λk hk=>by rw[Qjf,O4 tV (by omega)]
theorem Mc2(a:V3)(l:List V3)(hl:l.length<=1000000):aa4 (a,l)=⟨1,(a::l).length,bL tV (a::l)⟩:=by
 have ec:s8 (λk=>tV.row (gL tV (a::l) k)) (List.range (l.length+1))=bL tV (a::l):=Od3 tV (a::l)
 unfold aa4 Q7;simp only[ec,Ba7];have r:Nat.ble ((0+(a::l).length)*24) room=true:=by rw[Qjar];unfold room;simp only[List.length_cons];omega
 rw[r,Qjf];rfl
theorem Tb4(a:V3)(l:List V3)(hl:l.length<=1000000):∃m r,L3 ⟨(a::l).length,app (bL tV (pb1 (slR tV (bL tV (a::l)) 0 (a::l).length))) (i6 (bL tV (a::l)) (a::l).length)⟩=⟨1,m,bL tV r⟩/\m<=r.length/\r.take m=dis (a::l)/\r.length=l.length+1:=by
 have hs:(pb1 (a::l)).length=(a::l).length:=Lc4 _;rw[Ib4,zc6,cb1];obtain⟨m,r,k1,k2,k3,k4⟩:=hd9 (pb1 (a::l)++(a::l).drop (a::l).length) (a::l).length (by rw[Qjc,hs];omega) (by rw[Qjc,hs,Qjat];simp only[List.length_cons];omega)
 refine⟨m,r,k1,k2,?_,by rw[k4,Qjc,hs,Qjat];simp only[List.length_cons];omega⟩
 rw[k3,Qjad (by rw[hs];omega),List.take_of_length_le (by rw[hs];omega)]
 rfl
theorem id1(l:List V3)(hl:l.length<=2000000)(r:List V3):(Bool.and (Nat.ble l.length room) (Bool.and (Nat.ble l.length (len (bL tV (l++r)))) (okS tV (bL tV (l++r)) 0 l.length)))=true:=by
 rw[dc1 _ _ (by rw[Qjc];omega),Ba7,Qjv,Qjv,Qjar,Qjar]
 refine⟨by unfold room;omega,by rw[Qjc];omega,rfl⟩
theorem gc3(a:V3)(l:List V3)(hl:l.length<=1000000):Rd (one (r1L tV)) (la3 (a,l)) (λr=>r=dis (a::l)):=by
 obtain⟨m,r,k1,k2,k3,_⟩:=Tb4 a l hl;have hok:okL tV (l.length+1) (λk=>tV.row (gL tV (a::l) k))=true:=cb0 tV (f:=λk=>gL tV (a::l) k) λ_ _=>rfl
 have hr:=id1 (a::l) (by simp only[List.length_cons];omega) []
 rw[Qjs] at hr;unfold la3;simp only[wd2,wd3,Mc2 a l hl,hok,k1,y7,Qjae,hr];refine⟨_,r.take m,rfl,?_,k3⟩;show Bool.rec (motive:=λ_=>Option (List V3)) none (some (slR tV (bL tV r) 0 m)) (Bool.and true (okS tV (bL tV r) 0 m))=_
 rw[Mc1 r m k2,dc1 r m k2];rfl
theorem rd9(a:V3)(l:List V3)(hl:l.length<=1000000):Ma9 (a,l)=dis (a::l):=(gc3 a l hl).p
theorem sd0(a:V3)(l:List V3)(hl:l.length<=1000000):Na0 (a,l)=true:=(gc3 a l hl).g
end Go.Ev.Ce
namespace Go.Ev.Ce
open Go Go.Ev Go.Ev.L Go.Proofs
theorem id3(p:Pln)(v:V3):Ca6 p v=some (i (O6 p v),[]):=by
 unfold Ca6 O6;simp only[je7,je8,(bc7 v).1,(bc7 v).2,xd8,xd9,y7];cases hp:okp p with
 |false=>rfl
 |true =>
  cases hv:inV v with
  |false=>rfl
  |true =>
   have hb:=Jb9 hp;have hd:=Vd1 hb hv;have e:z6 p.n v=dot p.n v:=by
    unfold z6;simp only[Jb5,Zb2];exact qb0 (hd.mono (by omega))
   rw[e];simp only[Bool.not_true,Ta7,Qjaj,if_true,cb3];by_cases h1:dot p.n v<p.b
   ·rw[if_pos h1,if_pos (by omega)]
   ·rw[if_neg h1];by_cases h2:dot p.n v>p.b
    ·rw[if_pos h2,if_neg (by omega),if_pos (by omega)]
    ·rw[if_neg h2,if_neg (by omega),if_neg (by omega)]
theorem Ab3(p:Pln)(v:V3):K3 p v=O6 p v:=by unfold K3;rw[id3];rfl
theorem mb7(p:Pln)(v:V3):S5 p v=true:=by unfold S5;rw[id3];rfl
theorem le3{v:V3}(h1:Sm 1000000000000000000 v.x)(h2:Sm 1000000000000000000 v.y)(h3:Sm 1000000000000000000 v.z):W4 [v.x,v.y,v.z]=g3 v/\W5 [v.x,v.y,v.z]=true:=by
 have hd:=yc4 [v.x,v.y,v.z] (by simp) (by
  intro x hx;simp only[Qjk,List.not_mem_nil,or_false] at hx
  rcases hx with rfl|rfl|rfl<;>assumption)
 have hg:([v.x,v.y,v.z].foldl (λg x=>Nat.gcd g x.natAbs) 0:Nat)=Nat.gcd (Nat.gcd v.x.natAbs v.y.natAbs) v.z.natAbs:=by
  simp only[List.foldl_cons,List.foldl_nil,Nat.gcd_zero_left]
 exact⟨by unfold W4;rw[hd,hg];rfl,by unfold W5;rw[hd];rfl⟩
theorem Vd9 {v : V3} (h1 : Sm 1000000000000000000 v.x) (h2 : Sm 1000000000000000000 v.y) (h3 : Sm 1000000000000000000 v.z) :
  Ca5 v=if g3 v=0 then some (.tup [.agg (tV.row ⟨0,0,0⟩),i 0],[]) else some (.tup [.agg (tV.row ⟨W (Int.tdiv v.x (g3 v)),W (Int.tdiv v.y (g3 v)),W (Int.tdiv v.z (g3 v))⟩),i (g3 v)],[]):=by
 obtain⟨e1,e2⟩:=le3 h1 h2 h3;unfold Ca5;simp only[e1,e2,y7];by_cases h:g3 v=0
 ·rw[if_pos h,bt (by simpa using h)];rfl
 ·rw[if_neg h,bf (by simpa using h),bf (by simpa using h),bf (by simpa using h),bf (by simpa using h)];rfl
theorem gc4(a c d:V3):ka8 a c d=some (.tup [.agg (tP.row (B9 a c d).1),b (B9 a c d).2],[]):=by
 unfold ka8 B9;simp only[(bc7 _).1,(bc7 _).2];cases ha:inV a with
 |false=>rfl
 |true =>
  cases hc:inV c with
  |false=>rfl
  |true =>
   cases hd:inV d with
   |false=>rfl
   |true =>
    obtain⟨e,k1,k2,k3⟩:=eb0 ha hc hd;have e':B4 (D1 c a) (D1 d a)=c7 (sub c a) (sub d a):=e;rw[e'];generalize c7 (sub c a) (sub d a)=n at *
    have m1:=k1.mono (m:=1000000000000000000) (by omega)
    have m2:=k2.mono (m:=1000000000000000000) (by omega)
    have m3:=k3.mono (m:=1000000000000000000) (by omega)
    have hpr:=Vd9 m1 m2 m3;have gp:Pa2 n=true:=by unfold Pa2;rw[hpr];split<;>rfl
    by_cases h0:g3 n=0
    ·have pp:ta3 n=(⟨0,0,0⟩,0):=by unfold ta3;rw[hpr,if_pos h0];rfl
     have hz:z6 ⟨0,0,0⟩ a=0:=by unfold z6;simp only[Qjai];rfl
     simp only[gp,pp,hz,Qjaj,if_true,h0];rfl
    ·have hp:=Ab0 n;have q1:=ea3 (g:=g3 n) k1 (by omega)
     have q2:=ea3 (g:=g3 n) k2 (by omega)
     have q3:=ea3 (g:=g3 n) k3 (by omega)
     rw[qb0 (q1.mono (by omega)),qb0 (q2.mono (by omega)),qb0 (q3.mono (by omega))] at hpr
     have pp:ta3 n=(⟨Int.tdiv n.x (g3 n),Int.tdiv n.y (g3 n),Int.tdiv n.z (g3 n)⟩,g3 n):=by unfold ta3;rw[hpr,if_neg h0];rfl
     have hdot:z6 ⟨Int.tdiv n.x (g3 n),Int.tdiv n.y (g3 n),Int.tdiv n.z (g3 n)⟩ a=dot ⟨Int.tdiv n.x (g3 n),Int.tdiv n.y (g3 n),Int.tdiv n.z (g3 n)⟩ a:=by
      unfold z6;simp only[Jb5,Zb2];obtain⟨⟨a1,a2⟩,⟨a3,a4⟩,a5,a6⟩:=(ja6 a).1 ha;have r1:=mb q1.1 q1.2 a1 a2;have r2:=mb q2.1 q2.2 a3 a4;have r3:=mb q3.1 q3.2 a5 a6;rw[I6 (by omega) (by omega)]
      rfl
     simp only[gp,pp,hdot,Qjaj,if_true,h0,if_false,show g3 n>0 from by omega,decide_true]
     rfl
theorem mb8(a b c:V3):G3 a b c=B9 a b c:=by unfold G3;rw[gc4];rfl
theorem Kb1(a b c:V3):ca9 a b c=true:=by unfold ca9;rw[gc4];rfl
theorem Wd0(v:V3)(p:Pln):Ja3 ⟨v.x,v.y,v.z,p.n.x,p.n.y,p.n.z,p.b⟩=⟨1,O6 p v != 0⟩:=by
 unfold Ja3 ma5;simp only[Ab3,mb7,y7]
theorem le4(l:List V3)(p:Pln)(hl:l.length<=1000000000):U0 ⟨l,p.n.x,p.n.y,p.n.z,p.b⟩=⟨1,if l.any (λv=>O6 p v != 0) then ((l.findIdx (λv=>O6 p v != 0):Nat):Int) else -1⟩:=by
 have h:=ab4 (step:=E9 ⟨l,(l.length:Int),p.n.x,p.n.y,p.n.z,p.b⟩) (mk:=λj=>(⟨(j:Int)⟩:n7)) (c:=λv=>O6 p v != 0) (u:=1) (fin:=2) tV l hl
  (λj hj=>by
   simp only[E9,D5,Int.toNat_natCast,Wd0,D2 hj (by omega)]
   rw[bt (xc5 hj),bt (i9 hj)]
   rfl)
  (by simp only[E9,D5];rw[bf (Qb9 (Qje _))]) 0 (Qjm _)
 rw[Qjr] at h;unfold U0 E2;simp only[q9,m9];rw[show (⟨0⟩:n7)=⟨((0:Nat):Int)⟩ from rfl,h]
 split
 ·simp only[Qjf];rfl
 ·rfl
theorem zd7(l:List V3)(p:Pln)(hl:l.length<=1000000000):p7 ⟨l,p.n.x,p.n.y,p.n.z,p.b⟩=⟨1,l.any λv=>O6 p v != 0⟩:=by
 unfold p7 A1;simp only[q9,m9,le4 l p hl];split
 ·rename_i h;rw[h,show decide (((l.findIdx (λv=>O6 p v != 0):Nat):Int)>=0)=true from decide_eq_true (by omega)];rfl
 ·rename_i h;rw[Qjal] at h;rw[h];rfl
theorem le5(v:V3)(p:Pln):xa3 ⟨v.x,v.y,v.z,p.n.x,p.n.y,p.n.z,p.b⟩=⟨1,decide (O6 p v>0)⟩:=by
 unfold xa3 da0;simp only[Ab3,mb7,y7]
theorem le6(l:List V3)(p:Pln)(hl:l.length<=1000000000):U3 ⟨l,p.n.x,p.n.y,p.n.z,p.b⟩=⟨1,if l.any (λv=>decide (O6 p v>0)) then ((l.findIdx (λv=>decide (O6 p v>0)):Nat):Int) else -1⟩:=by
 have h:=ab4 (step:=F4 ⟨l,(l.length:Int),p.n.x,p.n.y,p.n.z,p.b⟩) (mk:=λj=>(⟨(j:Int)⟩:n8)) (c:=λv=>decide (O6 p v>0)) (u:=1) (fin:=2) tV l hl
  (λj hj=>by
   simp only[F4,D6,Int.toNat_natCast,le5,D2 hj (by omega)]
   rw[bt (xc5 hj),bt (i9 hj)]
   rfl)
  (by simp only[F4,D6];rw[bf (Qb9 (Qje _))]) 0 (Qjm _)
 rw[Qjr] at h;unfold U3 E3;simp only[q9,m9];rw[show (⟨0⟩:n8)=⟨((0:Nat):Int)⟩ from rfl,h]
 split
 ·simp only[Qjf];rfl
 ·rfl
theorem le7(l:List V3)(p:Pln)(hl:l.length<=1000000000):N0 ⟨l,p.n.x,p.n.y,p.n.z,p.b⟩=⟨1,l.any λv=>decide (O6 p v>0)⟩:=by
 unfold N0 A2;simp only[q9,m9,le6 l p hl];split
 ·rename_i h;rw[h,show decide (((l.findIdx (λv=>decide (O6 p v>0)):Nat):Int)>=0)=true from decide_eq_true (by omega)];rfl
 ·rename_i h;rw[Qjal] at h;rw[h];rfl
def bey(l:List V3)(p:Pln):Bool:=l.any λv=>decide (O6 p v>0)
theorem Mc3(l:List V3)(p:Pln)(hl:l.length<=1000000000):va5 l p=some (b (bey l p),[]):=by
 unfold va5;simp only[q9,m9,le7 l p hl];rfl
theorem Wd1(l:List V3)(p:Pln)(hl:l.length<=1000000000):Y9 l p=bey l p:=by unfold Y9;rw[Mc3 l p hl];rfl
theorem Wd2(l:List V3)(p:Pln)(hl:l.length<=1000000000):G5 l p=true:=by unfold G5;rw[Mc3 l p hl];rfl
theorem zc7{α:Type}(t:Ty α)(l:List α){j k:Nat}(h:k<j):gL t (l.take j) k=gL t l k:=by
 simp[gL,Qjag,List.getElem?_take,h]
theorem Wd3 (l : List V3) (i j : Nat) (hi : i < l.length) (hj : j < i) (hl : l.length ≤ 1000000) :
  lp (M7 ⟨(i:Int),(j:Int),(l.length:Int),(i:Int),(i:Int),(j:Int),(j:Int),l,l⟩) ⟨0⟩ =
   if (l.take j).any (λv=>(B9 v (gL tV l j) (gL tV l i)).2) then (1,⟨((l.take j).findIdx (λv=>(B9 v (gL tV l j) (gL tV l i)).2):Nat)⟩) else (2,⟨(j:Int)⟩):=by
 have hlen:(l.take j).length=j:=by rw[Qjd];omega
 have h:=ab4 (step:=M7 ⟨(i:Int),(j:Int),(l.length:Int),(i:Int),(i:Int),(j:Int),(j:Int),l,l⟩) (mk:=λk=>(⟨(k:Int)⟩:G4)) (c:=λv=>(B9 v (gL tV l j) (gL tV l i)).2) (u:=1) (fin:=2) tV (l.take j) (by omega)
  (λk hk=>by
   rw[hlen] at hk;simp only[M7,la0,Int.toNat_natCast,mb8,Kb1,zc7 tV l hk,q9,m9,zd7 l _ (show l.length<=1000000000 by omega),D2 hk (by omega)]
   rw[btD (r7 hk),bt (i9 (by omega)),bt (i9 (by omega)),bt (i9 hi),y7]
   cases (B9 (gL tV l k) (gL tV l j) (gL tV l i)).2<;>rfl)
  (by rw[hlen];simp only[M7,la0];rw[bfD (A7 (Qje _))]) 0 (Qjm _)
 rw[Qjr,hlen] at h;rw[show (⟨0⟩:G4)=⟨((0:Nat):Int)⟩ from rfl,h]
 split
 ·simp only[Qjf]
 ·rfl
def ixs(n:Nat):List Int:=(List.range n).map λk:Nat=>(k:Int)
theorem Qa6(n:Nat):(ixs n).length=n:=by simp[ixs]
theorem zd8{n k:Nat}(h:k<n):gL tI (ixs n) k=(k:Int):=by
 simp[gL,ixs,Qjag,List.getElem?_map,List.getElem?_range h]
noncomputable def sp2(l:List V3)(i:Nat)(m:Int):Bool:=(l.take m.toNat).any λv=>(B9 v (gL tV l m.toNat) (gL tV l i)).2
theorem Wd4 (l : List V3) (i : Nat) (hi : i < l.length) (hl : l.length ≤ 1000000) :
  lp (T3 ⟨(i:Int),(l.length:Int),(i:Int),(i:Int)⟩) ⟨0,l,l⟩=if (ixs i).any (sp2 l i) then (1,⟨((ixs i).findIdx (sp2 l i):Nat),l,l⟩) else (2,⟨(i:Int),l,l⟩):=by
 have h:=ab4 (step:=T3 ⟨(i:Int),(l.length:Int),(i:Int),(i:Int)⟩) (mk:=λj=>(⟨(j:Int),l,l⟩:J7)) (c:=sp2 l i) (u:=1) (fin:=2) tI (ixs i) (by rw[Qa6];omega)
  (λj hj=>by
   rw[Qa6] at hj;simp only[T3,la1,Int.toNat_natCast,Nat.sub_zero,q9,m9,Wd3 l i j hi hj hl,D2 hj (by omega),zd8 hj]
   rw[btD (r7 hj),bt (i9 (by omega))]
   unfold sp2;simp only[Int.toNat_natCast];cases ((l.take j).any λv=>(B9 v (gL tV l j) (gL tV l i)).2)<;>rfl)
  (by rw[Qa6];simp only[T3,la1];rw[bfD (A7 (Qje _))]) 0 (Qjm _)
 rw[Qjr,Qa6] at h;rw[show (⟨0,l,l⟩:J7)=⟨((0:Nat):Int),l,l⟩ from rfl,h]
 split
 ·simp only[Qjf]
 ·rfl
noncomputable def sp1(l:List V3)(m:Int):Bool:=(ixs m.toNat).any (sp2 l m.toNat)
theorem Be8 (l : List V3) (hl : l.length ≤ 1000000) :
  lp (ha7 ⟨(l.length:Int)⟩) ⟨0,l,l⟩=if (ixs l.length).any (sp1 l) then (1,⟨((ixs l.length).findIdx (sp1 l):Nat),l,l⟩) else (2,⟨(l.length:Int),l,l⟩):=by
 have h:=ab4 (step:=ha7 ⟨(l.length:Int)⟩) (mk:=λj=>(⟨(j:Int),l,l⟩:S6)) (c:=sp1 l) (u:=1) (fin:=2) tI (ixs l.length) (by rw[Qa6];omega)
  (λi hi=>by
   rw[Qa6] at hi;simp only[ha7,la2,Int.toNat_natCast,Nat.sub_zero,q9,m9,Wd4 l i hi hl,D2 hi (by omega),zd8 hi]
   rw[btD (r7 hi),bt (i9 (by omega))]
   unfold sp1;simp only[Int.toNat_natCast];cases (ixs i).any (sp2 l i)<;>rfl)
  (by rw[Qa6];simp only[ha7,la2];rw[bfD (A7 (Qje _))]) 0 (Qjm _)
 rw[Qjr,Qa6] at h;rw[show (⟨0,l,l⟩:S6)=⟨((0:Nat):Int),l,l⟩ from rfl,h]
 split
 ·simp only[Qjf]
 ·rfl
theorem Uc9{α:Type}{l:List α}{c:α->Bool}(h:l.any c=true):l.findIdx c<l.length:=by
 obtain⟨x,h1,h2⟩:=Qjb.1 h;exact Qjam ⟨x,h1,h2⟩
theorem Ab4{n:Nat}{c:Int->Bool}(h:(ixs n).any c=true):(ixs n).findIdx c<n/\c ((ixs n).findIdx c:Nat)=true:=by
 have hlt:=Uc9 h;have h1:=Qjaf (xs:=ixs n) (p:=c) (w:=hlt);rw[Qa6] at hlt;refine⟨hlt,?_⟩;simpa [ixs] using h1
noncomputable def iF(l:List V3):Nat:=(ixs l.length).findIdx (sp1 l)
noncomputable def jF(l:List V3):Nat:=(ixs (iF l)).findIdx (sp2 l (iF l))
noncomputable def kF(l:List V3):Nat:=(l.take (jF l)).findIdx (λv=>(B9 v (gL tV l (jF l)) (gL tV l (iF l))).2)
noncomputable def plF(l:List V3):Pln:=(B9 (gL tV l (kF l)) (gL tV l (jF l)) (gL tV l (iF l))).1
noncomputable def Fb4(l:List V3):Bool:=if (ixs l.length).any (sp1 l) then !(l.any λv=>O6 (plF l) v != 0) else true
theorem id4(l:List V3)(hl:l.length<=1000000):La0 l=some (b (Fb4 l),[]):=by
 unfold La0 Fb4;simp only[q9,m9];rw[Be8 l hl];by_cases h:(ixs l.length).any (sp1 l)=true
 ·obtain⟨hi,h1⟩:=Ab4 h;have h1:(ixs (iF l)).any (sp2 l (iF l))=true:=h1;obtain⟨hj,h2⟩:=Ab4 h1;have h2:(l.take (jF l)).any (λv=>(B9 v (gL tV l (jF l)) (gL tV l (iF l))).2)=true:=h2
  rw[if_pos h,if_pos h];simp only[Int.toNat_natCast,Nat.sub_zero];rw[show (ixs l.length).findIdx (sp1 l)=iF l from rfl,Wd4 l (iF l) hi hl,if_pos h1]
  simp only[Int.toNat_natCast,Nat.sub_zero];rw[show (ixs (iF l)).findIdx (sp2 l (iF l))=jF l from rfl,Wd3 l (iF l) (jF l) hi hj hl,if_pos h2]
  simp only[Int.toNat_natCast,mb8];rw[show (l.take (jF l)).findIdx (λv=>(B9 v (gL tV l (jF l)) (gL tV l (iF l))).2)=kF l from rfl,show (B9 (gL tV l (kF l)) (gL tV l (jF l)) (gL tV l (iF l))).1=plF l from rfl,zd7 l _ (by omega)]
  rfl
 ·rw[if_neg h,if_neg h];rfl
theorem le8(l:List V3)(hl:l.length<=1000000):ab1 l=Fb4 l:=by unfold ab1;rw[id4 l hl];rfl
theorem le9(l:List V3)(hl:l.length<=1000000):ab2 l=true:=by unfold ab2;rw[id4 l hl];rfl
theorem Mc4(v:V3):qa0 v=some (b (!inV v),[]):=by
 unfold qa0;simp only[(bc7 v).1,(bc7 v).2,y7]
theorem Wd5(v:V3):Ca7 v=!inV v:=by unfold Ca7;rw[Mc4];rfl
theorem Wd6(v:V3):Ca8 v=true:=by unfold Ca8;rw[Mc4];rfl
theorem me0(l:List V3)(hl:l.length<=1000000000):U6 ⟨l⟩=⟨1,if l.any (λv=>!inV v) then ((l.findIdx (λv=>!inV v):Nat):Int) else -1⟩:=by
 have h:=ab4 (step:=F5 ⟨l,(l.length:Int)⟩) (mk:=λj=>(⟨(j:Int)⟩:n9)) (c:=λv=>!inV v) (u:=1) (fin:=2) tV l hl
  (λj hj=>by
   simp only[F5,D7,Int.toNat_natCast,Wd5,Wd6,D2 hj (by omega)]
   rw[bt (xc5 hj),bt (i9 hj),y7])
  (by simp only[F5,D7];rw[bf (Qb9 (Qje _))]) 0 (Qjm _)
 rw[Qjr] at h;unfold U6 E4;simp only[q9,m9];rw[show (⟨0⟩:n9)=⟨((0:Nat):Int)⟩ from rfl,h]
 split
 ·simp only[Qjf];rfl
 ·rfl
theorem me1(l:List V3)(hl:l.length<=1000000000):N4 ⟨l⟩=⟨1,l.any λv=>!inV v⟩:=by
 unfold N4 A3;simp only[q9,m9,me0 l hl];split
 ·rename_i h;rw[h,show decide (((l.findIdx (λv=>!inV v):Nat):Int)>=0)=true from decide_eq_true (by omega)];rfl
 ·rename_i h;rw[Qjal] at h;rw[h];rfl
noncomputable def Z4(l:List V3):Int:=if (l.length:Int)>48 then 2 else if l.any (λv=>!inV v) then 3 else if Fb4 l then 11 else 0
theorem Mc5(l:List V3)(hl:l.length<=1000000):Ca9 l=some (i (Z4 l),[]):=by
 unfold Ca9 Z4;simp only[q9,m9,oa7,me1 l (by omega),le8 l hl,le9 l hl]
 by_cases h:(l.length:Int)>48
 ·rw[btD h,if_pos h]
 ·rw[bfD h,if_neg h];cases l.any λv=>!inV v with
  |true=>rfl
  |false=>cases Fb4 l<;>rfl
theorem zc8(l:List V3)(hl:l.length<=1000000):ta5 l=Z4 l:=by unfold ta5;rw[Mc5 l hl];rfl
theorem zc9(l:List V3)(hl:l.length<=1000000):ta6 l=true:=by unfold ta6;rw[Mc5 l hl];rfl
theorem Wd7{p:Pln}(h:Bd p):ta2 p=N8 p:=by
 unfold ta2 D1 N8
 simp only
 have:=h.x1;have:=h.x2;have:=h.y1;have:=h.y2;have:=h.z1;have:=h.z2;have:=h.b1;have:=h.b2
 rw[I6 (by omega) (by omega),I6 (by omega) (by omega),I6 (by omega) (by omega),I6 (by omega) (by omega)]
 simp only[Int.zero_sub]
noncomputable def Vc0(p:Pln):List b7:=[i p.n.x,i p.n.y,i p.n.z,i p.b,b true]
noncomputable def ab7(l:List Pln):List (List b7):=l.map Vc0
theorem Mc6(x q:Pln):Bb2 flK [i x.n.x,i x.n.y,i x.n.z,i x.b] (Vc0 q)=eqP q x:=by
 show Bool.and (decide (x.n.x=q.n.x)) (Bool.and (decide (x.n.y=q.n.y)) (Bool.and (decide (x.n.z=q.n.z)) (Bool.and (decide (x.b=q.b)) true)))=_;unfold eqP;have h:∀a c:Int,decide (a=c)=(c==a):=λa c=>by rw[Bool.eq_iff_iff,decide_eq_true_eq,beq_iff_eq];exact eq_comm
 rw[h,h,h,h]
theorem id5(x:Pln):∀l,Sa4 4 [(0,.int .i64),(1,.int .i64),(2,.int .i64),(3,.int .i64)] [i x.n.x,i x.n.y,i x.n.z,i x.b] (ab7 l)=Sb8 l x
 |[]=>rfl
 |q::l=>by
  have ih:=id5 x l;unfold Sa4 at ih ⊢;show Option.rec (motive:=λ_=>Bool) false (λr=>toB (hdA (i6 r 4))) (Bool.rec (motive:=λ_=>Option (List b7)) (ec0 flK [i x.n.x,i x.n.y,i x.n.z,i x.b] (ab7 l)) (some (Vc0 q)) (Bb2 flK [i x.n.x,i x.n.y,i x.n.z,i x.b] (Vc0 q)))=Sb8 (q::l) x
  rw[Mc6];unfold Sb8 at ih ⊢;rw[List.any_cons];cases eqP q x with
  |true=>rfl
  |false=>exact ih
theorem sd1(x:Pln):∀l,Sb8 l x=false->Z8 [(0,.int .i64),(1,.int .i64),(2,.int .i64),(3,.int .i64)] [i x.n.x,i x.n.y,i x.n.z,i x.b] [i x.n.x,i x.n.y,i x.n.z,i x.b,b true] (ab7 l)=ab7 (l++[x])
 |[],_=>rfl
 |q::l,h=>by
  unfold Sb8 at h;rw[List.any_cons,Bool.or_eq_false_iff] at h;show Bool.rec (motive:=λ_=>List (List b7)) (Vc0 q::Z8 flK [i x.n.x,i x.n.y,i x.n.z,i x.b] (Vc0 x) (ab7 l)) (Vc0 x::ab7 l) (Bb2 flK [i x.n.x,i x.n.y,i x.n.z,i x.b] (Vc0 q))=_
  rw[Mc6,h.1,show Z8 flK [i x.n.x,i x.n.y,i x.n.z,i x.b] (Vc0 x) (ab7 l)=_ from sd1 x l h.2]
  rfl
noncomputable def Kb2(s:List Pln)(p:Pln):List Pln:=if Sb8 s p then s else s++[p]
theorem Wd8(s:List Pln)(p q:Pln):q∈Kb2 s p↔q∈s\/q=p:=by
 unfold Kb2;split
 ·rename_i h;rw[gd8] at h;exact⟨.inl,λh'=>h'.elim id λe=>e ▸ h⟩
 ·rw[Qjaa,Qjap]
theorem Ac0{s:List Pln}{p:Pln}(h:s.Nodup):(Kb2 s p).Nodup:=by
 unfold Kb2;split
 ·exact h
 ·rename_i hn;rw[gd8] at hn;rw[List.nodup_append];exact⟨h,by simp,λa ha b hb=>by rw[Qjap.1 hb];intro e;exact hn (e ▸ ha)⟩
theorem id6(s:List Pln)(p:Pln):(Kb2 s p).length<=s.length+1:=by
 unfold Kb2;split
 ·omega
 ·simp
def fil(l:List V3)(s:List Pln):List Pln:=s.filter λp=>!bey l p
theorem pc2(l:List V3)(s:List Pln)(p:Pln):fil l (s++[p])=if bey l p then fil l s else fil l s++[p]:=by
 unfold fil;rw[Qjab,Qjw,List.filter_nil];cases bey l p<;>simp
theorem Vc1(l:List V3)(s:List Pln):(fil l s).length<=s.length:=Qjan _ _
noncomputable def Fb5(l:List V3)(a c:Nat)(s:List Pln)(k:Nat):List Pln :=
 if (B9 (gL tV l k) (gL tV l c) (gL tV l a)).2 then Kb2 (Kb2 s (B9 (gL tV l k) (gL tV l c) (gL tV l a)).1) (N8 (B9 (gL tV l k) (gL tV l c) (gL tV l a)).1) else s
noncomputable def G2(l:List V3)(a:Nat)(s:List Pln)(c:Nat):List Pln:=(List.range c).foldl (Fb5 l a c) s
noncomputable def G1(l:List V3)(s:List Pln)(a:Nat):List Pln:=(List.range a).foldl (G2 l a) s
noncomputable def G0(l:List V3):List Pln:=(List.range l.length).foldl (G1 l) []
theorem Mc7(l:List V3)(a c:Nat)(s:List Pln)(k:Nat):(Fb5 l a c s k).length<=s.length+2:=by
 unfold Fb5;split
 ·have h1:=id6 (Kb2 s (B9 (gL tV l k) (gL tV l c) (gL tV l a)).1) (N8 (B9 (gL tV l k) (gL tV l c) (gL tV l a)).1);have h2:=id6 s (B9 (gL tV l k) (gL tV l c) (gL tV l a)).1;omega
 ·omega
theorem Be9(l:List V3)(a:Nat)(s:List Pln)(c:Nat):(G2 l a s c).length<=s.length+2*c:=zc3 (Mc7 l a c) s c
theorem sd2(l:List V3)(a:Nat)(s:List Pln):∀j,j<=a->a<=48->((List.range j).foldl (G2 l a) s).length<=s.length+96*j
 |0,_,_=>Qjp _
 |j+1,h,ha=>by
  rw[G9];have h1:=sd2 l a s j (by omega) ha
  have h2:=Be9 l a ((List.range j).foldl (G2 l a) s) j;omega
theorem Vc2(l:List V3)(hl:l.length<=48):∀j,j<=l.length->((List.range j).foldl (G1 l) []).length<=5000*j
 |0,_=>Qjp _
 |j+1,h=>by
  rw[G9];have h1:=Vc2 l hl j (by omega)
  have h2:(G1 l ((List.range j).foldl (G1 l) []) j).length<=_:=sd2 l j ((List.range j).foldl (G1 l) []) j (Qjp _) (by omega)
  omega
@[reducible] noncomputable def mkf(l:List V3)(k:Nat)(s:List Pln):A4:=⟨phP (fil l s),(k:Int),ab7 s,(fil l s).length,bL tP (fil l s)⟩
theorem dc2{n:Nat}{l:List Pln}(hn:n=l.length)(h:l.length<=1000000000):(Nat.beq n (len (bL tP l))&&Nat.ble ((n+1)*32) room)=true:=by
 subst hn;rw[Ba7,Qjae,Bool.true_and];exact je0 (by omega)
theorem zd9(o:List Pln)(x:Pln):phP (o++[x])=1:=by cases o<;>rfl
theorem Wd9 (l : List V3) (hl : l.length ≤ 48) (a c k : Nat) (ha : a < l.length) (hc : c < a) (hk : k < c) (x1 x2 x3 x4 : Int) (s : List Pln) (ho : s.length ≤ 900000) :
  O8 ⟨(a:Int),(c:Int),x1,x2,x3,x4,(c:Int),l,l⟩ (mkf l k s)=.next (mkf l (k+1) (Fb5 l a c s k)):=by
 have hfl:ta2 (B9 (gL tV l k) (gL tV l c) (gL tV l a)).1=N8 (B9 (gL tV l k) (gL tV l c) (gL tV l a)).1:=Wd7 (ke8 _ _ _);have hb:∀p,Y9 l p=bey l p:=λp=>Wd1 l p (by omega)
 have hg:∀p,G5 l p=true:=λp=>Wd2 l p (by omega)
 have hn:=D2 hk (show c<=4611686018427387904 by omega)
 have b1:inB (a:Int) l.length=true:=i9 ha;have b2:inB (c:Int) l.length=true:=i9 (by omega)
 have b3:inB (k:Int) l.length=true:=i9 (by omega)
 have hfl2:=Vc1 l s;unfold Fb5;unfold mkf;generalize hT:B9 (gL tV l k) (gL tV l c) (gL tV l a)=T at *
 cases hO:fil l s with
 |nil =>
  show Q8 Stp.next Stp.exit Stp.fail _ _=_;simp only[Q8,mb8,Kb1,Int.toNat_natCast,q9,oa7,hT,hfl,hb,hg,hn,b1,b2,b3,id5];rw[btD (r7 hk)];cases h2:T.2 with
  |false=>simp only[Qji,if_false,hO];rfl
  |true =>
   simp only[if_true,y7];cases h3:Sb8 s T.1 with
   |true =>
    cases h4:Sb8 s (N8 T.1) with
    |true=>simp only[Kb2,h3,h4,if_true,hO];rfl
    |false =>
     rw[sd1 _ _ h4];cases h5:bey l (N8 T.1)<;>(simp only[Kb2,h3,h4,h5,if_true,if_false,Qji,pc2,hO];rfl)
   |false =>
    simp only[sd1 _ _ h3,id5];cases h5:bey l T.1<;>cases h4:Sb8 (s++[T.1]) (N8 T.1)<;>(try simp only[sd1 _ _ h4])<;>cases h6:bey l (N8 T.1)<;>(simp only[Kb2,h3,h4,h5,h6,if_true,if_false,Qji,pc2,hO];rfl)
 |cons q o =>
  have rr:(Nat.beq (q::o).length (len (bL tP (q::o)))&&Nat.ble (((q::o).length+1)*32) room)=true:=dc2 rfl (by rw[<- hO];omega)
  have ap:∀(O:List Pln) (p:Pln),app (bL tP O) [[i p.n.x,i p.n.y,i p.n.z,i p.b]]=bL tP (O++[p]):=λO p=>cb1 tP O [p]
  have rr2:∀p:Pln,(Nat.beq ((q::o).length+1) (len (bL tP (q::o++[p])))&&Nat.ble (((q::o).length+1+1)*32) room)=true:=λp=>dc2 (by simp) (by rw[<- hO,Qjc,List.length_singleton];omega)
  show Q9 Stp.next Stp.exit Stp.fail _ _=_;simp only[Q9,mb8,Kb1,Int.toNat_natCast,q9,oa7,hT,hfl,hb,hg,hn,b1,b2,b3,id5,rr,ap,rr2];rw[btD (r7 hk)];cases h2:T.2 with
  |false=>simp only[Qji,if_false,hO];rfl
  |true =>
   simp only[if_true,y7];cases h3:Sb8 s T.1 with
   |true =>
    cases h4:Sb8 s (N8 T.1) with
    |true=>simp only[Kb2,h3,h4,if_true,hO];rfl
    |false =>
     rw[sd1 _ _ h4];cases h5:bey l (N8 T.1)<;>(simp only[Kb2,h3,h4,h5,if_true,if_false,Qji,pc2,hO,zd9,Qjc,List.length_singleton];rfl)
   |false =>
    simp only[sd1 _ _ h3,id5];cases h5:bey l T.1<;>cases h4:Sb8 (s++[T.1]) (N8 T.1)<;>(try simp only[sd1 _ _ h4])<;>cases h6:bey l (N8 T.1)<;>(simp only[Kb2,h3,h4,h5,h6,if_true,if_false,Qji,pc2,hO,zd9,Qjc,List.length_singleton];rfl)
theorem Ce0 (l : List V3) (hl : l.length ≤ 48) (a c : Nat) (ha : a < l.length) (hc : c < a) (x1 x2 x3 x4 : Int) (s : List Pln) (ho : s.length ≤ 800000) :
  ∃j,lp (O8 ⟨(a:Int),(c:Int),x1,x2,x3,x4,(c:Int),l,l⟩) (mkf l 0 s)=(phP (fil l (G2 l a s c))+1,mkf l j (G2 l a s c)):=by
 have key:=P6 (step:=O8 ⟨(a:Int),(c:Int),x1,x2,x3,x4,(c:Int),l,l⟩) (mk:=mkf l) c (λj o=>j<=c/\o=(List.range j).foldl (Fb5 l a c) s) (λt r=>t=phP (fil l (G2 l a s c))+1/\∃j:Nat,r=mkf l j (G2 l a s c)) (by omega)
  (λj o hj hi=>by
   obtain⟨_,hi⟩:=hi;have hlen:o.length<=900000:=by
    rw[hi]
    have:=zc3 (Mc7 l a c) s j
    omega
   rw[Wd9 l hl a c j ha hc hj x1 x2 x3 x4 o hlen];exact .nx ⟨_,rfl,by omega,by rw[G9,<- hi]⟩)
  (λj o hj hi=>by
   obtain⟨h1,hi⟩:=hi;have e:j=c:=by omega
   subst e;have hF:o=G2 l a s j:=hi;rw[<- hF];refine⟨_,?_,rfl,j,rfl⟩;unfold mkf;cases hO:fil l o with
   |nil =>
    show Q8 Stp.next Stp.exit Stp.fail _ _=_;simp only[Q8];rw[bfD (A7 (Qje _))];rfl
   |cons q o =>
    show Q9 Stp.next Stp.exit Stp.fail _ _=_;simp only[Q9];rw[bfD (A7 (Qje _))]
    rfl) 0 s ⟨Qjm _,rfl⟩
 obtain⟨t,r,h1,rfl,j,rfl⟩:=key;exact⟨j,h1⟩
@[reducible] noncomputable def Ac1(l:List V3)(k:Nat)(s:List Pln):y5:=⟨phP (fil l s),(k:Int),l,l,ab7 s,(fil l s).length,bL tP (fil l s)⟩
theorem Ce1 (l : List V3) (hl : l.length ≤ 48) (a : Nat) (ha : a < l.length) (x1 x2 : Int) (s : List Pln) (ho : s.length ≤ 700000) :
  ∃j,lp (W7 ⟨(a:Int),x1,x2,(a:Int)⟩) (Ac1 l 0 s)=(phP (fil l (G1 l s a))+1,Ac1 l j (G1 l s a)):=by
 have key:=P6 (step:=W7 ⟨(a:Int),x1,x2,(a:Int)⟩) (mk:=Ac1 l) a (λj o=>j<=a/\o=(List.range j).foldl (G2 l a) s) (λt r=>t=phP (fil l (G1 l s a))+1/\∃j:Nat,r=Ac1 l j (G1 l s a)) (by omega)
  (λj o hj hi=>by
   obtain⟨hja,hi⟩:=hi;have hlen:o.length<=800000:=by rw[hi];have:=sd2 l a s j hja (by omega);omega
   have hn:=D2 hj (show a<=4611686018427387904 by omega)
   have bj:inB (j:Int) (l.length+1)=true:=i9 (by omega)
   obtain⟨j',e1⟩:=Ce0 l hl a j ha hj x1 x2 (a:Int) (j:Int) o hlen
   have fin : ∀ {r : y5}, r = Ac1 l (j + 1) (G2 l a o j) → Nx (.next r) (fun t => t = phP (fil l (G1 l s a)) + 1 ∧ ∃ j' : Nat, Ac1 l j o = Ac1 l j' (G1 l s a))
     (λr=>∃o',r=Ac1 l (j+1) o'/\(j+1<=a/\o'=(List.range (j+1)).foldl (G2 l a) s)):=λ{r} hs =>
    .nx ⟨_,hs,by omega,by rw[G9,<- hi]⟩
   clear hi
   generalize hF:G2 l a o j=R at *
   unfold Ac1 at *
   unfold mkf at e1;cases hO:fil l o with
   |nil =>
    rw[hO] at e1 fin;show Nx (R3 Stp.next Stp.exit Stp.fail _ _) _ _;simp only[R3,q9,m9,hn,bj,Int.toNat_natCast,Nat.sub_zero];have e1:lp (O8 ⟨(a:Int),(j:Int),x1,x2,(a:Int),(j:Int),(j:Int),l,l⟩) ⟨0,0,ab7 o,0,[]⟩=_:=e1;rw[btD (r7 hj),e1];cases hR:fil l R with
    |nil=>exact fin (by rw[hR];rfl)
    |cons q R'=>exact fin (by rw[hR];rfl)
   |cons q o' =>
    rw[hO] at e1 fin;show Nx (R4 Stp.next Stp.exit Stp.fail _ _) _ _;simp only[R4,q9,m9,hn,bj,Int.toNat_natCast,Nat.sub_zero];have e1:lp (O8 ⟨(a:Int),(j:Int),x1,x2,(a:Int),(j:Int),(j:Int),l,l⟩) ⟨1,0,ab7 o,(q::o').length,bL tP (q::o')⟩=_:=e1;rw[btD (r7 hj),e1];cases hR:fil l R with
    |nil=>exact fin (by rw[hR];rfl)
    |cons q R'=>exact fin (by rw[hR];rfl))
  (λj o hj hi=>by
   obtain⟨h1,hi⟩:=hi;have e:j=a:=by omega
   subst e;have hF:o=G1 l s j:=hi;rw[<- hF];refine⟨_,?_,rfl,j,rfl⟩;unfold Ac1;cases hO:fil l o with
   |nil =>
    show R3 Stp.next Stp.exit Stp.fail _ _=_;simp only[R3];rw[bfD (A7 (Qje _))];rfl
   |cons q o =>
    show R4 Stp.next Stp.exit Stp.fail _ _=_;simp only[R4];rw[bfD (A7 (Qje _))]
    rfl) 0 s ⟨Qjm _,rfl⟩
 obtain⟨t,r,h1,rfl,j,rfl⟩:=key;exact⟨j,h1⟩
@[reducible] noncomputable def Vc3(l:List V3)(k:Nat)(s:List Pln):A5:=⟨phP (fil l s),(k:Int),l,l,ab7 s,(fil l s).length,bL tP (fil l s)⟩
theorem Ce2 (l : List V3) (hl : l.length ≤ 48) :
  ∃j,lp (xa5 ⟨(l.length:Int)⟩) ⟨0,0,l,l,[],0,[]⟩=(phP (fil l (G0 l))+1,Vc3 l j (G0 l)):=by
 have key:=P6 (step:=xa5 ⟨(l.length:Int)⟩) (mk:=Vc3 l) l.length (λj o=>j<=l.length/\o=(List.range j).foldl (G1 l) []) (λt r=>t=phP (fil l (G0 l))+1/\∃j:Nat,r=Vc3 l j (G0 l)) (by omega)
  (λj o hj hi=>by
   obtain⟨hja,hi⟩:=hi;have hlen:o.length<=700000:=by rw[hi];have:=Vc2 l hl j hja;omega
   have hn:=D2 hj (show l.length<=4611686018427387904 by omega)
   have bj:inB (j:Int) (l.length+1)=true:=i9 (by omega)
   obtain⟨j',e1⟩:=Ce1 l hl j hj (l.length:Int) (j:Int) o hlen
   have fin : ∀ {r : A5}, r = Vc3 l (j + 1) (G1 l o j) → Nx (.next r) (fun t => t = phP (fil l (G0 l)) + 1 ∧ ∃ j' : Nat, Vc3 l j o = Vc3 l j' (G0 l))
     (λr=>∃o',r=Vc3 l (j+1) o'/\(j+1<=l.length/\o'=(List.range (j+1)).foldl (G1 l) [])):=λ{r} hs =>
    .nx ⟨_,hs,by omega,by rw[G9,<- hi]⟩
   clear hi
   generalize hF:G1 l o j=R at *
   unfold Vc3 at *
   unfold Ac1 at e1;cases hO:fil l o with
   |nil =>
    rw[hO] at e1 fin;show Nx (R5 Stp.next Stp.exit Stp.fail _ _) _ _;simp only[R5,q9,m9,hn,bj,Int.toNat_natCast,Nat.sub_zero];have e1:lp (W7 ⟨(j:Int),(l.length:Int),(j:Int),(j:Int)⟩) ⟨0,0,l,l,ab7 o,0,[]⟩=_:=e1;rw[btD (r7 hj),e1];cases hR:fil l R with
    |nil=>exact fin (by rw[hR];rfl)
    |cons q R'=>exact fin (by rw[hR];rfl)
   |cons q o' =>
    rw[hO] at e1 fin;show Nx (R6 Stp.next Stp.exit Stp.fail _ _) _ _;simp only[R6,q9,m9,hn,bj,Int.toNat_natCast,Nat.sub_zero];have e1:lp (W7 ⟨(j:Int),(l.length:Int),(j:Int),(j:Int)⟩) ⟨1,0,l,l,ab7 o,(q::o').length,bL tP (q::o')⟩=_:=e1;rw[btD (r7 hj),e1];cases hR:fil l R with
    |nil=>exact fin (by rw[hR];rfl)
    |cons q R'=>exact fin (by rw[hR];rfl))
  (λj o hj hi=>by
   obtain⟨h1,hi⟩:=hi;have e:j=l.length:=by omega
   subst e;have hF:o=G0 l:=hi;rw[<- hF];refine⟨_,?_,rfl,l.length,rfl⟩;unfold Vc3;cases hO:fil l o with
   |nil =>
    show R5 Stp.next Stp.exit Stp.fail _ _=_;simp only[R5];rw[bfD (A7 (Qje _))];rfl
   |cons q o =>
    show R6 Stp.next Stp.exit Stp.fail _ _=_;simp only[R6];rw[bfD (A7 (Qje _))]
    rfl) 0 [] ⟨Qjm _,rfl⟩
 obtain⟨t,r,h1,rfl,j,rfl⟩:=key;exact⟨j,h1⟩
theorem sd3{F:List Pln}(h:∀p∈F,okp p=true){k:Nat}(hk:k<F.length):Bd (gL tP F k):=Jb9 (h _ (db4 tP hk))
theorem me2{n:V3}{r:Pln}(hn:Sm 42467328 n.x/\Sm 42467328 n.y/\Sm 42467328 n.z)(hr:Bd r):z6 n r.n=dot n r.n:=by
 obtain⟨⟨a1,a2⟩,⟨a3,a4⟩,a5,a6⟩:=hn;have r1:=mb a1 a2 hr.x1 hr.x2;have r2:=mb a3 a4 hr.y1 hr.y2;have r3:=mb a5 a6 hr.z1 hr.z2;unfold z6;simp only[Jb5,Zb2];rw[I6 (by omega) (by omega)]
 rfl
theorem me3 (l : List Pln) (n : V3) (hn : Sm 42467328 n.x ∧ Sm 42467328 n.y ∧ Sm 42467328 n.z) (hF : ∀ p ∈ l, okp p = true) (hl : l.length ≤ 1000000000) :
  P5 ⟨l,n.x,n.y,n.z⟩=⟨1,if l.any (λr=>dot n r.n != 0) then ((l.findIdx (λr=>dot n r.n != 0):Nat):Int) else -1⟩:=by
 have h:=ab4 (step:=C9 ⟨l,(l.length:Int),n.x,n.y,n.z⟩) (mk:=λj=>(⟨(j:Int)⟩:m8)) (c:=λr=>dot n r.n != 0) (u:=1) (fin:=2) tP l hl
  (λj hj=>by
   have e:=me2 hn (sd3 hF hj);simp only[C9,B7,Int.toNat_natCast,Na1,da1,e,D2 hj (show l.length<=4611686018427387904 by omega)]
   rw[btD (r7 hj),bt (i9 hj)])
  (by simp only[C9,B7];rw[bfD (A7 (Qje _))]) 0 (Qjm _)
 rw[Qjr] at h;unfold P5 C1;simp only[q9,m9];rw[show (⟨0⟩:m8)=⟨((0:Nat):Int)⟩ from rfl,h]
 split
 ·simp only[Qjf];rfl
 ·rfl
theorem me4 (l : List Pln) (n : V3) (hn : Sm 42467328 n.x ∧ Sm 42467328 n.y ∧ Sm 42467328 n.z) (hF : ∀ p ∈ l, okp p = true) (hl : l.length ≤ 1000000000) :
  K6 ⟨l,n.x,n.y,n.z⟩=⟨1,l.any λr=>dot n r.n != 0⟩:=by
 unfold K6 w8;simp only[q9,m9,me3 l n hn hF hl];split
 ·rename_i h;rw[h,show decide (((l.findIdx (λr=>dot n r.n != 0):Nat):Int)>=0)=true from decide_eq_true (by omega)];rfl
 ·rename_i h;rw[Qjal] at h;rw[h];rfl
noncomputable def Jd4(l:List Pln)(a c:Nat):Bool:=l.any λr=>dot (c7 (gL tP l a).n (gL tP l c).n) r.n != 0
noncomputable def vtx(l:List Pln):Bool:=(List.range l.length).any λa=>(List.range a).any (Jd4 l a)
theorem Jd5{p q:Pln}(hp:Bd p)(hq:Bd q):B4 p.n q.n=c7 p.n q.n/\Sm 42467328 (c7 p.n q.n).x/\Sm 42467328 (c7 p.n q.n).y/\Sm 42467328 (c7 p.n q.n).z:=by
 obtain⟨k1,k2,k3⟩:=wb0 hp.n hq.n;refine⟨?_,k1,k2,k3⟩;rw[je4,qb0 (k1.mono (by omega)),qb0 (k2.mono (by omega)),qb0 (k3.mono (by omega))]
theorem sd4 (l : List Pln) (hF : ∀ p ∈ l, okp p = true) (hl : l.length ≤ 1000000) (a : Nat) (ha : a < l.length) (x9 x10 : Int) :
  ∃j,lp (Z0 ⟨l,l,x9,x10,a,(λk=>(λk=>tP.row (gL tP l k)) (0+k)),(a:Int),(gL tP l a).n.x,(gL tP l a).n.y,(gL tP l a).n.z,(gL tP l a).b⟩) ⟨0⟩=(if (List.range a).any (Jd4 l a) then 1 else 2,⟨((j:Nat):Int)⟩) :=
 zc2 (step:=Z0 ⟨l,l,x9,x10,a,(λk=>(λk=>tP.row (gL tP l k)) (0+k)),(a:Int),(gL tP l a).n.x,(gL tP l a).n.y,(gL tP l a).n.z,(gL tP l a).b⟩) (mk:=λj=>(⟨(j:Int)⟩:O9)) a (Jd4 l a) 1 2 (by omega)
  (λj hj=>by
   obtain⟨e,k1,k2,k3⟩:=Jd5 (sd3 hF ha) (sd3 hF (show j<l.length by omega))
   have rr:(⟨toI (hdA (tP.row (gL tP l j))),toI (hdA (tlA (tP.row (gL tP l j)))),toI (hdA (tlA (tlA (tP.row (gL tP l j)))))⟩:V3)=(gL tP l j).n:=rfl;have e':B4 ⟨(gL tP l a).n.x,(gL tP l a).n.y,(gL tP l a).n.z⟩ (gL tP l j).n=c7 (gL tP l a).n (gL tP l j).n:=e;simp only[Z0,ea1,Int.toNat_natCast,Qjf,rr,e',ze9,q9,m9,me4 l _ ⟨k1,k2,k3⟩ hF (show l.length<=1000000000 by omega),D2 hj (show a<=4611686018427387904 by omega)]
   rw[btD (r7 hj),bt (i9 hj)];unfold Jd4;cases hz:((c7 (gL tP l a).n (gL tP l j).n).x==0&&((c7 (gL tP l a).n (gL tP l j).n).y==0&&((c7 (gL tP l a).n (gL tP l j).n).z==0&&true))) with
   |false=>rfl
   |true =>
    simp only[Qjx,Qjv,beq_iff_eq] at hz
    have:(l.any λr=>dot (c7 (gL tP l a).n (gL tP l j).n) r.n != 0)=false:=by
     rw[List.any_eq_false];intro r _
     have:dot (c7 (gL tP l a).n (gL tP l j).n) r.n=0:=by unfold dot;rw[hz.1,hz.2.1,hz.2.2];simp only[Qjai,Int.add_zero]
     rw[this]
     decide
    rw[this]
    rfl)
  (by simp only[Z0,ea1];rw[bfD (A7 (Qje _))])
theorem Mc8(l:List Pln)(hF:∀p∈l,okp p=true)(hl:l.length<=1000000):va7 l=some (b (vtx l),[]):=by
 obtain⟨j,h⟩:=zc2 (step:=Z1 ⟨(l.length:Int)⟩) (mk:=λj=>(⟨l,l,(j:Int)⟩:P0)) l.length (λa=>(List.range a).any (Jd4 l a)) 1 2 (by omega)
  (λj hj=>by
   obtain⟨j',h1⟩:=sd4 l hF hl j hj (l.length:Int) (j:Int);simp only[Z1,ea2,q9,m9,Int.toNat_natCast,Nat.sub_zero,D2 hj (show l.length<=4611686018427387904 by omega)]
   rw[btD (r7 hj),bt (i9 hj),bt (i9 (show j<l.length+1 by omega)),h1]
   cases (List.range j).any (Jd4 l j)<;>rfl)
  (by simp only[Z1,ea2];rw[bfD (A7 (Qje _))])
 have h:lp (Z1 ⟨(l.length:Int)⟩) ⟨l,l,0⟩=(if vtx l then 1 else 2,⟨l,l,((j:Nat):Int)⟩):=h
 unfold va7;simp only[q9,m9];rw[h];cases vtx l<;>rfl
theorem id7(l:List Pln)(hF:∀p∈l,okp p=true)(hl:l.length<=1000000):ma6 l=vtx l:=by unfold ma6;rw[Mc8 l hF hl];rfl
theorem id8(l:List Pln)(hF:∀p∈l,okp p=true)(hl:l.length<=1000000):ma7 l=true:=by unfold ma7;rw[Mc8 l hF hl];rfl
theorem me5(l:List Pln):vtx l=true↔∃p q s,p∈l/\q∈l/\s∈l/\mw p q s≠0:=by
 unfold vtx;rw[Qjb];constructor
 ·rintro⟨a,ha,h⟩;obtain⟨c,hc,h⟩:=Qjb.1 h;rw[Qjn] at ha hc;obtain⟨r,hr,h⟩:=Qjb.1 h;have h:dot (c7 (gL tP l a).n (gL tP l c).n) r.n≠0:=bne_iff_ne.1 h;exact⟨_,_,r,db4 tP ha,db4 tP (show c<l.length by omega),hr,λe=>h (by rw[<- e];simp only[mw,dot,c7];grind)⟩
 ·rintro⟨p,q,s,hp,hq,hs,hw⟩;obtain⟨i',hi,rfl⟩:=Qju.1 hp;obtain⟨j',hj,rfl⟩:=Qju.1 hq;have hne:i'≠j':=λe=>hw (by subst e;simp only[mw,dot,c7];grind)
  rw[<- pb0 tP hi,<- pb0 tP hj] at hw
  rcases Qjah hne with h|h
  ·refine⟨j',Qjn.2 hj,Qjb.2 ⟨i',Qjn.2 h,Qjb.2 ⟨s,hs,?_⟩⟩⟩
   have:dot (c7 (gL tP l j').n (gL tP l i').n) s.n≠0:=λe=>hw (by
    rw[show mw (gL tP l i') (gL tP l j') s=-dot (c7 (gL tP l j').n (gL tP l i').n) s.n from by simp only[mw,dot,c7];grind,e]
    rfl)
   exact bne_iff_ne.2 this
  ·refine⟨i',Qjn.2 hi,Qjb.2 ⟨j',Qjn.2 h,Qjb.2 ⟨s,hs,?_⟩⟩⟩
   have:dot (c7 (gL tP l i').n (gL tP l j').n) s.n≠0:=λe=>hw (by rw[<- e];simp only[mw,dot,c7];grind)
   exact bne_iff_ne.2 this
structure OkF(F:List Pln):Prop where
 l:F.length<=1000000
 v:∀p∈F,okp p=true
noncomputable def own(F:List Pln)(v:V3):List Pln:=F.filter λp=>O6 p v==0
noncomputable def kv(F:List Pln)(v:V3):Bool:=vtx (own F v)
theorem Jd6(F:List Pln)(v:V3)(hF:F.length<=1000000):∃j,lp (fa9 ⟨F,(F.length:Int),F,v.x,v.y,v.z⟩) ⟨0,0,0,[]⟩=(phP (own F v)+1,⟨phP (own F v),((j:Nat):Int),(own F v).length,bL tP (own F v)⟩):=by
 have key:=P6 (step:=fa9 ⟨F,(F.length:Int),F,v.x,v.y,v.z⟩) (mk:=λj (o:List Pln)=>(⟨phP o,(j:Int),o.length,bL tP o⟩:l7)) F.length (λj o=>j<=F.length/\o=(F.take j).filter λp=>O6 p v==0) (λt s=>t=phP (own F v)+1/\∃j:Nat,s=⟨phP (own F v),(j:Int),(own F v).length,bL tP (own F v)⟩) (by omega)
  (λj o hj hi=>by
   obtain⟨_,hi⟩:=hi;have hlen:o.length<=1000000:=by
    rw[hi];have h1:=Qjan (λp=>O6 p v==0) (F.take j)
    have h2:=List.length_take_le j F;omega
   have hn:=D2 hj (show F.length<=4611686018427387904 by omega)
   have hb:=i9 hj;have hT:(F.take (j+1)).filter (λp=>O6 p v==0)=o++(if (O6 (gL tP F j) v==0)=true then [gL tP F j] else []):=by
    rw[mb4 tP hj,Qjab,<- hi,Qjw,List.filter_nil]
   have hnext : ∀ {s : l7} {o' : List Pln}, o' = (F.take (j + 1)).filter (fun p => O6 p v == 0) → s = ⟨phP o', ((j + 1 : Nat) : Int), o'.length, bL tP o'⟩ → Nx (.next s) (fun t => t = phP (own F v) + 1 ∧ ∃ j' : Nat, (⟨phP o, (j : Int), o.length, bL tP o⟩ : l7) = ⟨phP (own F v), (j' : Int), (own F v).length, bL tP (own F v)⟩)
     (λs=>∃o',s=(⟨phP o',((j+1:Nat):Int),o'.length,bL tP o'⟩:l7)/\(j+1<=F.length/\o'=(F.take (j+1)).filter λp=>O6 p v==0)):=λ{s o'} ho' hs=>.nx ⟨o',hs,by omega,ho'⟩
   clear hi
   cases o with
   |nil =>
    show Nx (F7 Stp.next Stp.exit Stp.fail _ _) _ _;simp only[F7,Int.toNat_natCast,Ab3,mb7,hn,hb];rw[btD (r7 hj)];cases hs:O6 (gL tP F j) v==0 with
    |true=>exact hnext (o':=[gL tP F j]) (by rw[hT,hs];rfl) rfl
    |false=>exact hnext (o':=[]) (by rw[hT,hs];rfl) rfl
   |cons q o =>
    have rr:(Nat.beq (q::o).length (len (bL tP (q::o)))&&Nat.ble (((q::o).length+1)*32) room)=true:=dc2 rfl (by omega)
    have ap:∀(O:List Pln) (p:Pln),app (bL tP O) [[i p.n.x,i p.n.y,i p.n.z,i p.b]]=bL tP (O++[p]):=λO p=>cb1 tP O [p]
    show Nx (F8 Stp.next Stp.exit Stp.fail _ _) _ _;simp only[F8,Int.toNat_natCast,Ab3,mb7,hn,hb,rr,ap];rw[btD (r7 hj)];cases hs:O6 (gL tP F j) v==0 with
    |true=>exact hnext (o':=q::o++[gL tP F j]) (by rw[hT,hs];rfl) (by rw[Qjc];rfl)
    |false=>exact hnext (o':=q::o) (by rw[hT,hs,if_neg (by simp),Qjs]) rfl)
  (λj o hj hi=>by
   obtain⟨h1,hi⟩:=hi;have e:j=F.length:=by omega
   subst e;have hO:o=own F v:=by rw[hi,List.take_length];rfl
   rw[<- hO];cases o with
   |nil =>
    refine⟨1,?_,rfl,F.length,rfl⟩;show F7 Stp.next Stp.exit Stp.fail _ _=_;simp only[F7];rw[bfD (A7 (Qje _))]
   |cons q o =>
    refine⟨2,?_,rfl,F.length,rfl⟩;show F8 Stp.next Stp.exit Stp.fail _ _=_;simp only[F8];rw[bfD (A7 (Qje _))]) 0 [] ⟨Qjm _,by simp⟩
 obtain⟨t,s,h1,rfl,j,rfl⟩:=key;exact⟨j,h1⟩
theorem Vc4(v:V3)(F:List Pln)(hF:OkF F):R7 ⟨v.x,v.y,v.z,F⟩=⟨1,!kv F v,F⟩:=by
 obtain⟨j,h⟩:=Jd6 F v hF.l;have hv:∀p∈own F v,okp p=true:=λp hp=>hF.v p (Qjl.1 hp).1
 have hl:(own F v).length<=1000000:=Nat.le_trans (Qjan _ _) hF.l;unfold R7 Z2 kv;simp only[q9,m9];rw[h];cases ho:own F v with
 |nil =>
  have e:ma6 []=vtx []:=id7 [] (λp hp=>by cases hp) (by simp)
  have e':ma7 []=true:=id8 [] (λp hp=>by cases hp) (by simp)
  rw[e,e'];rfl
 |cons q o =>
  rw[ho] at hv hl;simp only[Ib4,Wb4,id7 _ hv hl,id8 _ hv hl];rfl
theorem se5{α:Type}{l:List α}{n:Nat}{c:α->Bool}(h:(l.take n).any c=true):(l.take n).findIdx c<(l.take n).length:=by
 rw[Qjb] at h;obtain⟨p,hp,hc⟩:=h;exact Qjam ⟨p,hp,hc⟩
theorem me6(l:List V3)(n:Nat)(X:List Pln)(hn:n<=l.length)(hl:l.length<=1000000000)(hX:OkF X):V1 ⟨n,bL tV l,X⟩=⟨1,if (l.take n).any (λp=>!kv X p) then (((l.take n).findIdx (λp=>!kv X p):Nat):Int) else -1,X⟩:=by
 have hlen:(l.take n).length=n:=by rw[Qjd];omega
 have h:=ab4 (step:=F9 ⟨n,(n:Int),bL tV l⟩) (mk:=λj=>(⟨(j:Int),X⟩:o0)) (c:=λp=>!kv X p) (u:=1) (fin:=2) tV (l.take n) (by omega)
  (λj hj=>by
   rw[hlen] at hj;have hj':j<l.length:=by omega
   simp only[F9,D9,Int.toNat_natCast,q9,m9,zc5 hj',cc9 hj',Vc4 _ _ hX,zc7 tV l hj,D2 hj (show n<=4611686018427387904 by omega)]
   rw[btD (r7 hj),bt (i9 hj)]
   rfl)
  (by rw[hlen];simp only[F9,D9];rw[bfD (A7 (Qje _))]) 0 (Qjm _)
 rw[Qjr,hlen] at h;unfold V1 E5;simp only[q9,m9];rw[show (⟨0,X⟩:o0)=⟨((0:Nat):Int),X⟩ from rfl,h]
 cases ha:(l.take n).any λp=>!kv X p with
 |false=>rfl
 |true =>
  have hf:=se5 ha;rw[hlen] at hf;simp only[if_true,Qjf,Int.toNat_natCast,cc9 (show (l.take n).findIdx (λp=>!kv X p)<l.length by omega),Vc4 _ _ hX,q9]
  rfl
structure me7(l:List V3)(n:Nat)(f:V3->Bool)(cur:List V3)(m j:Nat):Prop where
 len:cur.length=l.length
 t:cur.take m=(l.take j).filter f
 d:cur.drop j=l.drop j
 le:m<=j
 lm:m<=n
theorem Vc5 (l : List V3) (n : Nat) (hnl : n ≤ l.length) (X : List Pln) (hl : l.length ≤ 1000000000) (hX : OkF X) (m j : Nat) (cur : List V3) (hd : me7 l n (kv X) cur m j) (hjn : j ≤ n) :
  ∃t s,lp (A6 ⟨n⟩) ⟨(m:Int),(j:Int),bL tV cur,X⟩=(t,s)/\(t=1/\∃m' cur',s=⟨((m':Nat):Int),((n:Nat):Int),bL tV cur',X⟩/\me7 l n (kv X) cur' m' n):=by
 refine P6 (step:=A6 ⟨n⟩) (mk:=λj (x:Nat×List V3)=>(⟨(x.1:Int),(j:Int),bL tV x.2,X⟩:r6)) n (λj x=>me7 l n (kv X) x.2 x.1 j/\j<=n) (λt s=>t=1/\∃m' cur',s=⟨((m':Nat):Int),((n:Nat):Int),bL tV cur',X⟩/\me7 l n (kv X) cur' m' n) (by omega) (λj x hj hx=>?_) (λj x hj hx=>?_) j (m,cur) ⟨hd,hjn⟩
 ·obtain⟨m,cur⟩:=x;obtain⟨⟨h1,h2,h3,h4,h5⟩,_⟩:=hx
  simp only at h1 h2 h3 h4 h5
  have hjc:j<cur.length:=by omega
  have hmc:m<cur.length:=by omega
  have hg:gL tV cur j=gL tV l j:=bc8 tV h3;have hWm:W ((m:Int)+1)=((m+1:Nat):Int):=by rw[I6 (by omega) (by omega)];omega
  have hb:Nat.blt m cur.length=true:=by rw[Nat.blt_eq];exact hmc
  have hrow:i7 (bL tV cur) m=tV.row (gL tV cur m):=O4 tV hmc;have sp:∀(v:V3) (x1 x2 x3:Int),P1 (tV.row v) 0 [i x1,i x2,i x3]=tV.row ⟨x1,x2,x3⟩:=λ_ _ _ _=>rfl
  have rl:∀v:V3,Nat.ble (0+3) (len (tV.row v))=true:=λ_=>rfl
  simp only[A6,E0,Int.toNat_natCast,q9,m9,zc5 hjc,cc9 hjc,Vc4 _ _ hX,D2 hj (show n<=4611686018427387904 by omega),hWm]
  rw[btD (r7 hj),bt (i9 hj)];simp only[Qjf,hrow,Ba7,hb,sp,Ka5,i9 (show m<n by omega),hg]
  have ht:=mb4 tV (show j<l.length by omega)
  have hd1:cur.drop (j+1)=l.drop (j+1):=Sb2 h3 1;cases hk:kv X (gL tV l j) with
  |true =>
   refine .nx ⟨(m+1,cur.set m (gL tV l j)),rfl,⟨by rw[Qjy];exact h1,?_,?_,by omega,by show m+1<=n;omega⟩,by omega⟩
   ·show (cur.set m (gL tV l j)).take (m+1)=_;rw[ht,Qjab,Qjak (by rw[Qjy];exact hmc),Qjay,List.take_set_of_le (Qjp _),h2,Qjw,hk,if_pos rfl,List.filter_nil]
   ·show (cur.set m (gL tV l j)).drop (j+1)=_;rw[List.drop_set_of_lt (by omega),hd1]
  |false =>
   refine .nx ⟨(m,cur),rfl,⟨h1,?_,hd1,by omega,h5⟩,by omega⟩
   show cur.take m=_;rw[ht,Qjab,h2,Qjw,hk,if_neg (by simp),List.filter_nil,Qjs]
 ·obtain⟨m,cur⟩:=x;obtain⟨hx,hjn⟩:=hx;have e:j=n:=by omega
  subst e;refine⟨1,?_,rfl,m,cur,rfl,hx⟩;simp only[A6,E0];rw[bfD (by omega)]
theorem sd5 (l : List V3) (n : Nat) (hnl : n ≤ l.length) (X : List Pln) (hl : l.length ≤ 1000000000) (hX : OkF X) :
  ∃m r,V5 ⟨n,bL tV l,X⟩=⟨1,m,bL tV r,X⟩/\m<=r.length/\r.take m=(l.take n).filter (kv X):=by
 have hlen:(l.take n).length=n:=by rw[Qjd];omega
 unfold V5 E6;simp only[q9,m9,me6 l n X hnl hl hX];cases ha:(l.take n).any λp=>!kv X p with
 |false =>
  refine⟨n,l,rfl,hnl,?_⟩
  symm
  rw[List.filter_eq_self];intro p hp
  have:=List.any_eq_false.1 ha p hp
  simpa using this
 |true =>
  have hf:=se5 ha;have hk:kv X (gL tV (l.take n) ((l.take n).findIdx λp=>!kv X p))=false:=by
   have:=Qjaf (xs:=l.take n) (p:=λp=>!kv X p) (w:=hf)
   rw[pb0 tV hf];simpa using this
  have ht:=Sb1 (λp=>!kv X p) (l.take n)
  simp only[Bool.not_not] at ht;generalize hF:(l.take n).findIdx (λp=>!kv X p)=F at *
  rw[hlen] at hf;rw[zc7 tV l hf] at hk;rw[Qjaz,Nat.min_eq_left (by omega)] at ht
  have hW:W ((F:Int)+1)=((F+1:Nat):Int):=D2 hf (by omega)
  have hne:((F:Int)==-1)=false:=by rw[beq_eq_false_iff_ne];omega
  obtain⟨t,s,e1,rfl,m,cur,e2,e3⟩:=Vc5 l n hnl X hl hX F (F+1) l ⟨rfl,by rw[mb4 tV (show F<l.length by omega),Qjab,ht,Qjw,hk,if_neg (by simp),List.filter_nil,Qjs],rfl,by omega,by omega⟩ (by omega)
  have hm:m<=n:=e3.lm;have hin:inB (m:Int) (n+1)=true:=i9 (by omega)
  simp only[if_true,hW,hne,e1,e2,Int.toNat_natCast,hin,Qjf,Nat.sub_zero];refine⟨m,cur.take m++(List.replicate (n-m) ⟨0,0,0⟩++cur.drop (m+(n-m))),?_,?_,?_⟩
  ·rw[hd7,hd8,zc6,cb1,cb1];rfl
  ·rw[Qjc,Qjc,Qjd,Qjba,e3.len];omega
  ·rw[Qjad (by rw[Qjd,e3.len];omega),Qjaz,Nat.min_self,e3.t]
noncomputable def ja7(F:List Pln)(l:List V3):List V3:=(dis l).filter (kv F)
theorem Vc6(a:V3)(l:List V3)(hl:l.length<=1000000):∃m r,ua0 (a,l)=⟨1,m,bL tV r⟩/\m<=r.length/\r.take m=dis (a::l)/\r.length<=1000000000:=by
 obtain⟨m,r,k1,k2,k3,k4⟩:=Tb4 a l hl;have hok:okL tV (l.length+1) (λk=>tV.row (gL tV (a::l) k))=true:=cb0 tV (f:=λk=>gL tV (a::l) k) λ_ _=>rfl
 have hr:=id1 (a::l) (by simp only[List.length_cons];omega) []
 rw[Qjs] at hr;unfold ua0 Z3;simp only[wd2,wd3,Mc2 a l hl,hok,k1,y7,Qjae,hr];exact⟨m,r,rfl,k2,k3,by omega⟩
end Go.Ev.Ce
namespace Go.Ev.Ce
open Go Go.Ev Go.Ev.L Go.Proofs Go.Sort
theorem Jd7(l:List V3)(a c k:Nat)(s:List Pln)(p:Pln):p∈Fb5 l a c s k↔p∈s\/((B9 (gL tV l k) (gL tV l c) (gL tV l a)).2=true/\(p=(B9 (gL tV l k) (gL tV l c) (gL tV l a)).1\/p=N8 (B9 (gL tV l k) (gL tV l c) (gL tV l a)).1)):=by
 unfold Fb5;generalize B9 (gL tV l k) (gL tV l c) (gL tV l a)=T;cases h2:T.2 with
 |false=>simp
 |true=>simp only[if_true,Wd8,true_and,or_assoc]
theorem Ce3(l:List V3)(p:Pln):p∈G0 l↔∃a,a<l.length/\∃c,c<a/\∃k,k<c/\((B9 (gL tV l k) (gL tV l c) (gL tV l a)).2=true/\(p=(B9 (gL tV l k) (gL tV l c) (gL tV l a)).1\/p=N8 (B9 (gL tV l k) (gL tV l c) (gL tV l a)).1)):=by
 have h:p∈G0 l↔p∈[]\/_:=Xa1 (λo a p=>Xa1 (λo c p=>Xa1 (λo k p=>Jd7 l a c k o p) o p c) o p a) [] p l.length
 rw[h];simp only[List.not_mem_nil,false_or]
theorem Vc7{f:List Pln->Nat->List Pln}(h:∀o k,o.Nodup->(f o k).Nodup){o:List Pln}(ho:o.Nodup):∀n,((List.range n).foldl f o).Nodup
 |0=>ho
 |n+1=>by rw[G9];exact h _ _ (Vc7 h ho n)
theorem Xd0(l:List V3):(G0 l).Nodup:=Vc7 (λo a ho=>Vc7 (λo c ho=>Vc7 (λo k ho=>by
 show (Fb5 l a c o k).Nodup;unfold Fb5;split
 ·exact Ac0 (Ac0 ho)
 ·exact ho) ho c) ho a) List.nodup_nil l.length
theorem me8{l:List V3}(hl:l.all inV=true)(p:Pln):p∈fil l (G0 l)↔Da7 l p:=by
 have hin:=Qja.1 hl;have hb:(!bey l p)=hold p l:=rfl;unfold fil;rw[Qjl,Ce3,hb];constructor
 ·rintro⟨⟨a,ha,c,hc,k,hk,h1,h2⟩,h3⟩;have ma:=gLm ha;have mc:=gLm (show c<l.length by omega)
  have mk:=gLm (show k<l.length by omega)
  have ht:=(ba6 h1).2
  rcases h2 with rfl|rfl
  ·exact pc1 mk mc ma ht ((ib3 ht.ok hl).1 h3)
  ·exact Tb2 mk mc ma ht ((ib3 (wb6 ht.ok) hl).1 h3)
 ·intro h;obtain⟨u,w,x,hu,hw,hx,h3,t1,t2,t3⟩:=h.on;obtain⟨a,ha,c,hc,k,hk,hn,hall⟩:=le2 hu hw hx h3;obtain⟨i1,i2,i3⟩:=hall (λv=>inV v=true) (hin u hu) (hin w hw) (hin x hx)
  obtain⟨e1,e2,e3⟩:=hall (λv=>dot p.n v=p.b) t1 t2 t3
  have h2:=ra0 i3 i2 i1 (Vd6 hn).2.2.1;exact⟨⟨a,ha,c,hc,k,hk,h2,wb7 (ba6 h2).2 h.ok e3 e2 e1⟩,(ib3 h.ok hl).2 h.hd⟩
theorem Mc9{l r:List V3}(h:∀v,v∈r↔v∈l){p:Pln}(hp:Da7 l p):Da7 r p:=by
 obtain⟨⟨hd,u,w,x,hu,hw,hx,e⟩,ok⟩:=hp;exact⟨⟨λv hv=>hd v ((h v).1 hv),u,w,x,(h u).2 hu,(h w).2 hw,(h x).2 hx,e⟩,ok⟩
theorem sd6{l:List Pln}(h:l.Nodup):La5 (Db6 l):=by
 have h1:=Uc1 l;have h2:(Db6 l).Nodup:=(yc8 l).nodup_iff.2 h;have h3:=h1.and h2;refine h3.imp λ{x y} ⟨k1,k2⟩=>?_
 rw[Ga6] at k1;have k1:¬ LtP y x:=by simpa using k1
 rcases yd5 x y with h|h|h
 ·exact h
 ·exact absurd h k2
 ·exact absurd h k1
theorem me9{l:List V3}(hl:l.all inV=true):(dis l).all inV=true:=Qja.2 λv hv=>Qja.1 hl v ((mb6 l v).1 hv)
theorem id9{l:List V3}(hl:l.all inV=true):Db6 (fil (dis l) (G0 (dis l)))=F0 l:=by
 refine cc3 (sd6 ((Xd0 (dis l)).filter _)) (cc4 l) λp=>?_
 rw[(yc8 _).mem_iff,me8 (me9 hl),C4 hl];exact⟨Mc9 λv=>(mb6 l v).symm,Mc9 (mb6 l)⟩
theorem se6{l:List V3}(hl:l.all inV=true)(h4:Sol l):F0 l≠[]:=λe=>by
 have h:=Ab1 h4 (Uc5 hl (c:=[]) λp hp=>by rw[<- C4 hl,e] at hp;exact hp) (x:=⟨100,0,0,1⟩) ⟨by show (0:Int)<1;omega,λp hp=>by cases hp⟩ (h:=⟨⟨1,0,0⟩,24⟩) λv hv=>by
  obtain⟨⟨a1,a2⟩,_,_⟩:=(ja6 v).1 (Qja.1 hl v hv);simp only[dot];omega
 simp only[rmZ] at h;omega
theorem ib5{l:List V3}(h48:l.length<=48)(hl:l.all inV=true)(h4:Sol l):Z4 l=0:=by
 have hin:=Qja.1 hl;unfold Z4;rw[if_neg (by omega),if_neg (by rw[<- List.not_all_eq_any_not,hl];simp)]
 have h1:(ixs l.length).any (sp1 l)=true:=by
  obtain⟨a,c,k,v,ha,hc,hk,hv,hd⟩:=h4;obtain⟨i',hi,j',hj,k',hk',hn,hall⟩:=le2 ha hc hk (zc4 hd);obtain⟨i1,i2,i3⟩:=hall (λv=>inV v=true) (hin _ ha) (hin _ hc) (hin _ hk)
  have ht:=ra0 i3 i2 i1 (Vd6 hn).2.2.1;have mem:∀{n m:Nat},m<n->((m:Nat):Int)∈ixs n:=λ{n m} h=>Qjg.2 ⟨m,Qjn.2 h,rfl⟩
  refine Qjb.2 ⟨_,mem hi,?_⟩;unfold sp1;rw[Int.toNat_natCast];refine Qjb.2 ⟨_,mem hj,?_⟩;unfold sp2;rw[Int.toNat_natCast];refine Qjb.2 ⟨gL tV l k',?_,ht⟩;rw[<- zc7 tV l hk'];exact db4 tV (by rw[Qjd];omega)
 have h2:Fb4 l=false:=by
  unfold Fb4;rw[if_pos h1];obtain⟨hi,k1⟩:=Ab4 h1;have k1:(ixs (iF l)).any (sp2 l (iF l))=true:=k1;obtain⟨hj,k2⟩:=Ab4 k1;have k2:(l.take (jF l)).any (λv=>(B9 v (gL tV l (jF l)) (gL tV l (iF l))).2)=true:=k2
  have hj:jF l<iF l:=hj;have hi:iF l<l.length:=hi;have hk:=Uc9 k2;have hk2:=Qjaf (xs:=l.take (jF l)) (p:=λv=>(B9 v (gL tV l (jF l)) (gL tV l (iF l))).2) (w:=hk)
  rw[<- pb0 tV hk,zc7 tV l (by rw[Qjd] at hk;omega)] at hk2
  have hok:okp (plF l)=true:=(ba6 hk2).2.ok;obtain⟨v,hv,hne⟩:=h4.off (Xa0 hok) (plF l).b;rw[Bool.not_eq_false',Qjb];refine⟨v,hv,?_⟩
  have:O6 (plF l) v≠0:=λe=>hne ((ib2 hok (hin v hv)).1 e)
  simpa using this
 rw[h2];rfl
theorem ne2(l r:List Pln)(n:Nat)(hn:n=l.length):(two (r1L tP) r1I).rd (.tup [.sl 0 0 n 0,i 0],[⟨60,4,bL tP (l++r),true,false,0⟩])=some (l,0):=by
 subst hn;have h:(r1L tP).rd [⟨60,4,bL tP (l++r),true,false,0⟩] (.sl 0 0 l.length 0)=some l:=by
  show Bool.rec (motive:=λ_=>Option (List Pln)) none (some (slR tP (bL tP (l++r)) 0 l.length)) (Bool.and true (okS tP (bL tP (l++r)) 0 l.length))=_
  rw[Td8 _ _ (by rw[Qjc];omega),Td9 _ _ (by rw[Qjc];omega),List.take_left']
  ·rfl
  ·rfl
 simp only[two,h];rfl
theorem Jd8(a:V3)(l:List V3)(h48:(a::l).length<=48)(hl:(a::l).all inV=true)(h4:Sol (a::l)):Rd (two (r1L tP) r1I) (ja5 (a,l)) (λr=>r=(F0 (a::l),0)):=by
 have hc:=ib5 h48 hl h4;have hdl:=Uc8 (a::l);have hll:l.length<=1000000:=by simp only[List.length_cons] at h48;omega
 obtain⟨j,e⟩:=Ce2 (dis (a::l)) (by omega)
 have hf:=id9 hl;have hne:fil (dis (a::l)) (G0 (dis (a::l)))≠[]:=λe=>by
  rw[e] at hf;have h0:Db6 []=[]:=Id5;rw[h0] at hf;exact se6 hl h4 hf.symm
 have hok:okL tV (l.length+1) (λk=>tV.row (gL tV (a::l) k))=true:=cb0 tV (f:=λk=>gL tV (a::l) k) λ_ _=>rfl
 have hlen:(fil (dis (a::l)) (G0 (dis (a::l)))).length<=1000000:=by
  have h1:=Vc1 (dis (a::l)) (G0 (dis (a::l)));have h2:(G0 (dis (a::l))).length<=_:=Vc2 (dis (a::l)) (by omega) _ (Qjp _)
  omega
 unfold ja5;simp only[q9,oa7,m9,wd2,wd3,hok,zc9 (a::l) (by omega),zc8 (a::l) (by omega),hc,rd9 a l hll,sd0 a l hll,e]
 generalize fil (dis (a::l)) (G0 (dis (a::l)))=O at *
 cases O with
 |nil=>exact absurd rfl hne
 |cons q o =>
  have hr:(Bool.and (Nat.ble (q::o).length room) (Bool.and (Nat.ble (q::o).length (len (bL tP (q::o)))) (okS tP (bL tP (q::o)) 0 (q::o).length)))=true:=by
   rw[Wb4,Ba7,Qjv,Qjv,Qjar,Qjar];refine⟨by unfold room;omega,Qjp _,rfl⟩
  simp only[phP,hr,Ib4,ke4,cb1,hf];exact⟨_,(F0 (a::l),0),rfl,ne2 _ _ _ (by rw[<- hf,zb8]),rfl⟩
theorem Xd1{l:List V3}(hl:l.all inV=true){v:V3}(hv:v∈l):kv (F0 l) v=true↔Spn (F0 l) v:=by
 have hin:=Qja.1 hl;have hs:∀p∈F0 l,(O6 p v==0)=true↔dot p.n v=p.b:=λp hp=>by rw[beq_iff_eq];exact ib2 (Vd5 hp).ok (hin v hv)
 unfold kv own;rw[me5];constructor
 ·rintro⟨p,q,s,hp,hq,hs',hw⟩;rw[Qjl] at hp hq hs';exact⟨p,q,s,hp.1,hq.1,hs'.1,hw,(hs p hp.1).1 hp.2,(hs q hq.1).1 hq.2,(hs s hs'.1).1 hs'.2⟩
 ·rintro⟨p,q,s,hp,hq,hs',hw,e1,e2,e3⟩;exact⟨p,q,s,Qjl.2 ⟨hp,(hs p hp).2 e1⟩,Qjl.2 ⟨hq,(hs q hq).2 e2⟩,Qjl.2 ⟨hs',(hs s hs').2 e3⟩,hw⟩
end Go.Ev.Ce
namespace Go.Ev.Ce
open Go Go.Ev Go.Ev.L Go.Proofs
structure B8(v:V3):Prop where
 x:Sm 8 v.x
 y:Sm 8 v.y
 z:Sm 8 v.z
structure Mp(l:List V3):Prop where
 l4:4<=l.length
 l8:l.length<=8
 bd:∀v∈l,Sm 11 v.x/\Sm 11 v.y/\Sm 11 v.z
 nf:nf0 l=true
theorem Mp.inV{l:List V3}(h:Mp l):l.all inV=true:=Qja.2 λv hv=>by
 obtain⟨h1,h2,h3⟩:=h.bd v hv;exact (ja6 v).2 ⟨h1.mono (by omega),h2.mono (by omega),h3.mono (by omega)⟩
theorem Ke7{l:List V3}(hl:l.all Ce.inV=true)(h4:Sol l):nf0 l=true:=by
 have hin:=Qja.1 hl;obtain⟨a,c,k,v,ha,hc,hk,hv,hd⟩:=h4;obtain⟨i',hi,j',hj,k',hk',hn,hall⟩:=le2 ha hc hk (zc4 hd);obtain⟨i1,i2,i3⟩:=hall (λv=>Ce.inV v=true) (hin _ ha) (hin _ hc) (hin _ hk)
 have ht:=ra0 i1 i2 i3 hn;refine Qjb.2 ⟨i',Qjn.2 hi,Qjb.2 ⟨j',Qjn.2 hj,Qjb.2 ⟨k',Qjn.2 hk',?_⟩⟩⟩;unfold nf Id9;rw[ht,Bool.true_and,Qjb];have hok:=(ba6 ht).2.ok;obtain⟨w,hw,hne⟩:=Sol.off ⟨a,c,k,v,ha,hc,hk,hv,hd⟩ (Xa0 hok) (B9 (gL tV l i') (gL tV l j') (gL tV l k')).1.b;refine⟨w,hw,?_⟩
 have:O6 (B9 (gL tV l i') (gL tV l j') (gL tV l k')).1 w≠0:=λe=>hne ((ib2 hok (hin w hw)).1 e)
 simpa using this
theorem Xd2{l:List V3}(h4:4<=l.length)(h8:l.length<=8)(hb:∀v∈l,B8 v)(hf:nf0 l=true):Mp l:=⟨h4,h8,λv hv=>⟨(hb v hv).x.mono (by omega),(hb v hv).y.mono (by omega),(hb v hv).z.mono (by omega)⟩,hf⟩
theorem Ce4{l:List V3}(h4:4<=l.length)(h8:l.length<=8)(hb:∀v∈l,B8 v):Mp (((l.set 1 ⟨W ((gL tV l 0).x-3),(gL tV l 0).y,(gL tV l 0).z⟩).set 2 ⟨(gL tV l 0).x,W ((gL tV l 0).y-2),(gL tV l 0).z⟩).set 3 ⟨(gL tV l 0).x,(gL tV l 0).y,W ((gL tV l 0).z-1)⟩):=by
 match l,h4,h8,hb with
 |a::b::c::d::l,h4,h8,hb =>
  have ha:=hb a Qjj;have g0:gL tV (a::b::c::d::l) 0=a:=rfl;rw[g0];obtain⟨x1,x2⟩:=ha.x;obtain⟨y1,y2⟩:=ha.y;obtain⟨z1,z2⟩:=ha.z;rw[I6 (n:=a.x-3) (by omega) (by omega),I6 (n:=a.y-2) (by omega) (by omega),I6 (n:=a.z-1) (by omega) (by omega)]
  show Mp (a::⟨a.x-3,a.y,a.z⟩::⟨a.x,a.y-2,a.z⟩::⟨a.x,a.y,a.z-1⟩::l);have bd:∀v∈(a::⟨a.x-3,a.y,a.z⟩::⟨a.x,a.y-2,a.z⟩::⟨a.x,a.y,a.z-1⟩::l:List V3),Sm 11 v.x/\Sm 11 v.y/\Sm 11 v.z:=λv hv=>by
   simp only[Qjk] at hv;unfold Sm
   rcases hv with rfl|rfl|rfl|rfl|hv
   ·omega
   ·simp only;omega
   ·simp only;omega
   ·simp only;omega
   ·have:=hb v (by simp[hv])
    obtain⟨⟨k1,k2⟩,⟨k3,k4⟩,k5,k6⟩:=this;omega
  refine⟨by simp only[List.length_cons];omega,by simp only[List.length_cons] at h8 ⊢;omega,bd,Ke7 (Qja.2 λv hv=>?_) ?_⟩
  ·obtain⟨h1,h2,h3⟩:=bd v hv;exact (ja6 v).2 ⟨h1.mono (by omega),h2.mono (by omega),h3.mono (by omega)⟩
  ·refine⟨a,⟨a.x-3,a.y,a.z⟩,⟨a.x,a.y-2,a.z⟩,⟨a.x,a.y,a.z-1⟩,by simp,by simp,by simp,by simp,?_⟩
   have e:dot (N3 a ⟨a.x-3,a.y,a.z⟩ ⟨a.x,a.y-2,a.z⟩) (c9 ⟨a.x,a.y,a.z-1⟩ a)=-6:=by simp only[dot,N3,c7,c9];grind
   rw[e];decide
theorem Xd3 (x : List Int) (N : Nat) (h4 : 4 ≤ N) (h8 : N ≤ 8) (j0 : Int) (hj0 : 0 ≤ j0 ∧ j0 ≤ 10) :
  ∃idx out,lp (ca8 ⟨(N:Int)⟩) ⟨0,0,x,j0,0,[]⟩=(2,⟨1,(N:Int),x,idx,N,bL tV out⟩)/\out.length=N/\∀v∈out,B8 v:=by
 have key:=P6 (step:=ca8 ⟨(N:Int)⟩) (mk:=λj (a:Int×List V3)=>(⟨phV a.2,(j:Int),x,a.1,a.2.length,bL tV a.2⟩:o9)) N
  (λj a=>a.2.length=j/\0<=a.1/\a.1<=10+4*j/\j<=N/\∀v∈a.2,B8 v) (λt s=>t=2/\∃idx out,s=⟨1,(N:Int),x,idx,N,bL tV out⟩/\out.length=N/\∀v∈out,B8 v) (by omega) (λj a hj ha=>?_) (λj a hj ha=>?_) 0 (j0,[]) ⟨rfl,hj0.1,by omega,by omega,λv hv=>by cases hv⟩
 ·obtain⟨t,s,e1,rfl,idx,out,e2,e3⟩:=key;exact⟨idx,out,by rw[<- e2];exact e1,e3.1,e3.2⟩
 ·obtain⟨at0,out⟩:=a;obtain⟨ho,ha1,ha2,_,hB⟩:=ha
  simp only at ho ha1 ha2 hB
  have hn:=D2 hj (show N<=4611686018427387904 by omega)
  obtain⟨v1,j1,d1,p1,q1,c1,b1⟩:=Ja7 17 x at0 ha1 (by omega) (by omega) (by omega)
  obtain⟨v2,j2,d2,p2,q2,c2,b2⟩:=Ja7 17 x j1 (by omega) (by omega) (by omega) (by omega)
  obtain⟨v3,j3,d3,p3,q3,c3,b3⟩:=Ja7 17 x j2 (by omega) (by omega) (by omega) (by omega)
  obtain⟨v4,j4,d4,_,_,c4,b4⟩:=Ja7 6 x j3 (by omega) (by omega) (by omega) (by omega)
  have s1:Sm 8 (W (v1-8)):=by unfold Sm;rw[I6 (by omega) (by omega)];omega
  have s2:Sm 8 (W (v2-8)):=by unfold Sm;rw[I6 (by omega) (by omega)];omega
  have s3:Sm 8 (W (v3-8)):=by unfold Sm;rw[I6 (by omega) (by omega)];omega
  have leaf : ∀ (E : Nat → Prop) (x1 x2 x3 : Int), Sm 8 x1 → Sm 8 x2 → Sm 8 x3 → Nx (.next (⟨1, ((j + 1 : Nat) : Int), x, j4, j + 1, bL tV (out ++ [⟨x1, x2, x3⟩])⟩ : o9)) E
    (λs=>∃a':Int×List V3,s=⟨phV a'.2,((j+1:Nat):Int),x,a'.1,a'.2.length,bL tV a'.2⟩/\a'.2.length=j+1/\0<=a'.1/\a'.1<=10+4*((j+1:Nat):Int)/\j+1<=N/\∀v∈a'.2,B8 v):=λE x1 x2 x3 k1 k2 k3=>by
   have hl:(out++[(⟨x1,x2,x3⟩:V3)]).length=j+1:=by simp[ho]
   exact .nx ⟨(j4,out++[⟨x1,x2,x3⟩]),by simp only[Tc9,hl],hl,by show 0<=j4;omega,by show j4<=_;omega,by omega,λv hv=>by
    rcases Qjaa.1 hv with h|h
    ·exact hB v h
    ·rw[Qjap.1 h];exact⟨k1,k2,k3⟩⟩
  cases out with
  |nil =>
   have hj0':j=0:=by simpa using ho.symm
   subst hj0';show Nx (Q6 Stp.next Stp.exit Stp.fail _ _) _ _;simp only[Q6,q9,m9,d1,d2,d3,d4,hn];rw[btD (r7 hj)];have f1:decide (((0:Nat):Int)>1)=false:=rfl;have f2:decide (((0:Nat):Int)>0)=false:=rfl;have f3:decide (((0:Nat):Int)>2)=false:=rfl;have lf:∀(E:Nat->Prop) (x1 x2 x3:Int),Sm 8 x1->Sm 8 x2->Sm 8 x3->Nx (.next (⟨1,((0+1:Nat):Int),x,j4,1,[[i x1,i x2,i x3]]⟩:o9)) E _:=leaf;simp only[f1,f2,f3,Ta7,Qjae,Qjx,y7];refine Nx.sl (λ_=>?_) (λ_=>?_)<;>refine Nx.sl (λ_=>?_) (λ_=>?_)
   all_goals first
    |exact lf _ _ _ _ (by assumption) (by assumption) (by assumption)
    |(refine Nx.sl (λ_=>?_) (λ_=>?_)<;>exact lf _ _ _ _ (by assumption) (by assumption) (by assumption))
  |cons o os =>
   have h1:1<=j:=by simp only[List.length_cons] at ho;omega
   generalize hO:o::os=O at *
   have hph:phV O=1:=by subst hO;rfl
   have w1:W ((j:Int)-1)=((j-1:Nat):Int):=by rw[I6 (by omega) (by omega)];omega
   have i1:inB ((j-1:Nat):Int) j=true:=i9 (by omega)
   have r1:=ke2 (l:=O) (m:=j-1) (by omega)
   have r1':=se2 (l:=O) (m:=j-1) (by omega)
   have rr:=Td6 ho (by omega)
   have gx:∀m,m<O.length->Sm 8 (toI (hdA (i6 (i7 (bL tV O) (0+m)) 0)))/\Sm 8 (toI (hdA (tlA (i6 (i7 (bL tV O) (0+m)) 0))))/\Sm 8 (toI (hdA (tlA (tlA (i6 (i7 (bL tV O) (0+m)) 0)))))/\Sm 8 (toI (hdA (i6 (i7 (bL tV O) (0+m)) 2))):=λm hm=>by
    rw[Qjf,O4 tV hm]
    have:=hB _ (db4 tV hm)
    exact⟨this.x,this.y,this.z,this.z⟩
   have md:∀{A C:Int},Sm 8 A->Sm 8 C->Sm 8 (W (Int.tdiv (W (A+C)) 2)):=λ{A C} ⟨h1,h2⟩ ⟨h3,h4⟩=>by
    unfold Sm;rw[I6 (n:=A+C) (by omega) (by omega)]
    obtain⟨m1,m2,m3⟩:=gd0 (x:=A+C) (y:=2) (by omega)
    rw[I6 (by omega) (by omega)]
    omega
   obtain⟨gx1,gy1,gz1,gw1⟩:=gx (j-1) (by omega)
   have f2:∀{inst:Decidable ((j:Int)>0)},@decide ((j:Int)>0) inst=true:=decide_eq_true (by omega)
   show Nx (sel (Nat.beq (phV O) 1) (o5 Stp.next Stp.exit Stp.fail _ _) _) _ _;rw[hph];show Nx (o5 Stp.next Stp.exit Stp.fail _ _) _ _;by_cases h2:2<=j
   ·have w2:W ((j:Int)-2)=((j-2:Nat):Int):=by rw[I6 (by omega) (by omega)];omega
    have i2:inB ((j-2:Nat):Int) j=true:=i9 (by omega)
    have r2:=ke2 (l:=O) (m:=j-2) (by omega)
    obtain⟨gx2,gy2,gz2,gw2⟩:=gx (j-2) (by omega)
    have mx:=md gx1 gx2;have my:=md gy1 gy2;have mz:=md gz1 gz2;simp only[o5,q9,m9,d1,d2,d3,d4,hn,ho,w1,w2,i1,i2,Int.toNat_natCast,r1,r1',r2,rr,Sb0];rw[btD (r7 hj)];simp only[Qjae,Qjx,y7]
    repeat' (first | exact leaf _ _ _ _ (by assumption) (by assumption) (by assumption) | refine Nx.sl (λ_=>?_) (λ_=>?_))
   ·have hj1:j=1:=by omega
    subst hj1;simp only[o5,q9,m9,d1,d2,d3,d4,hn,ho,w1,i1,Int.toNat_natCast,r1,r1',rr,Sb0];have f1:decide (((1:Nat):Int)>1)=false:=rfl;rw[btD (r7 hj)];simp only[f1,Ta7,Qjae,Qjx,y7]
    repeat' (first | exact leaf _ _ _ _ (by assumption) (by assumption) (by assumption) | refine Nx.sl (λ_=>?_) (λ_=>?_))
 ·obtain⟨at0,out⟩:=a;obtain⟨ho,ha1,ha2,hjN,hB⟩:=ha
  simp only at ho ha1 ha2 hB
  have hj':j=N:=by omega
  subst hj';cases out with
  |nil=>simp only[List.length_nil] at ho;omega
  |cons o os =>
   refine⟨2,?_,rfl,at0,o::os,by rw[ho];rfl,ho,hB⟩
   show o5 Stp.next Stp.exit Stp.fail _ _=_;simp only[o5];rw[bfD (by omega)]
theorem Jd9(x:List Int):Rd (one (r1L tV)) (ja1 x) Mp:=by
 obtain⟨v,j,e1,a1,b1,c1,d1⟩:=Ja7 5 x 0 (by omega) (by omega) (by omega) (by omega)
 have hN:W (4+v)=(((4+v).toNat:Nat):Int):=by rw[I6 (by omega) (by omega)];omega
 obtain⟨idx,out,e2,e3,hB⟩:=Xd3 x (4+v).toNat (by omega) (by omega) j (by omega)
 unfold ja1;simp only[q9,m9,e1,hN,e2];have h4:4<=(4+v).toNat:=by omega
 have h8:(4+v).toNat<=8:=by omega
 generalize (4+v).toNat=N at *
 have s1:lsL tV N (λk=>i7 (bL tV out) (0+k))=out:=by rw[<- e3];exact Ib4 tV out
 have s2:okL tV N (λk=>i7 (bL tV out) (0+k))=true:=by rw[<- e3];exact Wb4 tV out
 have gf:Ga9 out=true:=Td5 out (by omega)
 rw[s1,s2,gf,Ae9 out (by omega)]
 simp only[Qjae,Qjx,y7,show Nat.beq 2 1=false from rfl,Ta7]
 refine Rd.sl (λ_=>?_) λhnf=>Uc0 e3.symm rfl (Xd2 (by omega) (by omega) hB (by simpa using hnf))
 have i0:inB 0 N=true:=i9 (j:=0) (by omega)
 have i1:inB 1 N=true:=i9 (j:=1) (by omega)
 have i2:inB 2 N=true:=i9 (j:=2) (by omega)
 have i3:inB 3 N=true:=i9 (j:=3) (by omega)
 have sp:∀(v:V3) (x1 x2 x3:Int),P1 (tV.row v) 0 [i x1,i x2,i x3]=tV.row ⟨x1,x2,x3⟩:=λ_ _ _ _=>rfl
 have rl:∀v:V3,Nat.ble (0+3) (len (tV.row v))=true:=λ_=>rfl
 have ck:∀v:V3,na9 [CK.int .i64,CK.int .i64,CK.int .i64] (i6 (tV.row v) 0)=true:=λ_=>rfl
 have gr:∀(l:List V3) (k:Nat),l.length=N->k<4->i7 (bL tV l) k=tV.row (gL tV l k):=λl k hl hk=>O4 tV (by omega)
 have bl:∀(l:List V3) (k:Nat),l.length=N->k<4->Nat.blt k (len (bL tV l))=true:=λl k hl hk=>by rw[Ba7,Nat.blt_eq];omega
 have ls:∀(l:List V3) (k:Nat) (v:V3),l.length=N->(l.set k v).length=N:=λl k v hl=>by rw[Qjy];exact hl
 rw[gr out 0 e3 (by omega),gr out 1 e3 (by omega)]
 simp only[sp,Ka5];rw[gr _ 2 (ls out 1 _ e3) (by omega)]
 simp only[sp,Ka5];rw[gr _ 3 (ls _ 2 _ (ls out 1 _ e3)) (by omega)]
 simp only[sp,Ka5,rl,ck,i0,i1,i2,i3,bl out 0 e3 (by omega),bl out 1 e3 (by omega),bl _ 2 (ls out 1 _ e3) (by omega),bl _ 3 (ls _ 2 _ (ls out 1 _ e3)) (by omega),Qjx,y7]
 exact Uc0 (by simp only[Qjy];omega) rfl (Ce4 (by omega) (by omega) hB)
theorem jd0(x:List Int):Mp (r4 x):=(Jd9 x).p
theorem J4{l:List V3}(h:Z4 l=0):l.length<=48/\l.all inV=true/\Sol l:=by
 unfold Z4 at h
 split at h
 ·cases h
 rename_i h48
 split at h
 ·cases h
 rename_i hin
 split at h
 ·cases h
 rename_i hf;have hl:l.all inV=true:=by
  rw[Qja];intro v hv;cases hi:inV v with
  |true=>rfl
  |false=>exact absurd (Qjb.2 ⟨v,hv,by rw[hi];rfl⟩) hin
 have hin2:=Qja.1 hl;refine⟨by omega,hl,?_⟩
 have hf:Fb4 l=false:=Bool.eq_false_iff.2 hf;unfold Fb4 at hf
 split at hf
 ·rename_i h1;obtain⟨hi,k1⟩:=Ab4 h1;have k1:(ixs (iF l)).any (sp2 l (iF l))=true:=k1;obtain⟨hj,k2⟩:=Ab4 k1;have k2:(l.take (jF l)).any (λv=>(B9 v (gL tV l (jF l)) (gL tV l (iF l))).2)=true:=k2
  have hj:jF l<iF l:=hj;have hi:iF l<l.length:=hi;have hk:=Uc9 k2;have hk2:=Qjaf (xs:=l.take (jF l)) (p:=λv=>(B9 v (gL tV l (jF l)) (gL tV l (iF l))).2) (w:=hk)
  rw[Qjd] at hk;rw[<- pb0 tV (by rw[Qjd];exact hk),zc7 tV l (by omega)] at hk2
  have ht:=(ba6 hk2).2;rw[Bool.not_eq_false',Qjb] at hf;obtain⟨v,hv,hne⟩:=hf;have hne:O6 (plF l) v≠0:=bne_iff_ne.1 hne;have ht:Thr (gL tV l (kF l)) (gL tV l (jF l)) (gL tV l (iF l)) (plF l):=ht;have hkl:kF l<l.length:=by
   have:kF l<min (jF l) l.length:=hk
   omega
  have hoff:dot (plF l).n v≠(plF l).b:=λe=>hne ((ib2 ht.ok (hin2 v hv)).2 e)
  refine⟨_,_,_,v,gLm hkl,gLm (show jF l<l.length by omega),gLm hi,hv,λh0=>hoff ?_⟩
  obtain⟨ok,⟨g,hg,e1,e2,e3⟩,o⟩:=ht;have e:g*(dot (plF l).n v-(plF l).b)=dot (N3 (gL tV l (kF l)) (gL tV l (jF l)) (gL tV l (iF l))) (c9 v (gL tV l (kF l))):=by
   have e1:g*(plF l).n.x=(N3 (gL tV l (kF l)) (gL tV l (jF l)) (gL tV l (iF l))).x:=e1;have e2:g*(plF l).n.y=(N3 (gL tV l (kF l)) (gL tV l (jF l)) (gL tV l (iF l))).y:=e2;have e3:g*(plF l).n.z=(N3 (gL tV l (kF l)) (gL tV l (jF l)) (gL tV l (iF l))).z:=e3;rw[o];simp only[dot];rw[<- e1,<- e2,<- e3];simp only[c9]
   grind
  rw[h0] at e
  have:=(Qjh.1 e).resolve_left (by omega)
  omega
 ·cases hf
noncomputable def ca3(l:List V3):List Pln×Int:=if Z4 l=0 then (F0 l,0) else ([],Z4 l)
noncomputable def lc7(l:List V3):List V3×Int:=if Z4 l=0 then (ja7 (F0 l) l,0) else ([],Z4 l)
theorem Tb5{l:List V3}(h48:l.length<=48)(hl:l.all inV=true):(F0 l).length<=1000000:=by
 have h1:=Vc1 (dis l) (G0 (dis l));have hd:=Uc8 l;have h2:(G0 (dis l)).length<=_:=Vc2 (dis l) (by omega) _ (Qjp _)
 rw[<- id9 hl,zb8];omega
theorem mb9(a:V3)(l:List V3)(hl:l.length<=900000):Rd (two (r1L tP) r1I) (ja5 (a,l)) (λr=>r=ca3 (a::l)):=by
 by_cases h:Z4 (a::l)=0
 ·obtain⟨h1,h2,h3⟩:=J4 h;unfold ca3;rw[if_pos h];exact Jd8 a l h1 h2 h3
 ·have hll:(a::l).length<=1000000:=by simp only[List.length_cons];omega
  have hne:(Z4 (a::l) != 0)=true:=bne_iff_ne.2 h;unfold ca3 ja5;rw[if_neg h];simp only[q9,oa7,m9,zc9 (a::l) hll,zc8 (a::l) hll,hne,y7];exact⟨_,([],Z4 (a::l)),rfl,rfl,rfl⟩
theorem Tb6:Z4 []=11:=by
 unfold Z4 Fb4;rfl
noncomputable def Gc5(l:List V3):List Pln×Int:=ca3 l
noncomputable def Fb6(l:List V3):Bool:=decide (1<=l.length/\l.length<=900000)
noncomputable def Gc6:Sum:=L9 (ya3 tV) λl=>.guard (Fb6 l) (.ret ((two (r1L tP) r1I).enc (Gc5 l),[]))
theorem Ac2:i5 prog G 22 Gc6:=by
 refine Sd6 (zb9 Eb5 λa r hr=>?_) (zb9 vb7 λa r hr=>?_) (zb9 vb8 λa r hr=>?_)
 ·obtain⟨p,c⟩:=a;obtain⟨hg,hr⟩:=DT.run_guard_some hr;have hl:c.length<=900000:=by
   have:=(of_decide_eq_true hg).2
   simp only[List.length_cons] at this;omega
  have hp:Qa3 (p,c)=ca3 (p::c):=(mb9 p c hl).p;have hq:Qa4 (p,c)=true:=(mb9 p c hl).g;rw[hp,hq];exact hr
 ·obtain⟨hg,hr⟩:=DT.run_guard_some hr;exact absurd (of_decide_eq_true hg).1 (by simp)
 ·obtain⟨hg,hr⟩:=DT.run_guard_some hr;exact absurd (of_decide_eq_true hg).1 (by simp)
theorem Tb7(a:V3)(l:List V3)(hl:l.length<=900000):Rd (two (r1L tV) r1I) (qa9 (a,l)) (λr=>r=lc7 (a::l)):=by
 have hok:okL tV (l.length+1) (λk=>tV.row (gL tV (a::l) k))=true:=cb0 tV (f:=λk=>gL tV (a::l) k) λ_ _=>rfl
 have hp:Qa3 (a,l)=ca3 (a::l):=(mb9 a l hl).p;have hq:Qa4 (a,l)=true:=(mb9 a l hl).g;unfold lc7;unfold qa9;simp only[q9,oa7,m9,wd2,wd3,hok,hp,hq,y7];unfold ca3;by_cases h:Z4 (a::l)=0
 ·obtain⟨h1,h2,h3⟩:=J4 h;have hF:OkF (F0 (a::l)):=⟨Tb5 h1 h2,λp hp=>(Vd5 hp).ok⟩
  obtain⟨m,r,e1,e2,e3,e4⟩:=Vc6 a l (by omega)
  obtain⟨m',r',k1,k2,k3⟩:=sd5 r m e2 (F0 (a::l)) e4 hF;rw[if_pos h,if_pos h];simp only[e1,k1];refine⟨_,(r'.take m',0),rfl,?_,by rw[k3,e3];rfl⟩
  have h:(r1L tV).rd [⟨25,3,bL tV r',true,false,0⟩] (.sl 0 0 m' 0)=some (r'.take m'):=by
   show Bool.rec (motive:=λ_=>Option (List V3)) none (some (slR tV (bL tV r') 0 m')) (Bool.and true (okS tV (bL tV r') 0 m'))=_
   rw[Mc1 _ _ k2,dc1 _ _ k2];rfl
  simp only[two,h];rfl
 ·have hne:(Z4 (a::l) != 0)=true:=bne_iff_ne.2 h;rw[if_neg h,if_neg h];simp only[hne,y7];exact⟨_,([],Z4 (a::l)),rfl,rfl,rfl⟩
noncomputable def lc8(l:List V3):List V3×Int:=lc7 l
noncomputable def pb4(l:List V3):Bool:=decide (1<=l.length/\l.length<=900000)
noncomputable def lc9:Sum:=L9 (ya3 tV) λl=>.guard (pb4 l) (.ret ((two (r1L tV) r1I).enc (lc8 l),[]))
theorem dc3:i5 prog G 32 lc9:=by
 refine Sd6 (zb9 kc6 λa r hr=>?_) (zb9 ac7 λa r hr=>?_) (zb9 ac9 λa r hr=>?_)
 ·obtain⟨p,c⟩:=a;obtain⟨hg,hr⟩:=DT.run_guard_some hr;have hl:c.length<=900000:=by
   have:=(of_decide_eq_true hg).2
   simp only[List.length_cons] at this;omega
  have hp:vb5 (p,c)=lc7 (p::c):=(Tb7 p c hl).p;have hq:vb6 (p,c)=true:=(Tb7 p c hl).g;rw[hp,hq];exact hr
 ·obtain⟨hg,hr⟩:=DT.run_guard_some hr;exact absurd (of_decide_eq_true hg).1 (by simp)
 ·obtain⟨hg,hr⟩:=DT.run_guard_some hr;exact absurd (of_decide_eq_true hg).1 (by simp)
set_option maxRecDepth 100000
structure ne3 where
 (ia3 ia4 ia5 ue4 e7 d9 g7:Int)
structure ne4 where
 alt:Nat
 bs0:Bool
structure Dc0 where
 ba0:List Pln
 (e7 d9 g7:Int)
structure pc3 where
 ba0:List Pln
 (is7 e7 d9 g7:Int)
structure pc4 where
 is8:Int
structure Dc1 where
 alt:Nat
 is0:Int
structure mc1 where
 ba0:List Pln
 (e7 d9 g7:Int)
structure mc2 where
 alt:Nat
 bs0:Bool
noncomputable def gc5:List (Nat×Sum):=[]
theorem Vc8:k9 prog G gc5:=trivial
structure Da8 where
 Fa0:List V3
 Fe5:Int
structure ea4 where
 (yb0 ka0 ka1 ka2 xa8 xa9 ya0:Int)
noncomputable def Fb7(p:Da8)(s:ea4):St:=⟨.unk::.unk::.ptr 0 0 0 0::.ptr 1 0 0 0::.unk::.ptr 2 0 0 0::.ptr 3 0 0 0::ra 13 (eL tV p.Fa0::i p.Fe5::i s.yb0::ra 38 []),[⟨0,3,[[i 0,i 0,i 0]],true,false,0⟩,⟨0,3,[[i 0,i 0,i 0]],true,false,0⟩,⟨0,3,[[i s.ka0,i s.ka1,i s.ka2]],true,false,0⟩,⟨0,3,[[i s.xa8,i s.xa9,i s.ya0]],true,false,0⟩]⟩
noncomputable def ra1{α:Type}(k:ea4->α)(e:Nat->α)(z:α)(p:Da8)(s:ea4):α:=(sl (decide (s.yb0<p.Fe5)) (sl (inB s.yb0 (List.length p.Fa0)) (k ⟨W (s.yb0+1),(if (gL tV p.Fa0 s.yb0.toNat).x<s.ka0 then (gL tV p.Fa0 s.yb0.toNat).x else s.ka0),(if (gL tV p.Fa0 s.yb0.toNat).y<s.ka1 then (gL tV p.Fa0 s.yb0.toNat).y else s.ka1),(if (gL tV p.Fa0 s.yb0.toNat).z<s.ka2 then (gL tV p.Fa0 s.yb0.toNat).z else s.ka2),(if (gL tV p.Fa0 s.yb0.toNat).x>s.xa8 then (gL tV p.Fa0 s.yb0.toNat).x else s.xa8),(if (gL tV p.Fa0 s.yb0.toNat).y>s.xa9 then (gL tV p.Fa0 s.yb0.toNat).y else s.xa9),(if (gL tV p.Fa0 s.yb0.toNat).z>s.ya0 then (gL tV p.Fa0 s.yb0.toNat).z else s.ya0)⟩) z) (e 1))
noncomputable def ma8(p:Da8)(s:ea4):Stp ea4:=ra1 .next .exit .fail p s
noncomputable def nb0:Lo Da8 ea4:=⟨En gc5,0,He5,[1,1,1,0,1,4,4],[2,3,5,6,20,21,22],.p,[⟨sUq::sUq::sPq 0::sPq 1::sUq::sPq 2::sPq 3::ru2 13 (sLq tV::sIq::sIq::ru2 38 []),[⟨0,3,true,some [[.o (.lit .i64 0),.o (.lit .i64 0),.o (.lit .i64 0)]]⟩,⟨0,3,true,some [[.o (.lit .i64 0),.o (.lit .i64 0),.o (.lit .i64 0)]]⟩,⟨0,3,true,some [kLq 3]⟩,⟨0,3,true,some [kLq 3]⟩],λa H=>(⟨aLq tV a 20,aIq a 21⟩,⟨aIq a 22,hIq H 2 0 0,hIq H 2 0 1,hIq H 2 0 2,hIq H 3 0 0,hIq H 3 0 1,hIq H 3 0 2⟩)⟩],ma8,[(some 0,λp s=>upq (Fb7 p s) [(23,b (decide (s.yb0<p.Fe5)))])],Fb7⟩
theorem Gc7:nb0.Ok:=Lo.ok [] (by kernel_rfl) .nil rfl (.cons (λa H=>by kernel_rfl) .nil) λp s=>(.of @ra1 (λF _ _ _ _ _=>by unfold ra1;(repeat' apply u7 (f:=F))<;>rfl) (by kernel_rfl))
noncomputable def Xa2(x:List V3):Option (b7×List c8):=let t1:=(lp (ma8 (⟨rt tV x,(↑(List.length x):Int)⟩:Da8)) (⟨0,(gL tV x 0).x,(gL tV x 0).y,(gL tV x 0).z,(gL tV x 0).x,(gL tV x 0).y,(gL tV x 0).z⟩:ea4));(sl ((↑(List.length x):Int)==0) (some (.tup [.agg [i 0,i 0,i 0],.agg [i 0,i 0,i 0],b false],[])) (sl (inB 0 (List.length x)) (sl (inB 0 (List.length x)) (sl ((cnE tV x)&&true) (sl (Nat.beq t1.1 1) (some (.tup [.agg [i t1.2.ka0,i t1.2.ka1,i t1.2.ka2],.agg [i t1.2.xa8,i t1.2.xa9,i t1.2.ya0],b true],[])) none) none) none) none))
noncomputable def Ha6(x:List V3):V3×V3×Bool:=W0 (Ob3 r1V r1V r1B) (Xa2 x)
noncomputable def Ha7(x:List V3):Bool:=okO (Ob3 r1V r1V r1B) (Xa2 x)
noncomputable def Kb3:Sum:=L9 (ya3 tV) (λx=>.guard (Ha7 x) (.ret ((Ob3 r1V r1V r1B).enc (Ha6 x),[])))
theorem gc6:i5 prog G 25 Kb3:=Ga2 (bd b25 Vc8) (Ob3 r1V r1V r1B) (o:=Xa2) λx=>fb5 (.s .p (.s .p (.s .p (.s (.s .p (.b (.u nb0.ls))) .p)))) [nb0.pr] (by kernel_rfl) (.cons Gc7 .nil) (by kernel_rfl)
structure se7 where
 j5:List V3
 (e7 d9 g7:Int)
structure se8 where
 is5:Int
structure Xd4 where
 ba0:List Pln
 (e7 d9 g7:Int)
structure Xd5 where
 ph:Nat
 is6:Int
 ns5:Nat
 eh1:List (List b7)
structure Xd6 where
 ns5:Nat
 (is7 is8:Int)
 eh0:List (List b7)
structure Xd7 where
 ph:Nat
 is9:Int
structure Xd8 where
 is7:Int
structure Xd9 where
 (ph ns5:Nat)
 is8:Int
 eh0:List (List b7)
structure Yd0 where
structure Yd1 where
 ph:Nat
 is7:Int
 ns5:Nat
 eh0:List (List b7)
structure Ld6 where
 j5:List V3
 Me8:List Pln
structure Ld7 where
 ph:Nat
 is7:Int
 ue5:List V3
structure se9 where
 j5:List V3
structure te0 where
 (is7 ka0 ka1 ka2 xa8 xa9 ya0:Int)
structure Ce5 where
 Xa9:List V3
 (e7 d9 g7 j9:Int)
structure Ce6 where
 ph:Nat
 is6:Int
 ns5:Nat
 eh1:List (List b7)
structure ne5 where
 Xa9:List V3
 (e7 d9 g7 q8 o7 o4 ka0 ka1 ka2:Int)
structure ne6 where
 is9:Int
structure ne7 where
 Xa9:List V3
 (is8 e7 d9 g7 j9 q8 o7 o4:Int)
structure ne8 where
 (is7 is9:Int)
structure ne9 where
 (e7 d9 g7 j9 q8 o7 o4:Int)
structure oe0 where
 Xa9:List V3
 (is7 is8:Int)
structure te1 where
 j5:List V3
 Me8:List Pln
 ue5:List V3
structure te2 where
 (is8 is9:Int)
noncomputable def Ac3:List (Nat×Sum):=[]
theorem mc3:k9 prog G Ac3:=trivial
noncomputable def Ka0(x:V3)(y:V3):Option (b7×List c8):=(some (.sl 0 0 8 0,[⟨25,3,[[i x.x,i x.y,i x.z],[i y.x,i x.y,i x.z],[i x.x,i y.y,i x.z],[i y.x,i y.y,i x.z],[i x.x,i x.y,i y.z],[i y.x,i x.y,i y.z],[i x.x,i y.y,i y.z],[i y.x,i y.y,i y.z]],true,false,0⟩]))
noncomputable def wa1(x:V3)(y:V3):List V3:=W0 (one (r1L tV)) (Ka0 x y)
noncomputable def wa2(x:V3)(y:V3):Bool:=okO (one (r1L tV)) (Ka0 x y)
noncomputable def eb1:Sum:=Ga1 (W9 tV) (W9 tV) (λx y=>.guard (wa2 x y) (.ret ((one (r1L tV)).enc (wa1 x y),[])))
theorem wb8:i5 prog G 24 eb1:=Wb5 (bd b24 mc3) (one (r1L tV)) (o:=Ka0) λx y=>C8 (by kernel_rfl)
structure ga0 where
 (ia3 ia4 ia5:Int)
 Cd1:Nat
 ce8:Nat->List b7
 (ce9 de0 de1:Int)
noncomputable def La6:List (Nat×Sum):=[(27,Ka9),(36,ma4),(35,pa0)]
theorem qb2:k9 prog G La6:=⟨Pa1,pa2,ta0,trivial⟩
structure P8 where
 Me9:Nat
 Kb9:Nat->List b7
 (Cb5 e7 d9 g7:Int)
 qe4:Nat
 qe5:Nat->List b7
 (q8 o7 o4:Int)
structure o2 where
 (wa6 xa8 xa9 ya0:Int)
noncomputable def Da9(p:P8)(s:o2):St:=⟨.unk::.unk::.ptr 0 0 0 0::.ptr 1 0 0 0::.ptr 2 0 0 0::.ptr 3 0 0 0::ra 4 (.tree 3 p.Me9 p.Kb9::i p.Cb5::i s.wa6::ra 27 []),[⟨0,4,[[i p.e7,i p.d9,i p.g7,.tree 3 p.qe4 p.qe5]],true,false,0⟩,⟨0,3,[[i p.q8,i p.o7,i p.o4]],true,false,0⟩,⟨0,3,[[i 0,i 0,i 0]],true,false,0⟩,⟨0,3,[[i s.xa8,i s.xa9,i s.ya0]],true,false,0⟩]⟩
noncomputable def A8{α:Type}(k:o2->α)(e:Nat->α)(z:α)(p:P8)(s:o2):α:=let t1:=(D1 (⟨s.xa8,s.xa9,s.ya0⟩:V3) (⟨p.q8,p.o7,p.o4⟩:V3));let t2:=(D1 (⟨toI (hdA (p.Kb9 s.wa6.toNat)),toI (hdA (tlA (p.Kb9 s.wa6.toNat))),toI (hdA (tlA (tlA (p.Kb9 s.wa6.toNat))))⟩:V3) (⟨p.q8,p.o7,p.o4⟩:V3));let t3:=(B4 t1 t2);let t4:=(z6 (⟨p.e7,p.d9,p.g7⟩:V3) t3);(sl (decide (s.wa6<p.Cb5)) (sl (inB s.wa6 p.Me9) (sl ((Nat.ble 3 (len (p.Kb9 s.wa6.toNat)))&&(na9 [CK.int .i64,CK.int .i64,CK.int .i64] (p.Kb9 s.wa6.toNat))) (sl (!(((toI (hdA (p.Kb9 s.wa6.toNat)))==p.q8)&&(((toI (hdA (tlA (p.Kb9 s.wa6.toNat))))==p.o7)&&(((toI (hdA (tlA (tlA (p.Kb9 s.wa6.toNat)))))==p.o4)&&true)))) (sl ((s.xa8==p.q8)&&((s.xa9==p.o7)&&((s.ya0==p.o4)&&true))) (k ⟨W (s.wa6+1),toI (hdA (p.Kb9 s.wa6.toNat)),toI (hdA (tlA (p.Kb9 s.wa6.toNat))),toI (hdA (tlA (tlA (p.Kb9 s.wa6.toNat))))⟩) (sl (decide (t4<0)) (k ⟨W (s.wa6+1),toI (hdA (p.Kb9 s.wa6.toNat)),toI (hdA (tlA (p.Kb9 s.wa6.toNat))),toI (hdA (tlA (tlA (p.Kb9 s.wa6.toNat))))⟩) (k ⟨W (s.wa6+1),s.xa8,s.xa9,s.ya0⟩))) (k ⟨W (s.wa6+1),s.xa8,s.xa9,s.ya0⟩)) z) z) (e 1))
noncomputable def N9(p:P8)(s:o2):Stp o2:=A8 .next .exit .fail p s
noncomputable def na8:Lo P8 o2:=⟨En La6,0,He9,[1,1,0,1,4,4],[2,3,4,5,10,11,12],.p,[⟨sUq::sUq::sPq 0::sPq 1::sPq 2::sPq 3::ru2 4 (sTq 3::sIq::sIq::ru2 27 []),[⟨0,4,true,some [[.o (.int .i64),.o (.int .i64),.o (.int .i64),.o (.tree 3)]]⟩,⟨0,3,true,some [kLq 3]⟩,⟨0,3,true,some [[.o (.lit .i64 0),.o (.lit .i64 0),.o (.lit .i64 0)]]⟩,⟨0,3,true,some [kLq 3]⟩],λa H=>(⟨aNq a 10,aGq a 10,aIq a 11,hIq H 0 0 0,hIq H 0 0 1,hIq H 0 0 2,hNq H 0 0 3,hGq H 0 0 3,hIq H 1 0 0,hIq H 1 0 1,hIq H 1 0 2⟩,⟨aIq a 12,hIq H 3 0 0,hIq H 3 0 1,hIq H 3 0 2⟩)⟩],N9,[(some 0,λp s=>upq (Da9 p s) [(13,b (decide (s.wa6<p.Cb5)))])],Da9⟩
theorem nb1:na8.Ok:=Lo.ok [] (by kernel_rfl) .nil rfl (.cons (λa H=>by kernel_rfl) .nil) λp s=>(.of @A8 (λF _ _ _ _ _=>by unfold A8;(repeat' apply u7 (f:=F))<;>rfl) (by kernel_rfl))
structure ga1 where
 alt:Nat
 (ia3 ia4 ia5:Int)
noncomputable def O5{α:Type}(kk:ga1->α)(x:ga0):α:=let t1:=(lp (N9 (⟨x.Cd1,x.ce8,(↑x.Cd1:Int),x.ia3,x.ia4,x.ia5,x.Cd1,x.ce8,x.ce9,x.de0,x.de1⟩:P8)) (⟨0,x.ce9,x.de0,x.de1⟩:o2));(sl (Nat.beq t1.1 1) (kk ⟨1,t1.2.xa8,t1.2.xa9,t1.2.ya0⟩) (kk ⟨0,0,0,0⟩))
noncomputable def X2(x:ga0):ga1:=O5 (λr=>r) x
noncomputable def ra2(x:ga0)(r:ga1):DT (b7×List c8):=(.ite (Nat.beq r.alt 1) (.ret (.agg [i r.ia3,i r.ia4,i r.ia5],[])) .fail)
theorem Cb3{α β:Type}(F:α->β)(kk:ga1->α)(x:ga0):F (O5 kk x)=O5 (λr=>F (kk r)) x:=by unfold O5;(repeat' apply u7 (f:=F))<;>rfl
noncomputable def Oa4:Sum:=kb7 ⟨[.agg [.o (.int .i64),.o (.int .i64),.o (.int .i64),.o (.tree 3)],.agg (kLq 3)],[],λa H=>(⟨cIq a 0 0,cIq a 0 1,cIq a 0 2,cNq a 0 3,cGq a 0 3,cIq a 1 0,cIq a 1 1,cIq a 1 2⟩,())⟩ (λx=>ra2 x (X2 x))
theorem wb9:i5 prog G 38 Oa4:=ba4 (enc:=λx=>⟨[.agg [i x.ia3,i x.ia4,i x.ia5,.tree 3 x.Cd1 x.ce8],.agg [i x.ce9,i x.de0,i x.de1]],[]⟩) (λa H=>by kernel_rfl) (bd b38 qb2) λx=>fb5 (.s .p (.s .p (.s (.s .p (.b (.u na8.ls))) .p))) [na8.pr] (by kernel_rfl) (.cons nb1 .nil) (Eq.trans (b:=O5 (λr=>(ra2 x r).run) x) (by kernel_rfl) (Cb3 (λr=>(ra2 x r).run) (λr=>r) x).symm)
noncomputable def Fb8:List (Nat×Sum):=[(36,ma4),(35,pa0)]
theorem Ac4:k9 prog G Fb8:=⟨pa2,ta0,trivial⟩
@[reducible] noncomputable def nb2:Sum:=Lb6 (En Fb8) He7
theorem Fb9:i5 prog G 34 nb2:=bd b34 Ac4
structure Qa7 where
 (ia3 ia4 ia5 is1 Nc3 Nc4 Nc5:Int)
 Nc6:Nat
 Nc7:Nat->List b7
 e7:Int
noncomputable def Gb0:List (Nat×Sum):=[(38,Oa4),(36,ma4),(35,pa0),(34,nb2)]
theorem Ac5:k9 prog G Gb0:=⟨wb9,pa2,ta0,Fb9,trivial⟩
structure ra3 where
 (Nc3 Nc4 Nc5:Int)
 Nc6:Nat
 Nc7:Nat->List b7
 (Vb0 q8 o7 o4:Int)
structure T6 where
 (qe6 e7 ka0 ka1 ka2:Int)
noncomputable def pb5(p:ra3)(s:T6):St:=⟨.unk::.unk::.fn 100038 [i p.Nc3,i p.Nc4,i p.Nc5,.tree 3 p.Nc6 p.Nc7]::.fn 34 [.ptr 0 0 0 0]::.ptr 1 0 0 0::ra 3 (.ptr 2 0 0 0::ra 5 (i p.Vb0::i s.qe6::ra 11 [])),[⟨0,1,[[i s.e7]],true,false,0⟩,⟨0,3,[[i p.q8,i p.o7,i p.o4]],true,false,0⟩,⟨0,3,[[i s.ka0,i s.ka1,i s.ka2]],true,false,0⟩]⟩
noncomputable def R8{α:Type}(k:T6->α)(e:Nat->α)(z:α)(p:ra3)(s:T6):α:=let t1:=(X2 ⟨p.Nc3,p.Nc4,p.Nc5,p.Nc6,p.Nc7,s.ka0,s.ka1,s.ka2⟩);let t2:=(B4 (⟨p.q8,p.o7,p.o4⟩:V3) (⟨s.ka0,s.ka1,s.ka2⟩:V3));let t3:=(z6 t2 (⟨t1.ia3,t1.ia4,t1.ia5⟩:V3));(sl (decide (s.qe6<p.Vb0)) (sl (Nat.beq t1.alt 1) (k ⟨W (s.qe6+1),W (s.e7+t3),t1.ia3,t1.ia4,t1.ia5⟩) z) (e 1))
noncomputable def la9(p:ra3)(s:T6):Stp T6:=R8 .next .exit .fail p s
noncomputable def Xa3:Lo ra3 T6:=⟨En Gb0,1,He8,[1,1,1,4,4],[2,3,4,8,14,15],.p,[⟨sUq::sUq::.fn 100038 [.o (.int .i64),.o (.int .i64),.o (.int .i64),.o (.tree 3)]::.fn 34 [.o (.ptr 0 0 0 0)]::sPq 1::ru2 3 (sPq 2::ru2 5 (sIq::sIq::ru2 11 [])),[⟨0,1,true,some [[.o (.int .i64)]]⟩,⟨0,3,true,some [kLq 3]⟩,⟨0,3,true,some [kLq 3]⟩],λa H=>(⟨cIq a 2 0,cIq a 2 1,cIq a 2 2,cNq a 2 3,cGq a 2 3,aIq a 14,hIq H 1 0 0,hIq H 1 0 1,hIq H 1 0 2⟩,⟨aIq a 15,hIq H 0 0 0,hIq H 2 0 0,hIq H 2 0 1,hIq H 2 0 2⟩)⟩],la9,[(some 0,λp s=>upq (pb5 p s) [(16,b (decide (s.qe6<p.Vb0)))])],pb5⟩
theorem mc4:Xa3.Ok:=Lo.ok [] (by kernel_rfl) .nil rfl (.cons (λa H=>by kernel_rfl) .nil) λp s=>(.of @R8 (λF _ _ _ _ _=>by unfold R8;(repeat' apply u7 (f:=F))<;>rfl) (by kernel_rfl))
structure Qa8 where
 alt:Nat
 e7:Int
noncomputable def ua1{α:Type}(kk:Qa8->α)(x:Qa7):α:=let t1:=(X2 ⟨x.Nc3,x.Nc4,x.Nc5,x.Nc6,x.Nc7,x.ia3,x.ia4,x.ia5⟩);let t2:=(lp (la9 (⟨x.Nc3,x.Nc4,x.Nc5,x.Nc6,x.Nc7,W (x.is1-2),x.ia3,x.ia4,x.ia5⟩:ra3)) (⟨0,x.e7,t1.ia3,t1.ia4,t1.ia5⟩:T6));(sl (Nat.beq t1.alt 1) (sl (Nat.beq t2.1 1) (kk ⟨1,t2.2.e7⟩) (kk ⟨0,0⟩)) (kk ⟨0,0⟩))
noncomputable def Qa9(x:Qa7):Qa8:=ua1 (λr=>r) x
noncomputable def eb2(x:Qa7)(r:Qa8):DT (b7×List c8):=(.ite (Nat.beq r.alt 1) (.ret (.tup [],[⟨0,1,[[i r.e7]],true,false,0⟩])) .fail)
theorem Vc9{α β:Type}(F:α->β)(kk:Qa8->α)(x:Qa7):F (ua1 kk x)=ua1 (λr=>F (kk r)) x:=by unfold ua1;(repeat' apply u7 (f:=F))<;>rfl
noncomputable def Tb8:Sum:=kb7 ⟨[.agg (kLq 3),sIq,.fn 100038 [.o (.int .i64),.o (.int .i64),.o (.int .i64),.o (.tree 3)],.fn 34 [.o (.ptr 0 0 0 0)]],[⟨0,1,true,some [[.o (.int .i64)]]⟩],λa H=>(⟨cIq a 0 0,cIq a 0 1,cIq a 0 2,aIq a 1,cIq a 2 0,cIq a 2 1,cIq a 2 2,cNq a 2 3,cGq a 2 3,hIq H 0 0 0⟩,())⟩ (λx=>eb2 x (Qa9 x))
theorem Gc8:i5 prog G 37 Tb8:=ba4 (enc:=λx=>⟨[.agg [i x.ia3,i x.ia4,i x.ia5],i x.is1,.fn 100038 [i x.Nc3,i x.Nc4,i x.Nc5,.tree 3 x.Nc6 x.Nc7],.fn 34 [.ptr 0 0 0 0]],[⟨0,1,[[i x.e7]],true,false,0⟩]⟩) (λa H=>by kernel_rfl) (bd b37 Ac5) λx=>fb5 (.s .p (.s .p (.s .p (.b (.u Xa3.ls))))) [Xa3.pr] (by kernel_rfl) (.cons mc4 .nil) (Eq.trans (b:=ua1 (λr=>(eb2 x r).run) x) (by kernel_rfl) (Vc9 (λr=>(eb2 x r).run) (λr=>r) x).symm)
theorem Wc0:Ja5 []=ca3 []/\Ja6 []=true:=by
 have h:wa0 []=some (.tup [.v (.slice none 0 0),i 11],[]):=by
  unfold wa0;simp only[q9,oa7,m9,zc9 [] (by simp),zc8 [] (by simp),Tb6]
  rfl
 unfold Ja5 Ja6 ca3;rw[h,Tb6];exact⟨rfl,rfl⟩
theorem Ke8:Na8 []=lc7 []/\Na9 []=true:=by
 have h:la8 []=some (.tup [.v (.slice none 0 0),i 11],[]):=by
  unfold la8;simp only[q9,oa7,m9,Wc0.1,Wc0.2,ca3,Tb6];rfl
 unfold Na8 Na9 lc7;rw[h,Tb6];exact⟨rfl,rfl⟩
theorem Ad0 {α : Type} {f : Nat} {c : Cod α} {k kA kB : α → DT (b7 × List c8)} (hA : i5 prog G f (L9 c kA)) (hB : i5 prog G f (L9 c kB))
  (h:∀a r,(k a).run=some r->(kA a).run=some r\/(kB a).run=some r):i5 prog G f (L9 c k):=λargs blks r out he=>by
 unfold L9 at he
 split at he
 ·rename_i x;cases hd:c.dec x with
  |none=>rw[hd] at he;cases he
  |some a =>
   rw[hd] at he;obtain⟨h1,h2⟩:=DT.run_guard_some (show (DT.guard (c.grd x) (k a)).run=some (r,out) from he)
   rcases h a _ h2 with q|q
   ·refine hA [x] [] r out ?_;show (onO (c.dec x) λa=>DT.guard (c.grd x) (kA a)).run=_
    rw[hd];show (DT.guard (c.grd x) (kA a)).run=_;rw[h1];exact q
   ·refine hB [x] [] r out ?_;show (onO (c.dec x) λa=>DT.guard (c.grd x) (kB a)).run=_
    rw[hd];show (DT.guard (c.grd x) (kB a)).run=_;rw[h1];exact q
 ·cases he
noncomputable def wa3(l:List V3):List Pln×Int:=ca3 l
noncomputable def wa4(l:List V3):Bool:=decide (l.length<=900000)
noncomputable def eb3:Sum:=L9 (ya3 tV) λl=>.guard (wa4 l) (.ret ((two (r1L tP) r1I).enc (wa3 l),[]))
theorem xb0:i5 prog G 22 eb3:=Ad0 Ac2 vb9 λl r hr=>by
 obtain⟨hg,hr⟩:=DT.run_guard_some hr;cases l with
 |nil=>right;rw[Wc0.1,Wc0.2];exact hr
 |cons a c =>
  left
  have:=of_decide_eq_true hg
  rw[show Fb6 (a::c)=true from decide_eq_true ⟨by simp,this⟩]
  exact hr
noncomputable def Oa0(l:List V3):List V3×Int:=lc7 l
noncomputable def Oa1(l:List V3):Bool:=decide (l.length<=900000)
noncomputable def pb6:Sum:=L9 (ya3 tV) λl=>.guard (Oa1 l) (.ret ((two (r1L tV) r1I).enc (Oa0 l),[]))
theorem dc4:i5 prog G 32 pb6:=Ad0 dc3 bc3 λl r hr=>by
 obtain⟨hg,hr⟩:=DT.run_guard_some hr;cases l with
 |nil=>right;rw[Ke8.1,Ke8.2];exact hr
 |cons a c =>
  left
  have:=of_decide_eq_true hg
  rw[show pb4 (a::c)=true from decide_eq_true ⟨by simp,this⟩]
  exact hr
noncomputable def eb4:List (Nat×Sum):=[(32,pb6),(22,eb3),(30,ta4),(37,Tb8),(34,nb2)]
theorem Ac6:k9 prog G eb4:=⟨dc4,xb0,va1,Gc8,Fb9,trivial⟩
structure O0 where
 pb8:List V3
 ia2:List Pln
 (ud5 eb7:Int)
 za1:List V3
 (ud6 e7 q8 o7 o4 Ra2 ka0 ka1 ka2:Int)
structure p8 where
 ph:Nat
 Ya6:Int
 Ra3:Nat
 eh3:List (List b7)
noncomputable def ib6(p:O0)(s:p8):St:=⟨ra 4 (eL tV p.pb8::.unk::.unk::.ptr 0 0 0 0::.fn 34 [.ptr 0 0 0 0]::.unk::.ptr 1 0 0 0::.ptr 2 0 0 0::ra 19 (eL tP p.ia2::i p.ud5::i p.eb7::ra 6 (eL tV p.za1::i p.ud6::i s.Ya6::ra 31 []))),[⟨0,1,[[i p.e7]],true,false,0⟩,⟨0,4,[[i p.q8,i p.o7,i p.o4,i p.Ra2]],true,false,0⟩,⟨0,0,[[i p.ka0,i p.ka1,i p.ka2,.v (.slice none 0 0)]],true,false,0⟩]⟩
noncomputable def ib7(p:O0)(s:p8):St:=⟨ra 4 (eL tV p.pb8::.unk::.unk::.ptr 0 0 0 0::.fn 34 [.ptr 0 0 0 0]::.unk::.ptr 1 0 0 0::.ptr 2 0 0 0::ra 19 (eL tP p.ia2::i p.ud5::i p.eb7::ra 6 (eL tV p.za1::i p.ud6::i s.Ya6::ra 31 []))),[⟨0,1,[[i p.e7]],true,false,0⟩,⟨0,4,[[i p.q8,i p.o7,i p.o4,i p.Ra2]],true,false,0⟩,⟨0,0,[[i p.ka0,i p.ka1,i p.ka2,.sl 3 0 s.Ra3 0]],true,false,0⟩,⟨25,3,s.eh3,true,false,0⟩]⟩
noncomputable def mc5(p:O0)(s:p8):St:=(sel (Nat.beq s.ph 1) (ib7 p s) (ib6 p s))
noncomputable def R9{α:Type}(k:p8->α)(e:Nat->α)(z:α)(p:O0)(s:p8):α:=let t1:=(K3 (⟨(⟨p.q8,p.o7,p.o4⟩:V3),p.Ra2⟩:Pln) (gL tV p.za1 s.Ya6.toNat));(sl (decide (s.Ya6<p.ud6)) (sl (inB s.Ya6 (List.length p.za1)) (sl (S5 (⟨(⟨p.q8,p.o7,p.o4⟩:V3),p.Ra2⟩:Pln) (gL tV p.za1 s.Ya6.toNat)) (sl (t1==0) (k ⟨1,W (s.Ya6+1),1,[[i (gL tV p.za1 s.Ya6.toNat).x,i (gL tV p.za1 s.Ya6.toNat).y,i (gL tV p.za1 s.Ya6.toNat).z]]⟩) (k ⟨0,W (s.Ya6+1),0,[]⟩)) z) z) (e 1))
noncomputable def S1{α:Type}(k:p8->α)(e:Nat->α)(z:α)(p:O0)(s:p8):α:=let t1:=(K3 (⟨(⟨p.q8,p.o7,p.o4⟩:V3),p.Ra2⟩:Pln) (gL tV p.za1 s.Ya6.toNat));(sl (decide (s.Ya6<p.ud6)) (sl (inB s.Ya6 (List.length p.za1)) (sl (S5 (⟨(⟨p.q8,p.o7,p.o4⟩:V3),p.Ra2⟩:Pln) (gL tV p.za1 s.Ya6.toNat)) (sl (t1==0) (sl (Nat.beq s.Ra3 (len s.eh3)&&Nat.ble ((s.Ra3+1)*24) room) (k ⟨1,W (s.Ya6+1),s.Ra3+1,app s.eh3 [[i (gL tV p.za1 s.Ya6.toNat).x,i (gL tV p.za1 s.Ya6.toNat).y,i (gL tV p.za1 s.Ya6.toNat).z]]⟩) z) (k ⟨1,W (s.Ya6+1),s.Ra3,s.eh3⟩)) z) z) (e 2))
noncomputable def ma0(p:O0)(s:p8):Stp p8:=(sel (Nat.beq s.ph 1) (S1 .next .exit .fail p s) (R9 .next .exit .fail p s))
noncomputable def Xa4:Lo O0 p8:=⟨En eb4,0,ye3,[1,1,1,1,1,1,1,0,1,4,4,1,1,0,4,1,1,0,1,4,4],[4,7,8,10,11,31,32,33,40,41,42],.p,[⟨ru2 4 (sLq tV::sUq::sUq::sPq 0::.fn 34 [.o (.ptr 0 0 0 0)]::sUq::sPq 1::sPq 2::ru2 19 (sLq tP::sIq::sIq::ru2 6 (sLq tV::sIq::sIq::ru2 31 []))),[⟨0,1,true,some [[.o (.int .i64)]]⟩,⟨0,4,true,some [kLq 4]⟩,⟨0,0,true,some [[.o (.int .i64),.o (.int .i64),.o (.int .i64),.o .nil]]⟩],λa H=>(⟨aLq tV a 4,aLq tP a 31,aIq a 32,aIq a 33,aLq tV a 40,aIq a 41,hIq H 0 0 0,hIq H 1 0 0,hIq H 1 0 1,hIq H 1 0 2,hIq H 1 0 3,hIq H 2 0 0,hIq H 2 0 1,hIq H 2 0 2⟩,⟨0,aIq a 42,0,[]⟩)⟩,⟨ru2 4 (sLq tV::sUq::sUq::sPq 0::.fn 34 [.o (.ptr 0 0 0 0)]::sUq::sPq 1::sPq 2::ru2 19 (sLq tP::sIq::sIq::ru2 6 (sLq tV::sIq::sIq::ru2 31 []))),[⟨0,1,true,some [[.o (.int .i64)]]⟩,⟨0,4,true,some [kLq 4]⟩,⟨0,0,true,some [[.o (.int .i64),.o (.int .i64),.o (.int .i64),.o (.sl 3 0 (some 0) none)]]⟩,⟨25,3,true,none⟩],λa H=>(⟨aLq tV a 4,aLq tP a 31,aIq a 32,aIq a 33,aLq tV a 40,aIq a 41,hIq H 0 0 0,hIq H 1 0 0,hIq H 1 0 1,hIq H 1 0 2,hIq H 1 0 3,hIq H 2 0 0,hIq H 2 0 1,hIq H 2 0 2⟩,⟨1,aIq a 42,slN (slT (rwT (elT H 2) 0) 3),elT H 3⟩)⟩],ma0,[(some 2,λp s=>upq (ib6 p s) [(43,b (decide (s.Ya6<p.ud6)))]),(some 2,λp s=>upq (ib7 p s) [(43,b (decide (s.Ya6<p.ud6)))])],mc5⟩
theorem mc6:Xa4.OkM:=Lo.okM [] (by kernel_rfl) .nil rfl (.cons (λa H=>by kernel_rfl) (.cons (λa H=>by kernel_rfl) .nil)) λp s=>(.sel (Nat.beq s.ph 1) (.of @S1 (λF _ _ _ _ _=>by unfold S1;(repeat' apply u7 (f:=F))<;>rfl) (by kernel_rfl)) (.of @R9 (λF _ _ _ _ _=>by unfold R9;(repeat' apply u7 (f:=F))<;>rfl) (by kernel_rfl)))
structure ra4 where
 ud5:Int
structure K1 where
 pb8:List V3
 ia2:List Pln
 (eb7 e7:Int)
noncomputable def pb7(p:ra4)(s:K1):St:=⟨ra 4 (eL tV s.pb8::.unk::.unk::.ptr 0 0 0 0::.fn 34 [.ptr 0 0 0 0]::ra 22 (eL tP s.ia2::i p.ud5::i s.eb7::ra 40 [])),[⟨0,1,[[i s.e7]],true,false,0⟩]⟩
noncomputable def S3{α:Type}(k:K1->α)(e:Nat->α)(z:α)(p:ra4)(s:K1):α:=let t1:=(lp (ma0 (⟨rt tV s.pb8,rt tP s.ia2,p.ud5,s.eb7,rt tV s.pb8,(↑(List.length s.pb8):Int),s.e7,(gL tP s.ia2 s.eb7.toNat).n.x,(gL tP s.ia2 s.eb7.toNat).n.y,(gL tP s.ia2 s.eb7.toNat).n.z,(gL tP s.ia2 s.eb7.toNat).b,(gL tP s.ia2 s.eb7.toNat).n.x,(gL tP s.ia2 s.eb7.toNat).n.y,(gL tP s.ia2 s.eb7.toNat).n.z⟩:O0)) (⟨0,0,0,[]⟩:p8));let t2:=(Qa9 ⟨(rdR tV t1.2.eh3 0).x,(rdR tV t1.2.eh3 0).y,(rdR tV t1.2.eh3 0).z,(↑t1.2.Ra3:Int),(gL tP s.ia2 s.eb7.toNat).n.x,(gL tP s.ia2 s.eb7.toNat).n.y,(gL tP s.ia2 s.eb7.toNat).n.z,t1.2.Ra3,(λk=>i7 t1.2.eh3 (0+k)),s.e7⟩);(sl (decide (s.eb7<p.ud5)) (sl (inB s.eb7 (List.length s.ia2)) (sl ((cnE tV s.pb8)&&((cnE tP s.ia2)&&((cnE tV s.pb8)&&true))) (sl (Nat.beq t1.1 1) (k ⟨rt tV s.pb8,rt tP s.ia2,W (s.eb7+1),s.e7⟩) (sl (Nat.beq t1.1 2) (sl (decide ((↑t1.2.Ra3:Int)>2)) (sl (inB 0 t1.2.Ra3) (sl (ldR tV t1.2.eh3 0) (sl (Nat.beq t2.alt 1) (k ⟨rt tV s.pb8,rt tP s.ia2,W (s.eb7+1),t2.e7⟩) z) z) z) (k ⟨rt tV s.pb8,rt tP s.ia2,W (s.eb7+1),s.e7⟩)) z)) z) z) (e 1))
noncomputable def ma1(p:ra4)(s:K1):Stp K1:=S3 .next .exit .fail p s
noncomputable def Xa5:Lo ra4 K1:=⟨En eb4,0,ye3,[1,1,1,1,1,1,1,0,1,4,4],[4,7,8,31,32,33],.s .p (.s .p (.s (.b (.s .p (.s .p (.s (.s .p (.b (.u Xa4.lsM))) .p)))) .p)),[⟨ru2 4 (sLq tV::sUq::sUq::sPq 0::.fn 34 [.o (.ptr 0 0 0 0)]::ru2 22 (sLq tP::sIq::sIq::ru2 40 [])),[⟨0,1,true,some [[.o (.int .i64)]]⟩],λa H=>(⟨aIq a 32⟩,⟨aLq tV a 4,aLq tP a 31,aIq a 33,hIq H 0 0 0⟩)⟩],ma1,[(some 0,λp s=>upq (pb7 p s) [(34,b (decide (s.eb7<p.ud5)))])],pb7⟩
theorem mc7:Xa5.OkM:=Lo.okM [Xa4.prM] (by kernel_rfl) (.cons mc6 .nil) rfl (.cons (λa H=>by kernel_rfl) .nil) λp s=>(.of @S3 (λF _ _ _ _ _=>by unfold S3;(repeat' apply u7 (f:=F))<;>rfl) (by kernel_rfl))
noncomputable def Ea0(x:List V3):Option (b7×List c8):=let t1:=(Oa0 (rt tV x));let t2:=(wa3 (rt tV t1.1));let t3:=(lp (ma1 (⟨(↑(List.length t2.1):Int)⟩:ra4)) (⟨rt tV t1.1,rt tP t2.1,0,0⟩:K1));(sl (okE tV x) (sl (Oa1 (rt tV x)) (sl (t1.2 != 0) (some (.tup [i 0,i t1.2],[])) (sl (okE tV t1.1) (sl (wa4 (rt tV t1.1)) (sl (t2.2 != 0) (some (.tup [i 0,i t2.2],[])) (sl ((cnE tV t1.1)&&((cnE tP t2.1)&&true)) (sl (Nat.beq t3.1 1) (some (.tup [i t3.2.e7,i 0],[])) none) none)) none) none)) none) none)
noncomputable def O1(x:List V3):Int×Int:=W0 (two r1I r1I) (Ea0 x)
noncomputable def O2(x:List V3):Bool:=okO (two r1I r1I) (Ea0 x)
noncomputable def Ea1:Sum:=L9 (ya3 tV) (λx=>.guard (O2 x) (.ret ((two r1I r1I).enc (O1 x),[])))
theorem Ka1:i5 prog G 11 Ea1:=Ga2 (bd b11 Ac6) (two r1I r1I) (o:=Ea0) λx=>Lc0 (.s .p (.s .p (.s .p (.s .p (.s .p (.s .p (.s .p (.s (.s .p (.b (.u Xa5.lsM))) .p)))))))) [Xa5.prM] (by kernel_rfl) (.cons mc7 .nil) (by kernel_rfl)
end Go.Ev.Ce
namespace Go.Ev.Ce
def sig{α:Type}(l:List α)(f:α->Int):Int:=l.foldr (λx s=>f x+s) 0
section
variable{α β:Type}
theorem Ra0(f:α->Int):sig [] f=0:=rfl
theorem n5(x:α)(l:List α)(f:α->Int):sig (x::l) f=f x+sig l f:=rfl
theorem pc5(f:α->Int):∀a c:List α,sig (a++c) f=sig a f+sig c f
 |[],c=>by rw[List.nil_append,Ra0,Qjau]
 |x::a,c=>by rw[List.cons_append,n5,n5,pc5 f a c,Int.add_assoc]
theorem o8{f g:α->Int}:∀{l:List α},(∀x∈l,f x=g x)->sig l f=sig l g
 |[],_=>rfl
 |x::l,h=>by rw[n5,n5,h x (by simp),o8 λy hy=>h y (by simp[hy])]
theorem pc6(f g:α->Int):∀l:List α,sig l (λx=>f x+g x)=sig l f+sig l g
 |[]=>rfl
 |x::l=>by rw[n5,n5,n5,pc6 f g l];omega
theorem Ab5(f g:α->Int):∀l:List α,sig l (λx=>f x-g x)=sig l f-sig l g
 |[]=>rfl
 |x::l=>by rw[n5,n5,n5,Ab5 f g l];omega
theorem pc7(f:α->Int):∀l:List α,sig l (λx=>-f x)=-sig l f
 |[]=>rfl
 |x::l=>by rw[n5,n5,pc7 f l];omega
theorem Ab6(k:Int)(f:α->Int):∀l:List α,sig l (λx=>k*f x)=k*sig l f
 |[]=>by rw[Ra0,Ra0,Qjq]
 |x::l=>by rw[n5,n5,Ab6 k f l,Int.mul_add]
theorem ra5{f:α->Int}:∀{l:List α},(∀x∈l,f x=0)->sig l f=0
 |[],_=>rfl
 |x::l,h=>by rw[n5,h x (by simp),ra5 λy hy=>h y (by simp[hy]),Qjau]
theorem ib8(c:List β)(f:α->β->Int):∀a:List α,sig a (λx=>sig c (f x))=sig c (λy=>sig a (λx=>f x y))
 |[]=>(ra5 λ_ _=>rfl).symm
 |x::a=>by rw[n5,ib8 c f a,<- pc6];exact o8 λy _=>rfl
theorem ib9{f:α->Int}{a c:List α}(h:a.Perm c):sig a f=sig c f:=by
 induction h with
 |nil=>rfl
 |cons x _ ih=>rw[n5,n5,ih]
 |swap x y l=>rw[n5,n5,n5,n5];omega
 |trans _ _ h1 h2=>rw[h1,h2]
theorem ab8(g:α->β)(f:β->Int):∀l:List α,sig (l.map g) f=sig l (λx=>f (g x))
 |[]=>rfl
 |x::l=>by rw[List.map_cons,n5,n5,ab8 g f l]
theorem aa6(c:α->Bool)(f:α->Int):∀l:List α,sig (l.filter c) f=sig l (λx=>if c x=true then f x else 0)
 |[]=>rfl
 |x::l=>by
  rw[Qjw,n5];split
  ·rw[n5,aa6 c f l]
  ·rw[aa6 c f l,Qjau]
theorem Yd2{f g:α->Int}:∀{l:List α},(∀x∈l,f x<=g x)->sig l f<=sig l g
 |[],_=>Qjaw _
 |x::l,h=>by
  rw[n5,n5]
  have:=h x (by simp)
  have:=Yd2 (l:=l) λy hy=>h y (by simp[hy])
  omega
theorem dc5{f:α->Int}{l:List α}(h:∀x∈l,0<=f x):0<=sig l f:=by
 have:=Yd2 (f:=λ_=>0) h
 rw[ra5 (λ_ _=>rfl)] at this
 exact this
theorem Xa6{f:α->Int}{x:α}:∀{l:List α},l.Nodup->x∈l->(∀y∈l,y≠x->f y=0)->sig l f=f x
 |[],_,h,_=>by cases h
 |y::l,hn,hx,h=>by
  obtain⟨h1,h2⟩:=List.nodup_cons.1 hn;rw[n5]
  rcases Qjk.1 hx with rfl|hx
  ·rw[ra5 (λz hz=>h z (by simp[hz]) λe=>h1 (e ▸ hz)),Int.add_zero]
  ·rw[h y (by simp) (λe=>h1 (e ▸ hx)),Xa6 h2 hx λz hz=>h z (by simp[hz]),Qjau]
theorem pc8{a c:List α}(ha:a.Nodup)(hc:c.Nodup)(h:∀x,x∈a↔x∈c):a.Perm c:=(List.perm_ext_iff_of_nodup ha hc).2 h
theorem xb1{f:α->Int}{a c:List α}(ha:a.Nodup)(hc:c.Nodup)(h:∀x,x∈a↔x∈c):sig a f=sig c f:=ib9 (pc8 ha hc h)
theorem Ac7{a c:List α}(ha:a.Nodup)(hc:c.Nodup)(hs:∀x∈a,x∈c)(hl:c.length<=a.length):a.Perm c:=by
 refine pc8 ha hc λx=>⟨hs x,λhx=>?_⟩
 apply Qjo;intro hn
 have:=List.Nodup.length_le_of_subset (List.nodup_cons.2 ⟨hn,ha⟩) (λy hy=>(Qjk.1 hy).elim (λe=>e ▸ hx) (hs y))
 simp only[List.length_cons] at this;omega
theorem jd1{a:List α}{f:α->α->Int}(h:∀x∈a,∀y∈a,f x y=-f y x):sig a (λx=>sig a (f x))=0:=by
 have e1:=ib8 a f a;have e2:sig a (λy=>sig a λx=>f x y)=-sig a (λy=>sig a (f y)):=by
  rw[<- pc7];refine o8 λy hy=>?_
  rw[<- pc7];exact o8 λx hx=>h x hx y hy
 omega
end
end Go.Ev.Ce
namespace Go.Ev.Ce
open Go Go.Ev Go.Ev.L Go.Proofs
structure Ins(r:List Pln)(x:Pt):Prop where
 w:0<x.pw
 h:∀p∈r,0<rmZ p x
theorem Ins.inr{r:List Pln}{x:Pt}(h:Ins r x):Inr r x:=⟨h.w,λp hp=>Int.le_of_lt (h.h p hp)⟩
theorem Ins.mono{r r':List Pln}{x:Pt}(h:Ins r x)(hs:∀p∈r',p∈r):Ins r' x:=⟨h.w,λp hp=>h.h p (hs p hp)⟩
theorem Inr.mono{r r':List Pln}{x:Pt}(h:Inr r x)(hs:∀p∈r',p∈r):Inr r' x:=⟨h.w,λp hp=>h.h p (hs p hp)⟩
theorem Ins.app{r r':List Pln}{x:Pt}(h:Ins r x)(h':Ins r' x):Ins (r++r') x:=⟨h.w,λp hp=>(Qjaa.1 hp).elim (h.h p) (h'.h p)⟩
theorem Inr.app{r r':List Pln}{x:Pt}(h:Inr r x)(h':Inr r' x):Inr (r++r') x:=⟨h.w,λp hp=>(Qjaa.1 hp).elim (h.h p) (h'.h p)⟩
theorem far{f g:Pln->Int}:∀l:List Pln,(∀p∈l,0<f p)->∃N:Int,0<=N/\∀M,N<=M->∀p∈l,0<M*f p+g p
 |[],_=>⟨0,Qjaw _,λ_ _ p hp=>by cases hp⟩
 |a::l,h=>by
  obtain⟨N,h0,h1⟩:=far l λp hp=>h p (List.mem_cons_of_mem _ hp)
  have ha:=h a Qjj;refine⟨max N ((g a).natAbs+1),by omega,λM hM p hp=>?_⟩
  rcases Qjk.1 hp with rfl|hp
  ·have:M*1<=M*f p:=Qjac (by omega) (by omega)
   omega
  ·exact h1 M (by omega) p hp
theorem Ce7:∀p∈ws,okp p=true:=Qja.1 (by decide)
theorem A9{n:V3}(h:n≠⟨0,0,0⟩):0<dot n n:=by
 have k:∀a:Int,0<=a*a/\(a≠0->0<a*a):=λa=>by
  rcases Int.lt_trichotomy a 0 with h|h|h
  ·have:=Qjas h h;exact⟨by omega,λ_=>this⟩
  ·subst h;exact⟨by decide,λh=>absurd rfl h⟩
  ·have:=Int.mul_pos h h;exact⟨by omega,λ_=>this⟩
 unfold dot
 have:=k n.x;have:=k n.y;have:=k n.z
 by_cases hx:n.x=0
 ·by_cases hy:n.y=0
  ·by_cases hz:n.z=0
   ·exact absurd (Qjbb hx hy hz) h
   ·have:=(k n.z).2 hz;omega
  ·have:=(k n.y).2 hy;omega
 ·have:=(k n.x).2 hx;omega
theorem uc1{c:List Pln}(h:(chk c==0)=true):∀p∈c++ws,okp p=true:=λp hp=>by
 rw[beq_iff_eq,yc6] at h
 rcases Qjaa.1 hp with hp|hp
 ·exact h.2 p hp
 ·exact Ce7 p hp
def Fv:V3:=⟨10000,100,1⟩
structure Crs(l:List V3)(p:Pln)(v:V3):Prop where
 h:∃u w,u∈l/\w∈l/\dot p.n u=p.b/\dot p.n w=p.b/\dot Fv w<dot Fv v/\dot Fv v<dot Fv u/\N3 v u w≠⟨0,0,0⟩
 on:dot p.n v=p.b
section
variable{l:List V3}(hl:l.all inV=true)
include hl
theorem Tb9(hs:Sol l){p q:Pln}(hp:Da7 l p)(hq:Da7 l q){u w x:V3}(hu:u∈l)(hw:w∈l)(hx:x∈l)(h3:N3 u w x≠⟨0,0,0⟩)(p1:dot p.n u=p.b)(p2:dot p.n w=p.b)(p3:dot p.n x=p.b)(q1:dot q.n u=q.b)(q2:dot q.n w=q.b)(q3:dot q.n x=q.b):p=q:=by
 have hi:=Qja.1 hl;have hT:=(ba6 (ra0 (hi u hu) (hi w hw) (hi x hx) h3)).2;have fl:∀{p:Pln},Da7 l p->Da7 l (N8 p)->False:=λ{p} h h'=>by
  obtain⟨v,hv,hne⟩:=hs.off (Xa0 h.ok) p.b;have a:=h.hd v hv;have c:=h'.hd v hv;rw[ib4] at c;have c:-dot p.n v<=-p.b:=c;omega
 rcases wb7 hT hp.ok p1 p2 p3 with e|e<;>rcases wb7 hT hq.ok q1 q2 q3 with e'|e'
 ·rw[e,e']
 ·rw[e',<- e] at hq;exact (fl hp hq).elim
 ·rw[e,<- e'] at hp;exact (fl hq hp).elim
 ·rw[e,e']
end
theorem jd2{α β:Type}{R:α->β->Prop}{X:List α}{L:List β}(hX:X.Nodup)(h:∀q∈X,∃y∈L,R q y)(hi:∀q∈X,∀r∈X,∀y,R q y->R r y->q=r):X.length<=L.length:=by
 have h':∀q:{ q // q∈X },∃y,y∈L/\R q.1 y:=λq=>by
  obtain⟨y,h1,h2⟩:=h q.1 q.2;exact⟨y,h1,h2⟩
 obtain⟨f,hf⟩:=Classical.axiomOfChoice h';have hn:(X.attach.map f).Nodup:=by
  unfold List.Nodup;rw[List.pairwise_map];have hXa:X.attach.Nodup:=by
   unfold List.Nodup;have h0:(X.attach.map Subtype.val).Nodup:=by rw[List.attach_map_subtype_val];exact hX
   unfold List.Nodup at h0;rw[List.pairwise_map] at h0;exact h0.imp λhne e=>hne (by rw[e])
  refine List.Pairwise.imp (λ{a c} hne e=>hne (Subtype.ext (hi a.1 a.2 c.1 c.2 (f a) (hf a).2 (by rw[e];exact (hf c).2)))) hXa
 have:=List.Nodup.length_le_of_subset hn λy hy=>by
  obtain⟨q,_,rfl⟩:=Qjg.1 hy;exact (hf q).1
 simpa using this
theorem K7{n N d:V3}(h:c7 n N=⟨0,0,0⟩):dot N N*dot n d=dot n N*dot N d:=by
 have e:dot N N*dot n d-dot n N*dot N d=dot (c7 n N) (c7 d N):=by simp only[dot,c7];grind
 rw[h] at e;have z:dot ⟨0,0,0⟩ (c7 d N)=0:=by simp[dot]
 rw[z] at e;exact Int.eq_of_sub_eq_zero e
theorem I9{n a c:V3}(h1:dot n a=0)(h2:dot n c=0):c7 n (c7 a c)=⟨0,0,0⟩:=by
 refine Qjbb ?_ ?_ ?_
 ·have:(c7 n (c7 a c)).x=a.x*dot n c-c.x*dot n a:=by simp only[c7,dot];grind
  rw[this,h1,h2];simp
 ·have:(c7 n (c7 a c)).y=a.y*dot n c-c.y*dot n a:=by simp only[c7,dot];grind
  rw[this,h1,h2];simp
 ·have:(c7 n (c7 a c)).z=a.z*dot n c-c.z*dot n a:=by simp only[c7,dot];grind
  rw[this,h1,h2];simp
theorem v7(n a c:V3):dot n (c9 a c)=dot n a-dot n c:=by simp only[dot,c9];grind
theorem Wc1 {l : List V3} (hl : l.all inV = true) {n u w x : V3} (hu : u ∈ l) (hw : w ∈ l) (hx : x ∈ l) (h3 : N3 u w x ≠ ⟨0, 0, 0⟩) (hle : ∀ v ∈ l, dot n v ≤ dot n u) (e1 : dot n w = dot n u) (e2 : dot n x = dot n u) (hoff : ∃ v ∈ l, dot n v ≠ dot n u) :
  ∃p,Da7 l p/\dot p.n u=p.b/\dot p.n w=p.b/\dot p.n x=p.b:=by
 have hi:=Qja.1 hl;have hT:=(ba6 (ra0 (hi u hu) (hi w hw) (hi x hx) h3)).2;obtain⟨s1,s2,s3⟩:=cc8 hT;have hT0:=hT;obtain⟨ok,⟨g,hg,g1,g2,g3'⟩,_⟩:=hT;generalize (B9 u w x).1=p at *
 have hN:dot (N3 u w x) (N3 u w x)>0:=A9 h3;have hpar:c7 n (N3 u w x)=⟨0,0,0⟩:=by
  have a1:dot n (c9 w u)=0:=by rw[v7];omega
  have a2:dot n (c9 x u)=0:=by rw[v7];omega
  exact I9 a1 a2
 have hd:∀v,dot (N3 u w x) (N3 u w x)*(dot n v-dot n u)=dot n (N3 u w x)*(g*(dot p.n v-p.b)):=λv=>by
  rw[<- v7,K7 hpar,<- s1];congr 1
  have:g*(dot p.n v-dot p.n u)=(g*p.n.x)*(v.x-u.x)+(g*p.n.y)*(v.y-u.y)+(g*p.n.z)*(v.z-u.z):=by simp only[dot];grind
  rw[this,g1,g2,g3'];simp only[N3,dot,c9,c7,sub]
 rcases Int.lt_trichotomy (dot n (N3 u w x)) 0 with h|h|h
 ·refine⟨N8 p,Tb2 hu hw hx hT0 λv hv=>?_,(Ha5 p u).2 s1,(Ha5 p w).2 s2,(Ha5 p x).2 s3⟩
  rw[ib4];show -dot p.n v<=-p.b;have k1:=hd v;have k2:dot (N3 u w x) (N3 u w x)*(dot n v-dot n u)<=0:=Qjt (by omega) (by have:=hle v hv;omega)
  apply Qjo;intro hno
  have:=Qjas h (Int.mul_neg_of_pos_of_neg hg (show dot p.n v-p.b<0 by omega))
  omega
 ·exfalso;obtain⟨v,hv,hne⟩:=hoff;have k1:=hd v;rw[h,Qjai] at k1
  have:=(Qjh.1 k1).resolve_left (by omega)
  omega
 ·refine⟨p,pc1 hu hw hx hT0 λv hv=>?_,s1,s2,s3⟩
  have k1:=hd v;have k2:dot (N3 u w x) (N3 u w x)*(dot n v-dot n u)<=0:=Qjt (by omega) (by have:=hle v hv;omega)
  apply Qjo;intro hno
  have:=Int.mul_pos h (Int.mul_pos hg (show 0<dot p.n v-p.b by omega))
  omega
structure Sim(l:List V3)(T:V3->V3):Prop where
 li:l.all inV=true
 mi:(l.map T).all inV=true
 dn:∀n:V3,∃n':V3,∃k:Int,0<k/\∀u∈l,∀w∈l,dot n' (T u)-dot n' (T w)=k*(dot n u-dot n w)
 up:∀n':V3,∃n:V3,∃k:Int,0<k/\∀u∈l,∀w∈l,dot n u-dot n w=k*(dot n' (T u)-dot n' (T w))
 n3:∀u∈l,∀w∈l,∀x∈l,N3 u w x≠⟨0,0,0⟩↔N3 (T u) (T w) (T x)≠⟨0,0,0⟩
theorem sd7{k x:Int}(hk:0<k)(h:x<=0):k*x<=0:=Qjt (by omega) h
theorem ha9{k x:Int}(hk:0<k)(h:k*x=0):x=0:=(Qjh.1 h).resolve_left (by omega)
def Car(l:List V3)(T:V3->V3)(p q:Pln):Prop:=∃u w x,u∈l/\w∈l/\x∈l/\N3 u w x≠⟨0,0,0⟩/\(dot p.n u=p.b/\dot p.n w=p.b/\dot p.n x=p.b)/\dot q.n (T u)=q.b/\dot q.n (T w)=q.b/\dot q.n (T x)=q.b/\(∀v∈l,dot p.n v=p.b↔dot q.n (T v)=q.b)
section
variable{l:List V3}{T:V3->V3}(h:Sim l T)(hs:Sol l)(hs':Sol (l.map T))
include h hs hs'
theorem Sim.mem{v:V3}(hv:v∈l):T v∈l.map T:=Qjg.2 ⟨v,hv,rfl⟩
theorem Sim.down{q:Pln}(hq:q∈F0 (l.map T)):∃p∈F0 l,Car l T p q:=by
 have hf:=(C4 h.mi q).1 hq;obtain⟨u',w',x',hu',hw',hx',h3,t1,t2,t3⟩:=hf.on;obtain⟨u,hu,rfl⟩:=Qjg.1 hu';obtain⟨w,hw,rfl⟩:=Qjg.1 hw';obtain⟨x,hx,rfl⟩:=Qjg.1 hx';obtain⟨n,k,hk,hn⟩:=h.up q.n;have h3':=(h.n3 u hu w hw x hx).2 h3;have hle:∀v∈l,dot n v<=dot n u:=λv hv=>by
  have e:=hn v hv u hu
  have:=sd7 hk (show dot q.n (T v)-dot q.n (T u)<=0 by have:=hf.hd _ (Sim.mem h hs hs' hv);omega)
  omega
 have e1:dot n w=dot n u:=by
  have e:=hn w hw u hu;rw[t2,t1,Qjao,Qjq] at e;omega
 have e2:dot n x=dot n u:=by
  have e:=hn x hx u hu;rw[t3,t1,Qjao,Qjq] at e;omega
 have hoff:∃v∈l,dot n v≠dot n u:=by
  obtain⟨v',hv',hne⟩:=hs'.off (Xa0 hf.ok) q.b;obtain⟨v,hv,rfl⟩:=Qjg.1 hv';refine⟨v,hv,λe=>hne ?_⟩
  have e':=hn v hv u hu
  have:=ha9 hk (show k*(dot q.n (T v)-dot q.n (T u))=0 by omega)
  omega
 obtain⟨p,hp,p1,p2,p3⟩:=Wc1 h.li hu hw hx h3' hle e1 e2 hoff;refine⟨p,(C4 h.li p).2 hp,u,w,x,hu,hw,hx,h3',⟨p1,p2,p3⟩,t1,t2,t3,λv hv=>?_⟩
 -- on p if and only if n is highest there
 have hT:=(ba6 (ra0 (Qja.1 h.li u hu) (Qja.1 h.li w hw) (Qja.1 h.li x hx) h3')).2;have hN:dot (N3 u w x) (N3 u w x)>0:=A9 h3';have c1:c7 n (N3 u w x)=⟨0,0,0⟩:=I9 (by rw[v7];omega) (by rw[v7];omega)
 have c2:c7 p.n (N3 u w x)=⟨0,0,0⟩:=I9 (by rw[v7];omega) (by rw[v7];omega)
 have d1:=K7 (d:=c9 v u) c1;have d2:=K7 (d:=c9 v u) c2;rw[v7] at d1 d2;have n1:dot n (N3 u w x)≠0:=λe=>by
  obtain⟨v0,hv0,hne⟩:=hoff;have d0:=K7 (d:=c9 v0 u) c1;rw[v7,e,Qjai] at d0
  have:=ha9 hN d0
  omega
 have n2:dot p.n (N3 u w x)≠0:=λe=>by
  obtain⟨v0,hv0,hne⟩:=hs.off (Xa0 hp.ok) p.b;have d0:=K7 (d:=c9 v0 u) c2;rw[v7,e,Qjai] at d0
  have:=ha9 hN d0
  omega
 have e':=hn v hv u hu;constructor
 ·intro hv';rw[show dot p.n v-dot p.n u=0 by omega,Qjq] at d2
  have z:=(Qjh.1 d2.symm).resolve_left n2;rw[z,Qjq] at d1
  have:=ha9 hN d1
  have:=ha9 hk (show k*(dot q.n (T v)-dot q.n (T u))=0 by omega)
  omega
 ·intro hv';rw[hv',t1,Qjao,Qjq] at e';rw[e',Qjq] at d1;have z:=(Qjh.1 d1.symm).resolve_left n1;rw[z,Qjq] at d2
  have:=ha9 hN d2
  omega
theorem Sim.img{p p':Pln}(hp:p∈F0 l)(ok:okp p'=true)(hd:∀v∈l,dot p'.n (T v)<=p'.b)(on:∀v∈l,dot p.n v=p.b->dot p'.n (T v)=p'.b):p'∈F0 (l.map T):=by
 have hf:=(C4 h.li p).1 hp;obtain⟨u,w,x,hu,hw,hx,h3,t1,t2,t3⟩:=hf.on;refine (C4 h.mi p').2 ⟨⟨λv' hv'=>?_,T u,T w,T x,Sim.mem h hs hs' hu,Sim.mem h hs hs' hw,Sim.mem h hs hs' hx,(h.n3 u hu w hw x hx).1 h3,on u hu t1,on w hw t2,on x hx t3⟩,ok⟩
 obtain⟨v,hv,rfl⟩:=Qjg.1 hv';exact hd v hv
theorem Sim.upf{p:Pln}(hp:p∈F0 l):∃q∈F0 (l.map T),Car l T p q:=by
 have hf:=(C4 h.li p).1 hp;obtain⟨u,w,x,hu,hw,hx,h3,t1,t2,t3⟩:=hf.on;obtain⟨n,k,hk,hn⟩:=h.dn p.n;have h3':=(h.n3 u hu w hw x hx).1 h3;obtain⟨q,hq,q1,q2,q3⟩:=Wc1 (n:=n) h.mi (Sim.mem h hs hs' hu) (Sim.mem h hs hs' hw) (Sim.mem h hs hs' hx) h3' (λv' hv'=>by
  obtain⟨v,hv,rfl⟩:=Qjg.1 hv';have e:=hn v hv u hu
  have:=sd7 hk (show dot p.n v-dot p.n u<=0 by have:=hf.hd v hv;omega)
  omega) (by
  have e:=hn w hw u hu;rw[t2,t1,Qjao,Qjq] at e
  omega) (by
  have e:=hn x hx u hu;rw[t3,t1,Qjao,Qjq] at e
  omega) (by
  obtain⟨v,hv,hne⟩:=hs.off (Xa0 hf.ok) p.b;refine⟨T v,Sim.mem h hs hs' hv,λe=>hne ?_⟩
  have e':=hn v hv u hu
  have:=ha9 hk (show k*(dot p.n v-dot p.n u)=0 by omega)
  omega)
 obtain⟨p2,hp2,u',w',x',hu',hw',hx',h3'',on2,r1,r2,r3,hall⟩:=Sim.down h hs hs' ((C4 h.mi q).2 hq);have e:p2=p:=Tb9 h.li hs ((C4 h.li p2).1 hp2) hf hu hw hx h3 ((hall u hu).2 q1) ((hall w hw).2 q2) ((hall x hx).2 q3) t1 t2 t3;subst e;exact⟨q,(C4 h.mi q).2 hq,u',w',x',hu',hw',hx',h3'',on2,r1,r2,r3,hall⟩
theorem Sim.len:(F0 (l.map T)).length=(F0 l).length:=by
 refine Nat.le_antisymm ?_ ?_
 ·refine jd2 (R:=λq p=>Car l T p q) (cc5 (cc4 _)) (λq hq=>Sim.down h hs hs' hq) λq hq r hr p h1 h2=>?_
  obtain⟨u,w,x,hu,hw,hx,h3,⟨p1,p2,p3⟩,q1,q2,q3,_⟩:=h1;obtain⟨_,_,_,_,_,_,_,_,_,_,_,hall⟩:=h2;exact Tb9 h.mi hs' ((C4 h.mi q).1 hq) ((C4 h.mi r).1 hr) (Sim.mem h hs hs' hu) (Sim.mem h hs hs' hw) (Sim.mem h hs hs' hx) ((h.n3 u hu w hw x hx).1 h3) q1 q2 q3 ((hall u hu).1 p1) ((hall w hw).1 p2) ((hall x hx).1 p3)
 ·refine jd2 (R:=λp q=>Car l T p q) (cc5 (cc4 _)) (λp hp=>Sim.upf h hs hs' hp) λp hp r hr q h1 h2=>?_
  obtain⟨u,w,x,hu,hw,hx,h3,⟨p1,p2,p3⟩,q1,q2,q3,_⟩:=h1;obtain⟨_,_,_,_,_,_,_,_,_,_,_,hall⟩:=h2;exact Tb9 h.li hs ((C4 h.li p).1 hp) ((C4 h.li r).1 hr) hu hw hx h3 p1 p2 p3 ((hall u hu).2 q1) ((hall w hw).2 q2) ((hall x hx).2 q3)
end
theorem Se6(O:List V3)(v:V3):app (bL tV O) [[i v.x,i v.y,i v.z]]=bL tV (O++[v]):=cb1 tV O [v]
def rch(n e:V3):Int:=(n.x.natAbs:Int)*e.x+(n.y.natAbs:Int)*e.y+(n.z.natAbs:Int)*e.z
def pq(e:V3)(s:Int)(p:Pln):Pln:=⟨p.n,p.b+s*rch p.n e⟩
def okq(e:V3)(s:Int)(p:Pln):Bool:=okp p&&smb 2097152 (p.b+s*rch p.n e)
structure B12(e:V3):Prop where
 x1:0<=e.x
 x2:e.x<=12
 y1:0<=e.y
 y2:e.y<=12
 z1:0<=e.z
 z2:e.z<=12
section
variable(c:List Pln)(e:V3)(s:Int)
structure PI(j:Nat)(o:List Pln):Prop where
 le:j<=c.length
 o:o=(c.take j).map (pq e s)
 a:(c.take j).all (okq e s)=true
end
section
variable(c:List Pln)(e:V3)(hc:c.length<=1000000)
include hc
end
theorem ra6:∀(l r:List V3),l.Pairwise LtV->r.Pairwise LtV->(∀v,v∈l↔v∈r)->l=r
 |[],[],_,_,_=>rfl
 |[],y::r,_,_,h=>absurd ((h y).2 (Qjj ..)) (by simp)
 |x::l,[],_,_,h=>absurd ((h x).1 (Qjj ..)) (by simp)
 |x::l,y::r,h1,h2,h=>by
  obtain⟨a1,a2⟩:=Qjz.1 h1;obtain⟨b1,b2⟩:=Qjz.1 h2;have e:x=y:=by
   rcases Qjk.1 ((h x).1 (Qjj ..)) with e|hx
   ·exact e
   ·rcases Qjk.1 ((h y).2 (Qjj ..)) with e|hy
    ·exact e.symm
    ·exact absurd (Ab2 (b1 x hx) (a1 y hy)) (Tb3 y)
  subst e
  have:l=r:=ra6 l r a2 b2 λv=>by
   have hv:=h v;simp only[Qjk] at hv;constructor
   ·intro hm
    rcases hv.1 (.inr hm) with e|h'
    ·subst e;exact absurd (a1 v hm) (Tb3 v)
    ·exact h'
   ·intro hm
    rcases hv.2 (.inr hm) with e|h'
    ·subst e;exact absurd (b1 v hm) (Tb3 v)
    ·exact h'
  rw[this]
noncomputable def nrm(F:List Pln)(v:V3):List V3:=(own F v).map λp=>p.n
def N46(n:V3):Prop:=Sm 4608 n.x/\Sm 4608 n.y/\Sm 4608 n.z
section
variable(N:List V3)(hN:∀n∈N,N46 n)(hl:N.length<=1000000)
include hN hl
end
theorem Wc2{l:List V3}(hl:l.all inV=true):∀p∈ws,∀v∈l,dot p.n v<=p.b:=λp hp v hv=>by
 have:=Be0 (Qja.1 hl v hv) p hp
 simp only[rmZ,ipt,dot] at this ⊢;omega
section
variable{l:List V3}(hl:l.all inV=true)(h4:Sol l)
include hl
theorem Wc3(v:V3):v∈ja7 (F0 l) l↔v∈l/\Spn (F0 l) v:=by
 unfold ja7;rw[Qjl,mb6];exact⟨λh=>⟨h.1,(Xd1 hl h.1).1 h.2⟩,λh=>⟨h.1,(Xd1 hl h.1).2 h.2⟩⟩
include h4
theorem nb3{n:V3}{b:Int}(hv:∀v∈ja7 (F0 l) l,dot n v<=b):∀x∈l,dot n x<=b:=by
 have hfacs:=Uc5 hl λp hp=>(C4 hl p).2 hp
 have hall:∀p∈F0 l++ws,∀v∈l,dot p.n v<=p.b:=λp hp=>by
  rcases Qjaa.1 hp with hp|hp
  ·exact ((C4 hl p).1 hp).hd
  ·exact Wc2 hl p hp
 intro x hx;have hz:∀(a:Pln) (v:V3),rmZ a ⟨v.x,v.y,v.z,1⟩=a.b-dot a.n v:=λa v=>by simp only[rmZ,dot];omega
 have hI:Inr (F0 l++ws) ⟨x.x,x.y,x.z,1⟩:=⟨by show (0:Int)<1;omega,λp hp=>by rw[hz];have:=hall p hp x hx;omega⟩
 have key:=da2 (rd5 (F0 l)) (h:=⟨n,b⟩) (λy hy=>by
  obtain⟨v,hvl,he,hs⟩:=zd1 h4 hfacs hall hy;have h1:=hv v ((Wc3 hl v).2 ⟨hvl,hs⟩);have h2:=he.rm ⟨n,b⟩;rw[hz] at h2;have hw:=hy.w;have h3:0<=(b-dot n v)*y.pw:=Qjax (by omega) (by omega)
  have h4:rmZ ⟨n,b⟩ y*1=(b-dot n v)*y.pw:=h2
  omega) hI
 rw[hz] at key;have key:0<=b-dot n x:=key;omega
theorem ga2{v:V3}(hv:v∈ja7 (F0 l) l):v∈l:=((Wc3 hl v).1 hv).1
theorem Ce8:∃v,v∈ja7 (F0 l) l:=by
 apply Qjo;intro hno;obtain⟨x,hx⟩:=h4.ne
 have:=nb3 hl h4 (n:=⟨0,0,0⟩) (b:=-1) (λv hv=>absurd ⟨v,hv⟩ hno) x hx
 simp[dot] at this
theorem oe1:Sol (ja7 (F0 l) l):=by
 obtain⟨a,ha⟩:=Ce8 hl h4
 rcases mb5 ((ja7 (F0 l) l).map λv=>c9 v a) with⟨x,y,z,hx,hy,hz,hw⟩|⟨d,hd,h⟩
 ·obtain⟨u,hu,rfl⟩:=Qjg.1 hx;obtain⟨v,hv,rfl⟩:=Qjg.1 hy;obtain⟨w,hw',rfl⟩:=Qjg.1 hz;exact⟨a,v,w,u,ha,hv,hw',hu,λe=>hw (by rw[<- e];simp only[dot,c7,N3];grind)⟩
 ·exfalso;have e:∀v∈ja7 (F0 l) l,dot d v=dot d a:=λv hv=>by
   have:=h _ (Qjg.2 ⟨v,hv,rfl⟩)
   simp only[dot,c9] at this ⊢
   grind
  obtain⟨v,hv,hne⟩:=h4.off hd (dot d a);have h1:=nb3 hl h4 (n:=d) (b:=dot d a) (λw hw=>by rw[e w hw];exact Qjaw _) v hv
  have h2:=nb3 hl h4 (n:=neg d) (b:=-dot d a) (λw hw=>by
   have:=e w hw
   have h3:dot (neg d) w=-dot d w:=by simp only[dot,neg];grind
   omega) v hv
  have h3:dot (neg d) v=-dot d v:=by simp only[dot,neg];grind
  omega
theorem Ad1:(ja7 (F0 l) l).all inV=true:=Qja.2 λv hv=>Qja.1 hl v (ga2 hl h4 hv)
theorem Ub0{p:Pln}(hp:Da7 l p):Da7 (ja7 (F0 l) l) p:=by
 refine⟨⟨λv hv=>hp.hd v (ga2 hl h4 hv),?_⟩,hp.ok⟩
 obtain⟨u,w,x,hu,hw,hx,h3,t1,t2,t3⟩:=hp.on
 -- a rd4 on the plane
 obtain⟨a,ha,ta⟩:∃a∈ja7 (F0 l) l,dot p.n a=p.b:=by
  apply Qjo;intro hno
  have:=nb3 hl h4 (n:=p.n) (b:=p.b-1) (λv hv=>by
   have h1:=hp.hd v (ga2 hl h4 hv);have h2:dot p.n v≠p.b:=λe=>hno ⟨v,hv,e⟩
   omega) u hu
  omega
 rcases mb5 (p.n::(((ja7 (F0 l) l).filter λv=>dot p.n v==p.b).map λv=>c9 v a)) with⟨n1,n2,n3,k1,k2,k3,hne⟩|⟨d,hd,hz⟩
 ·have on : ∀ {n}, n ∈ p.n :: (((ja7 (F0 l) l).filter fun v => dot p.n v == p.b).map fun v => c9 v a) → n = p.n ∨ ∃ v ∈ ja7 (F0 l) l, dot p.n v = p.b ∧ n = c9 v a := fun {n} hn => by
   rcases Qjk.1 hn with e|hn
   ·exact .inl e
   ·obtain⟨v,hv,rfl⟩:=Qjg.1 hn;obtain⟨h1,h2⟩:=Qjl.1 hv;exact .inr ⟨v,h1,beq_iff_eq.1 h2,rfl⟩
  have fin:∀{v1 v2:V3},v1∈ja7 (F0 l) l->v2∈ja7 (F0 l) l->dot p.n v1=p.b->dot p.n v2=p.b->dot p.n (c7 (c9 v1 a) (c9 v2 a))≠0->∃u w x,u∈ja7 (F0 l) l/\w∈ja7 (F0 l) l/\x∈ja7 (F0 l) l/\N3 u w x≠⟨0,0,0⟩/\dot p.n u=p.b/\dot p.n w=p.b/\dot p.n x=p.b:=λ{v1 v2} hv1 hv2 e1 e2 h=>⟨a,v1,v2,ha,hv1,hv2,cc7 h,ta,e1,e2⟩
  rcases on k1 with rfl|⟨v1,m1,e1,rfl⟩<;>rcases on k2 with rfl|⟨v2,m2,e2,rfl⟩<;>rcases on k3 with rfl|⟨v3,m3,e3,rfl⟩
  ·exact absurd (by simp only[dot,c7];grind) hne
  ·exact absurd (by simp only[dot,c7];grind) hne
  ·exact absurd (by simp only[dot,c7];grind) hne
  ·exact fin m2 m3 e2 e3 hne
  ·exact absurd (by simp only[dot,c7];grind) hne
  ·exact fin m3 m1 e3 e1 λe=>hne (by rw[<- e];simp only[dot,c7];grind)
  ·exact fin m1 m2 e1 e2 λe=>hne (by rw[<- e];simp only[dot,c7];grind)
  ·exfalso;have q:∀v:V3,dot p.n v=p.b->dot p.n (c9 v a)=0:=λv e=>by
    have:dot p.n (c9 v a)=dot p.n v-dot p.n a:=by simp only[dot,c9];grind
    omega
   have r1:=q v1 e1;have r2:=q v2 e2;have r3:=q v3 e3;have hw:mw ⟨c9 v1 a,0⟩ ⟨c9 v2 a,0⟩ ⟨c9 v3 a,0⟩≠0:=hne;refine Xa0 hp.ok (Da6 hw ?_ ?_ ?_)
   ·rw[<- r1];simp only[dot];grind
   ·rw[<- r2];simp only[dot];grind
   ·rw[<- r3];simp only[dot];grind
 ·exfalso;have hdn:dot p.n d=0:=hz _ Qjj;have hdv:∀v∈ja7 (F0 l) l,dot p.n v=p.b->dot d v=dot d a:=λv hv e=>by
   have:=hz _ (List.mem_cons_of_mem _ (Qjg.2 ⟨v,Qjl.2 ⟨hv,beq_iff_eq.2 e⟩,rfl⟩))
   simp only[dot,c9] at this ⊢
   grind
  -- one of the Ob3 points is off the line
  have hoff:¬ (dot d u=dot d a/\dot d w=dot d a/\dot d x=dot d a):=λ⟨g1,g2,g3⟩=>by
   have ht:=(ba6 (ra0 (Qja.1 hl u hu) (Qja.1 hl w hw) (Qja.1 hl x hx) h3)).2;have hm:mw p ⟨c9 w u,0⟩ ⟨c9 x u,0⟩≠0:=by
    have hN:mw p ⟨c9 w u,0⟩ ⟨c9 x u,0⟩=dot p.n (N3 u w x):=rfl;rw[hN];intro e;obtain⟨_,⟨g,hg,f1,f2,f3⟩,_⟩:=ht;have f1:g*(B9 u w x).1.n.x=(N3 u w x).x:=f1;have f2:g*(B9 u w x).1.n.y=(N3 u w x).y:=f2;have f3:g*(B9 u w x).1.n.z=(N3 u w x).z:=f3;have e2:g*dot p.n (B9 u w x).1.n=0:=by rw[<- e];simp only[dot];rw[<- f1,<- f2,<- f3];grind
    have e3:=(Qjh.1 e2).resolve_left (by omega)
    have hpn:=Xa0 hp.ok;have hpos:=zd3 hpn
    rcases wb7 ((ba6 (ra0 (Qja.1 hl u hu) (Qja.1 hl w hw) (Qja.1 hl x hx) h3)).2) hp.ok t1 t2 t3 with hq|hq
    ·rw[<- hq] at e3;omega
    ·have : dot p.n (B9 u w x).1.n = -dot p.n p.n := by
      have h5:p.n=⟨-(B9 u w x).1.n.x,-(B9 u w x).1.n.y,-(B9 u w x).1.n.z⟩:=congrArg Pln.n hq;have h6:(B9 u w x).1.n=⟨-p.n.x,-p.n.y,-p.n.z⟩:=by
       rw[h5];simp
      rw[h6];simp only[dot]
      grind
     omega
   refine hd (Da6 hm hdn ?_ ?_)
   ·show dot (c9 w u) d=0
    have:dot (c9 w u) d=dot d w-dot d u:=by simp only[dot,c9];grind
    omega
   ·show dot (c9 x u) d=0
    have:dot (c9 x u) d=dot d x-dot d u:=by simp only[dot,c9];grind
    omega
  -- so a plane that is turned a little would Ke5 it out
  have main:∀(e:V3) (t:V3),t∈l->dot p.n t=p.b->(∀v∈ja7 (F0 l) l,dot p.n v=p.b->dot e v=dot e a)->dot e t<=dot e a:=λe t ht hte hev=>by
   obtain⟨N,hN,hbig⟩:=big e ((ja7 (F0 l) l).map λv=>⟨c9 v a,0⟩)
   have:=nb3 hl h4 (n:=⟨e.x+N*p.n.x,e.y+N*p.n.y,e.z+N*p.n.z⟩) (b:=dot e a+N*p.b) (λv hv=>by
    have h1:dot ⟨e.x+N*p.n.x,e.y+N*p.n.y,e.z+N*p.n.z⟩ v=dot e v+N*dot p.n v:=by simp only[dot];grind
    rw[h1];by_cases hvp:dot p.n v=p.b
    ·rw[hvp,hev v hv hvp];exact Qjaw _
    ·have h2:=hp.hd v (ga2 hl h4 hv);have h3:=(hbig _ (Qjg.2 ⟨v,hv,rfl⟩)).1;have h4:dot (c9 v a) e=dot e v-dot e a:=by simp only[dot,c9];grind
     have h3:dot (c9 v a) e<=N:=h3;have h5:N*dot p.n v<=N*(p.b-1):=Qjac (by omega) (by omega)
     rw[Int.mul_sub,Int.mul_one] at h5
     omega) t ht
   have h1:dot ⟨e.x+N*p.n.x,e.y+N*p.n.y,e.z+N*p.n.z⟩ t=dot e t+N*dot p.n t:=by simp only[dot];grind
   rw[h1,hte] at this;omega
  have both:∀t,t∈l->dot p.n t=p.b->dot d t=dot d a:=λt ht hte=>by
   have g1:=main d t ht hte hdv;have g2:=main (neg d) t ht hte (λv hv e=>by
    have:=hdv v hv e
    have q1:∀z:V3,dot (neg d) z=-dot d z:=λz=>by simp only[dot,neg];grind
    rw[q1,q1];omega)
   have q1:∀z:V3,dot (neg d) z=-dot d z:=λz=>by simp only[dot,neg];grind
   rw[q1,q1] at g2;omega
  exact hoff ⟨both u hu t1,both w hw t2,both x hx t3⟩
theorem Ce9:F0 (ja7 (F0 l) l)=F0 l:=by
 refine cc3 (cc4 _) (cc4 _) λp=>?_
 rw[C4 (Ad1 hl h4),C4 hl];refine⟨λh=>⟨⟨nb3 hl h4 h.hd,?_⟩,h.ok⟩,λh=>Ub0 hl h4 h⟩
 obtain⟨u,w,x,hu,hw,hx,hr⟩:=h.on;exact⟨u,w,x,ga2 hl h4 hu,ga2 hl h4 hw,ga2 hl h4 hx,hr⟩
end
end Go.Ev.Ce
