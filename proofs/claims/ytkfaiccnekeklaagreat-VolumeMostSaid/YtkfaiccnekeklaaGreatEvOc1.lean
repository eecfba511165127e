/- Own work. -/
import Derived.Test.YtkfaiccnekeklaaGreatEvOaTE
import Derived.ChangeStays
import Derived.ChangeSame
import Derived.OpenShut
import Derived.RowKit
set_option linter.all false
def Qka:=@Classical.byContradiction
def Qkb:=@List.mem_map
def Qkc:=@List.mem_cons
def Qkd:=@Int.mul_zero
def Qke:=@Int.mul_eq_zero
def Qkf:=@List.mem_singleton
def Qkg:=@Int.mul_nonneg
def Qkh:=@List.mem_filter
def Qki:=@Int.mul_neg_of_pos_of_neg
def Qkj:=@Int.eq_of_mul_eq_mul_left
def Qkk:=@Int.mul_pos
def Qkl:=@Int.le_refl
def Qkm:=@List.getElem?_eq_getElem
def Qkn:=@List.mem_append
def Qko:=@Option.bind_eq_some_iff
def Qkp:=@Int.mul_le_mul_of_nonneg_right
def Qkq:=@Int.mul_le_mul_of_nonneg_left
def Qkr:=@Int.zero_mul
def Qks:=@Int.add_zero
def Qkt:=@List.length_filter_le
def Qku:=@List.not_mem_nil
def Qkv:=@List.mem_cons_of_mem
def Qkw:=@Int.sub_self
def Qkx:=@Int.mul_neg
def Qky:=@Nat.lt_irrefl
def Qkz:=@Classical.choose_spec
def Qkaa:=@List.length_map
def Qkab:=@Int.mul_ediv_cancel'
def Qkac:=@List.append_nil
def Qkad:=@List.getElem?_range
def Qkae:=@Int.neg_mul
def Qkaf:=@Nat.zero_le
def Qkag:=@Int.ofNat_dvd_left
def Qkah:=@List.mem_cons_self
def Qkai:=@Int.mul_lt_mul_of_pos_left
def Qkaj:=@List.length_range
def Qkak:=@Int.le_of_mul_le_mul_left
def Qkal:=@Nat.gcd_dvd_left
def Qkam:=@List.take_length
def Qkan:=@Nat.le_trans
def Qkao:=@List.mem_flatMap
def Qkap:=@Classical.axiomOfChoice
def Qkaq:=@Option.map_eq_some_iff
def Qkar:=@List.mem_range
def Qkas:=@Go.Ev.Ce.V3.ext'
namespace Go.Ev.Ce
open Go Go.Ev Go.Ev.L Go.Proofs
theorem Ub1{l:List V3}(hl:l.all inV=true)(h4:Sol l){v:V3}(hv:v∈l):v∈ja7 (F0 l) l↔∃n,∀w∈l,w≠v->dot n w<dot n v:=by
 constructor
 ·intro h;obtain⟨p,q,s,hp,hq,hs,hm,e1,e2,e3⟩:=((Wc3 hl v).1 h).2;refine⟨⟨p.n.x+q.n.x+s.n.x,p.n.y+q.n.y+s.n.y,p.n.z+q.n.z+s.n.z⟩,λw hw hne=>?_⟩
  have hd:∀x:V3,dot ⟨p.n.x+q.n.x+s.n.x,p.n.y+q.n.y+s.n.y,p.n.z+q.n.z+s.n.z⟩ x=dot p.n x+dot q.n x+dot s.n x:=λx=>by simp only[dot];grind
  rw[hd,hd];have g1:=((C4 hl p).1 hp).hd w hw;have g2:=((C4 hl q).1 hq).hd w hw;have g3:=((C4 hl s).1 hs).hd w hw;apply Qka;intro hno;have z:=Da6 hm (d:=c9 w v) (by rw[v7];omega) (by rw[v7];omega) (by rw[v7];omega)
  simp only[c9,V3.mk.injEq] at z;exact hne (Qkas (by omega) (by omega) (by omega))
 ·rintro⟨n,hn⟩;apply Qka;intro hno
  have:=nb3 hl h4 (n:=n) (b:=dot n v-1) (λw hw=>by
   have:=hn w (ga2 hl h4 hw) λe=>hno (e ▸ hw)
   omega) v hv
  omega
section
variable{l:List V3}{T:V3->V3}(h:Sim l T)
include h
theorem Sim.inj{u w:V3}(hu:u∈l)(hw:w∈l)(e:T u=T w):u=w:=by
 have key:∀n:V3,dot n u=dot n w:=λn=>by
  obtain⟨n',k,hk,hn⟩:=h.dn n;have e':=hn u hu w hw;rw[e,Qkw] at e'
  have:=ha9 hk e'.symm
  omega
 have k1:=key ⟨1,0,0⟩;have k2:=key ⟨0,1,0⟩;have k3:=key ⟨0,0,1⟩;simp only[dot] at k1 k2 k3;exact Qkas (by omega) (by omega) (by omega)
theorem Yd3{u w x v n:V3}(h3:N3 u w x≠⟨0,0,0⟩)(e1:dot n w=dot n u)(e2:dot n x=dot n u)(hv:dot n v≠dot n u):dot (N3 u w x) (c9 v u)≠0:=λe=>by
 have hN:dot (N3 u w x) (N3 u w x)>0:=A9 h3;have c1:c7 n (N3 u w x)=⟨0,0,0⟩:=I9 (by rw[v7];omega) (by rw[v7];omega)
 have d1:=K7 (d:=c9 v u) c1;rw[e,Qkd,v7] at d1
 have:=ha9 hN d1
 omega
omit h in
theorem Wc4(u w x:V3):dot (N3 u w x) w=dot (N3 u w x) u/\dot (N3 u w x) x=dot (N3 u w x) u:=by
 constructor<;>simp only[N3,dot,c7,c9]<;>grind
theorem Sim.sol:Sol l↔Sol (l.map T):=by
 constructor
 ·rintro⟨a,c,k,v,ha,hc,hk,hv,hne⟩;have h3:N3 a c k≠⟨0,0,0⟩:=λe=>hne (by rw[e];simp[dot])
  obtain⟨n',m,hm,hn⟩:=h.dn (N3 a c k);obtain⟨p1,p2⟩:=Wc4 a c k;refine⟨T a,T c,T k,T v,Qkb.2 ⟨a,ha,rfl⟩,Qkb.2 ⟨c,hc,rfl⟩,Qkb.2 ⟨k,hk,rfl⟩,Qkb.2 ⟨v,hv,rfl⟩,Yd3 h (n:=n') ((h.n3 a ha c hc k hk).1 h3) ?_ ?_ ?_⟩
  ·have e:=hn c hc a ha;rw[p1,Qkw,Qkd] at e;omega
  ·have e:=hn k hk a ha;rw[p2,Qkw,Qkd] at e;omega
  ·intro e';have e:=hn v hv a ha
   have:=ha9 hm (show m*(dot (N3 a c k) v-dot (N3 a c k) a)=0 by omega)
   rw[v7] at hne;omega
 ·rintro⟨a',c',k',v',ha',hc',hk',hv',hne⟩;obtain⟨a,ha,rfl⟩:=Qkb.1 ha';obtain⟨c,hc,rfl⟩:=Qkb.1 hc';obtain⟨k,hk,rfl⟩:=Qkb.1 hk';obtain⟨v,hv,rfl⟩:=Qkb.1 hv';have h3:N3 (T a) (T c) (T k)≠⟨0,0,0⟩:=λe=>hne (by rw[e];simp[dot])
  obtain⟨n,m,hm,hn⟩:=h.up (N3 (T a) (T c) (T k));obtain⟨p1,p2⟩:=Wc4 (T a) (T c) (T k);refine⟨a,c,k,v,ha,hc,hk,hv,Yd3 h (n:=n) ((h.n3 a ha c hc k hk).2 h3) ?_ ?_ ?_⟩
  ·have e:=hn c hc a ha;rw[p1,Qkw,Qkd] at e;omega
  ·have e:=hn k hk a ha;rw[p2,Qkw,Qkd] at e;omega
  ·intro e';have e:=hn v hv a ha
   have:=ha9 hm (show m*(dot (N3 (T a) (T c) (T k)) (T v)-dot (N3 (T a) (T c) (T k)) (T a))=0 by omega)
   rw[v7] at hne;omega
theorem Sim.ext(hs:Sol l){v:V3}(hv:v∈l):v∈ja7 (F0 l) l↔T v∈ja7 (F0 (l.map T)) (l.map T):=by
 rw[Ub1 h.li hs hv,Ub1 h.mi ((Sim.sol h).1 hs) (Qkb.2 ⟨v,hv,rfl⟩)];constructor
 ·rintro⟨n,hn⟩;obtain⟨n',k,hk,hd⟩:=h.dn n;refine⟨n',λw' hw' hne=>?_⟩
  obtain⟨w,hw,rfl⟩:=Qkb.1 hw';have e:=hd w hw v hv
  have:=Qki hk (show dot n w-dot n v<0 by have:=hn w hw λe=>hne (by rw[e]);omega)
  omega
 ·rintro⟨n',hn⟩;obtain⟨n,k,hk,hd⟩:=h.up n';refine⟨n,λw hw hne=>?_⟩
  have e:=hd w hw v hv
  have:=Qki hk (show dot n' (T w)-dot n' (T v)<0 by have:=hn (T w) (Qkb.2 ⟨w,hw,rfl⟩) λe=>hne (Sim.inj h hw hv e);omega)
  omega
theorem Sim.ext_mem(hs:Sol l)(w:V3):w∈ja7 (F0 (l.map T)) (l.map T)↔∃v∈ja7 (F0 l) l,w=T v:=by
 constructor
 ·intro hw;obtain⟨v,hv,rfl⟩:=Qkb.1 (ga2 h.mi ((Sim.sol h).1 hs) hw);exact⟨v,(Sim.ext h hs hv).2 hw,rfl⟩
 ·rintro⟨v,hv,rfl⟩;exact (Sim.ext h hs (ga2 h.li hs hv)).1 hv
end
structure Mat(l:List V3)(T:V3->V3)(r0 r1 r2:V3)(D:Int):Prop where
 d:0<D
 det:0<dot r0 (c7 r1 r2)
 t:∀u∈l,∀w∈l,D*((T u).x-(T w).x)=dot r0 (c9 u w)/\D*((T u).y-(T w).y)=dot r1 (c9 u w)/\D*((T u).z-(T w).z)=dot r2 (c9 u w)
theorem Ac8(r0 r1 r2 n d:V3):dot ⟨dot n (c7 r1 r2),dot n (c7 r2 r0),dot n (c7 r0 r1)⟩ ⟨dot r0 d,dot r1 d,dot r2 d⟩=dot r0 (c7 r1 r2)*dot n d:=by simp only[dot,c7];grind
theorem Kb4(r0 r1 r2 a c:V3):c7 ⟨dot r0 a,dot r1 a,dot r2 a⟩ ⟨dot r0 c,dot r1 c,dot r2 c⟩=⟨dot (c7 r1 r2) (c7 a c),dot (c7 r2 r0) (c7 a c),dot (c7 r0 r1) (c7 a c)⟩:=by
 refine Qkas ?_ ?_ ?_<;>simp only[dot,c7]<;>grind
theorem Nc0(r0 r1 r2 v:V3):(dot r0 (c7 r1 r2)*v.x=dot (c7 r1 r2) v*r0.x+dot (c7 r2 r0) v*r1.x+dot (c7 r0 r1) v*r2.x)/\(dot r0 (c7 r1 r2)*v.y=dot (c7 r1 r2) v*r0.y+dot (c7 r2 r0) v*r1.y+dot (c7 r0 r1) v*r2.y)/\(dot r0 (c7 r1 r2)*v.z=dot (c7 r1 r2) v*r0.z+dot (c7 r2 r0) v*r1.z+dot (c7 r0 r1) v*r2.z):=by
 refine⟨?_,?_,?_⟩<;>simp only[dot,c7]<;>grind
theorem ea5{k x:Int}(hk:0<k)(h:k*x=0):x=0:=(Qke.1 h).resolve_left (by omega)
theorem oe2{l:List V3}{T:V3->V3}{r0 r1 r2:V3}{D:Int}(h:Mat l T r0 r1 r2 D)(hl:l.all inV=true)(hm:(l.map T).all inV=true):Sim l T:=by
 refine⟨hl,hm,λn=>⟨⟨D*dot n (c7 r1 r2),D*dot n (c7 r2 r0),D*dot n (c7 r0 r1)⟩,dot r0 (c7 r1 r2),h.det,λu hu w hw=>?_⟩,λn'=>⟨⟨n'.x*r0.x+n'.y*r1.x+n'.z*r2.x,n'.x*r0.y+n'.y*r1.y+n'.z*r2.y,n'.x*r0.z+n'.y*r1.z+n'.z*r2.z⟩,D,h.d,λu hu w hw=>?_⟩,λu hu w hw x hx=>?_⟩
 ·obtain⟨t1,t2,t3⟩:=h.t u hu w hw;have e:=Ac8 r0 r1 r2 n (c9 u w);rw[<- t1,<- t2,<- t3,v7 n u w] at e;rw[<- e];generalize dot n (c7 r1 r2)=A;generalize dot n (c7 r2 r0)=B;generalize dot n (c7 r0 r1)=C;simp only[dot]
  grind
 ·obtain⟨t1,t2,t3⟩:=h.t u hu w hw;have e:dot ⟨n'.x*r0.x+n'.y*r1.x+n'.z*r2.x,n'.x*r0.y+n'.y*r1.y+n'.z*r2.y,n'.x*r0.z+n'.y*r1.z+n'.z*r2.z⟩ u-dot ⟨n'.x*r0.x+n'.y*r1.x+n'.z*r2.x,n'.x*r0.y+n'.y*r1.y+n'.z*r2.y,n'.x*r0.z+n'.y*r1.z+n'.z*r2.z⟩ w=n'.x*dot r0 (c9 u w)+n'.y*dot r1 (c9 u w)+n'.z*dot r2 (c9 u w):=by simp only[dot,c9];grind
  rw[e,<- t1,<- t2,<- t3];simp only[dot]
  grind
 ·obtain⟨t1,t2,t3⟩:=h.t w hw u hu;obtain⟨s1,s2,s3⟩:=h.t x hx u hu;have e:=Kb4 r0 r1 r2 (c9 w u) (c9 x u);rw[<- t1,<- t2,<- t3,<- s1,<- s2,<- s3] at e;have eN:c7 (c9 w u) (c9 x u)=N3 u w x:=rfl;rw[eN] at e;have eT:c7 ⟨D*((T w).x-(T u).x),D*((T w).y-(T u).y),D*((T w).z-(T u).z)⟩ ⟨D*((T x).x-(T u).x),D*((T x).y-(T u).y),D*((T x).z-(T u).z)⟩=⟨D*(D*(N3 (T u) (T w) (T x)).x),D*(D*(N3 (T u) (T w) (T x)).y),D*(D*(N3 (T u) (T w) (T x)).z)⟩:=by
   refine Qkas ?_ ?_ ?_<;>simp only[N3,c7,c9]<;>grind
  rw[eT] at e;simp only[V3.mk.injEq] at e;obtain⟨e1,e2,e3⟩:=e;obtain⟨b1,b2,b3⟩:=Nc0 r0 r1 r2 (N3 u w x);have hd:=h.d;have hdet:=h.det;constructor
  ·intro hne h0;rw[h0] at e1 e2 e3;simp only[Qkd] at e1 e2 e3;rw[<- e1,<- e2,<- e3] at b1 b2 b3;simp only[Qkr,Qks] at b1 b2 b3;exact hne (Qkas (ea5 hdet b1) (ea5 hdet b2) (ea5 hdet b3))
  ·intro hne h0;rw[h0] at e1 e2 e3;have z:∀v:V3,dot v ⟨0,0,0⟩=0:=λv=>by simp[dot]
   rw[z] at e1 e2 e3;exact hne (Qkas (ea5 hd (ea5 hd e1)) (ea5 hd (ea5 hd e2)) (ea5 hd (ea5 hd e3)))
theorem Yd4 {r0 r1 r2 : V3} {D : Int} (h00 : dot r0 r0 = D * D) (h11 : dot r1 r1 = D * D) (h22 : dot r2 r2 = D * D) (h01 : dot r0 r1 = 0) (h02 : dot r0 r2 = 0) (h12 : dot r1 r2 = 0) (hdet : dot r0 (c7 r1 r2) ≠ 0) (d : V3) :
  dot r0 d*dot r0 d+dot r1 d*dot r1 d+dot r2 d*dot r2 d=D*D*dot d d:=by
 have key:(⟨D*D*d.x-(dot r0 d*r0.x+dot r1 d*r1.x+dot r2 d*r2.x),D*D*d.y-(dot r0 d*r0.y+dot r1 d*r1.y+dot r2 d*r2.y),D*D*d.z-(dot r0 d*r0.z+dot r1 d*r1.z+dot r2 d*r2.z)⟩:V3)=⟨0,0,0⟩:=by
  have ex:∀r:V3,dot r ⟨D*D*d.x-(dot r0 d*r0.x+dot r1 d*r1.x+dot r2 d*r2.x),D*D*d.y-(dot r0 d*r0.y+dot r1 d*r1.y+dot r2 d*r2.y),D*D*d.z-(dot r0 d*r0.z+dot r1 d*r1.z+dot r2 d*r2.z)⟩=D*D*dot r d-(dot r0 d*dot r r0+dot r1 d*dot r r1+dot r2 d*dot r r2):=λr=>by
   generalize dot r0 d=A;generalize dot r1 d=B;generalize dot r2 d=C;simp only[dot]
   grind
  have cm:∀a c:V3,dot a c=dot c a:=λa c=>by simp only[dot];grind
  refine Da6 (p:=⟨r0,0⟩) (q:=⟨r1,0⟩) (s:=⟨r2,0⟩) hdet ?_ ?_ ?_
  ·rw[ex,h00,h01,h02];grind
  ·rw[ex,cm r1 r0,h01,h11,h12];grind
  ·rw[ex,cm r2 r0,cm r2 r1,h02,h12,h22];grind
 simp only[V3.mk.injEq] at key;obtain⟨k1,k2,k3⟩:=key;have e:D*D*dot d d-(dot r0 d*dot r0 d+dot r1 d*dot r1 d+dot r2 d*dot r2 d)=d.x*(D*D*d.x-(dot r0 d*r0.x+dot r1 d*r1.x+dot r2 d*r2.x))+d.y*(D*D*d.y-(dot r0 d*r0.y+dot r1 d*r1.y+dot r2 d*r2.y))+d.z*(D*D*d.z-(dot r0 d*r0.z+dot r1 d*r1.z+dot r2 d*r2.z)):=by
  simp only[dot]
  grind
 rw[k1,k2,k3] at e;simp only[Qkd,Qks] at e;exact (Int.eq_of_sub_eq_zero e).symm
theorem jd3{l:List V3}(h48:l.length<=48)(hl:l.all inV=true):(Sol l->Z4 l=0)/\(¬ Sol l->Z4 l=11):=by
 refine⟨ib5 h48 hl,λhn=>?_⟩
 by_cases h0:Z4 l=0
 ·exact (hn (J4 h0).2.2).elim
 ·unfold Z4 at h0 ⊢;rw[if_neg (by omega),if_neg (by rw[<- List.not_all_eq_any_not,hl];simp)] at h0 ⊢
  split
  ·rfl
  ·rename_i h;rw[if_neg h] at h0;exact (h0 rfl).elim
section
variable{l:List V3}{T:V3->V3}(h:Sim l T)(h48:l.length<=48)
include h h48
theorem Sim.chk:Z4 (l.map T)=Z4 l:=by
 have h1:=jd3 h48 h.li;have h2:=jd3 (l:=l.map T) (by rw[Qkaa];exact h48) h.mi
 by_cases hs:Sol l
 ·rw[h1.1 hs,h2.1 ((Sim.sol h).1 hs)]
 ·rw[h1.2 hs,h2.2 λk=>hs ((Sim.sol h).2 k)]
theorem Sim.plane{p p':Pln}(hp:p∈(ca3 l).1)(ok:okp p'=true)(hd:∀v∈l,dot p'.n (T v)<=p'.b)(on:∀v∈l,dot p.n v=p.b->dot p'.n (T v)=p'.b):p'∈(ca3 (l.map T)).1:=by
 have hc:=Sim.chk h h48;unfold ca3 at hp ⊢;rw[hc];by_cases h0:Z4 l=0
 ·rw[if_pos h0] at hp ⊢;have hs:=(J4 h0).2.2;exact Sim.img h hs ((Sim.sol h).1 hs) hp ok hd on
 ·rw[if_neg h0] at hp;cases hp
end
theorem Yd5 {r0 r1 r2 : V3} {D : Int} (h00 : dot r0 r0 = D * D) (h11 : dot r1 r1 = D * D) (h22 : dot r2 r2 = D * D) (h01 : dot r0 r1 = 0) (h02 : dot r0 r2 = 0) (h12 : dot r1 r2 = 0) (hdet : dot r0 (c7 r1 r2) ≠ 0) (n d : V3) :
  dot r0 n*dot r0 d+dot r1 n*dot r1 d+dot r2 n*dot r2 d=D*D*dot n d:=by
 have l:=λv=>Yd4 h00 h11 h22 h01 h02 h12 hdet v
 have add:∀r:V3,dot r ⟨n.x+d.x,n.y+d.y,n.z+d.z⟩=dot r n+dot r d:=λr=>by simp only[dot];grind
 have e:=l ⟨n.x+d.x,n.y+d.y,n.z+d.z⟩;have e1:=l n;have e2:=l d;have sq:dot (⟨n.x+d.x,n.y+d.y,n.z+d.z⟩:V3) ⟨n.x+d.x,n.y+d.y,n.z+d.z⟩=dot n n+2*dot n d+dot d d:=by simp only[dot];grind
 rw[sq,add,add,add] at e;generalize dot r0 n=a0 at *
 generalize dot r1 n=a1 at *
 generalize dot r2 n=a2 at *
 generalize dot r0 d=c0 at *
 generalize dot r1 d=c1 at *
 generalize dot r2 d=c2 at *
 generalize dot n n=nn at *
 generalize dot d d=dd at *
 generalize dot n d=nd at *
 generalize D*D=DD at *
 have k:2*(a0*c0+a1*c1+a2*c2)=2*(DD*nd):=by grind
 omega
structure Rot(l:List V3)(T:V3->V3)(r0 r1 r2:V3)(D:Int):Prop extends Mat l T r0 r1 r2 D where
 h00:dot r0 r0=D*D
 h11:dot r1 r1=D*D
 h22:dot r2 r2=D*D
 h01:dot r0 r1=0
 h02:dot r0 r2=0
 h12:dot r1 r2=0
section
variable{l:List V3}{T:V3->V3}{r0 r1 r2:V3}{D:Int}(h:Rot l T r0 r1 r2 D)
include h
theorem Rot.dots(n d:V3):dot r0 n*dot r0 d+dot r1 n*dot r1 d+dot r2 n*dot r2 d=D*D*dot n d :=
 Yd5 h.h00 h.h11 h.h22 h.h01 h.h02 h.h12 (by have:=h.det;omega) n d
theorem Rot.same{u w:V3}(hu:u∈l)(hw:w∈l):dot (c9 (T u) (T w)) (c9 (T u) (T w))=dot (c9 u w) (c9 u w):=by
 obtain⟨t1,t2,t3⟩:=h.t u hu w hw;have e:=Rot.dots h (c9 u w) (c9 u w);rw[<- t1,<- t2,<- t3] at e;have f:D*((T u).x-(T w).x)*(D*((T u).x-(T w).x))+D*((T u).y-(T w).y)*(D*((T u).y-(T w).y))+D*((T u).z-(T w).z)*(D*((T u).z-(T w).z))=D*D*dot (c9 (T u) (T w)) (c9 (T u) (T w)):=by simp only[dot,c9];grind
 rw[f] at e;have hd:=Qkk h.d h.d;exact Qkj (by omega) e
theorem Rot.nrm{n n':V3}{g:Int}(e1:g*n'.x=dot r0 n)(e2:g*n'.y=dot r1 n)(e3:g*n'.z=dot r2 n){u w:V3}(hu:u∈l)(hw:w∈l):g*(dot n' (T u)-dot n' (T w))=D*(dot n u-dot n w):=by
 obtain⟨t1,t2,t3⟩:=h.t u hu w hw;have e:=Rot.dots h n (c9 u w);rw[<- t1,<- t2,<- t3,<- e1,<- e2,<- e3,v7] at e;have f:g*n'.x*(D*((T u).x-(T w).x))+g*n'.y*(D*((T u).y-(T w).y))+g*n'.z*(D*((T u).z-(T w).z))=D*(g*(dot n' (T u)-dot n' (T w))):=by simp only[dot];grind
 rw[f,Int.mul_assoc] at e;exact Qkj (by have:=h.d;omega) e
theorem Rot.plane (hl : l.all inV = true) (hm : (l.map T).all inV = true) (h48 : l.length ≤ 48) {p p' : Pln} {g : Int} (hp : p ∈ (ca3 l).1) (ok : okp p' = true) (hg : 0 < g) (e1 : g * p'.n.x = dot r0 p.n) (e2 : g * p'.n.y = dot r1 p.n) (e3 : g * p'.n.z = dot r2 p.n)
  {u:V3} (hu:u∈l) (on:dot p.n u=p.b) (on':dot p'.n (T u)=p'.b):p'∈(ca3 (l.map T)).1:=by
 have hs:=oe2 h.toMat hl hm;have hf:Da7 l p:=by
  unfold ca3 at hp;by_cases h0:Z4 l=0
  ·rw[if_pos h0] at hp;exact (C4 hl p).1 hp
  ·rw[if_neg h0] at hp;cases hp
 have hd:=h.d;refine Sim.plane hs h48 hp ok (λv hv=>?_) λv hv hv'=>?_
 ·have e:=Rot.nrm h e1 e2 e3 hv hu;have k:=sd7 hd (show dot p.n v-dot p.n u<=0 by have:=hf.hd v hv;omega)
  apply Qka;intro hno
  have:=Qkk hg (show 0<dot p'.n (T v)-dot p'.n (T u) by omega)
  omega
 ·have e:=Rot.nrm h e1 e2 e3 hv hu;rw[show dot p.n v-dot p.n u=0 by omega,Qkd] at e
  have:=ha9 hg e
  omega
end
theorem Ad2{m:V3}(h:m≠⟨0,0,0⟩):∃n:V3,g3 n=1/\0<g3 m/\g3 m*n.x=m.x/\g3 m*n.y=m.y/\g3 m*n.z=m.z:=by
 have h0:g3 m≠0:=λe=>h (zd2 e)
 have hp:0<g3 m:=by unfold g3 at *;omega
 have dx:g3 m∣m.x:=by
  unfold g3;exact Qkag.2 (Nat.dvd_trans (Qkal _ _) (Qkal _ _))
 have dy:g3 m∣m.y:=by
  unfold g3;exact Qkag.2 (Nat.dvd_trans (Qkal _ _) (Nat.gcd_dvd_right _ _))
 have dz:g3 m∣m.z:=by
  unfold g3;exact Qkag.2 (Nat.gcd_dvd_right _ _)
 have ex:=Qkab dx;have ey:=Qkab dy;have ez:=Qkab dz;refine⟨⟨m.x / g3 m,m.y / g3 m,m.z / g3 m⟩,?_,hp,ex,ey,ez⟩;have e:=rd6 (g3 m) ⟨m.x / g3 m,m.y / g3 m,m.z / g3 m⟩
 simp only at e
 rw[ex,ey,ez] at e;have e':g3 m*1=g3 m*g3 ⟨m.x / g3 m,m.y / g3 m,m.z / g3 m⟩:=by
  rw[Int.mul_one]
  have:((g3 m).natAbs:Int)=g3 m:=by omega
  rw[this] at e;exact e
 exact (Qkj (by omega) e').symm
section
variable{l:List V3}{T:V3->V3}{r0 r1 r2:V3}{D:Int}(h:Rot l T r0 r1 r2 D)
include h
theorem Rot.off{n n' sft:V3}{g:Int}(e1:g*n'.x=dot r0 n)(e2:g*n'.y=dot r1 n)(e3:g*n'.z=dot r2 n){u:V3}(t:D*((T u).x-sft.x)=dot r0 u/\D*((T u).y-sft.y)=dot r1 u/\D*((T u).z-sft.z)=dot r2 u):g*(dot n' (T u)-dot n' sft)=D*dot n u:=by
 obtain⟨t1,t2,t3⟩:=t;have e:=Rot.dots h n u;rw[<- t1,<- t2,<- t3,<- e1,<- e2,<- e3] at e;have f:g*n'.x*(D*((T u).x-sft.x))+g*n'.y*(D*((T u).y-sft.y))+g*n'.z*(D*((T u).z-sft.z))=D*(g*(dot n' (T u)-dot n' sft)):=by simp only[dot];grind
 rw[f,Int.mul_assoc] at e;exact Qkj (by have:=h.d;omega) e
end
def crs(n a c:V3):Int:=dot n (c7 a c)
def orp(n a c v:V3):Int:=crs n (c9 c a) (c9 v a)
theorem Ac9(n a c v:V3):orp n a v c=-orp n a c v:=by simp only[orp,crs,dot,c7,c9];grind
theorem oe3(n a c v:V3):orp n c v a=orp n a c v:=by simp only[orp,crs,dot,c7,c9];grind
theorem sd8(n a c v:V3):orp n a c v=crs n (c9 a v) (c9 c v):=by simp only[orp,crs,dot,c7,c9];grind
theorem Bc0(n a c:V3):orp n a c c=0:=by simp only[orp,crs,dot,c7,c9];grind
theorem sd9(n a c:V3):orp n a c a=0:=by simp only[orp,crs,dot,c7,c9];grind
theorem Ab7(a c:V3):dot a c=dot c a:=by simp only[dot];grind
theorem Ke9{n a c v:V3}(hn:n≠⟨0,0,0⟩)(h1:dot a n=0)(h2:dot c n=0)(h3:dot v n=0):dot a (c7 c v)=0:=by
 apply Qka;intro h;exact hn (Da6 (p:=⟨a,0⟩) (q:=⟨c,0⟩) (s:=⟨v,0⟩) h h1 h2 h3)
theorem Nc1 {n m a c v : V3} (hn : n ≠ ⟨0, 0, 0⟩) (h1 : dot a n = 0) (h2 : dot c n = 0) (h3 : dot v n = 0) (m1 : dot m a < 0) (m2 : dot m c < 0) (m3 : dot m v < 0)
  (c1:0<crs n a c) (c2:0<crs n c v):0<crs n a v:=by
 have e:crs n c v*dot m a+crs n v a*dot m c+crs n a c*dot m v=dot a (c7 c v)*dot m n:=by simp only[crs,dot,c7];grind
 rw[Ke9 hn h1 h2 h3,Qkr] at e;have k1:=Qki c2 m1;have k2:=Qki c1 m3;have k3:0<crs n v a*dot m c:=by omega
 have k4:crs n v a<0:=by
  apply Qka;intro hno
  have:=Qkg (show 0<=crs n v a by omega) (show 0<=-dot m c by omega)
  rw[Qkx] at this;omega
 have:crs n a v=-crs n v a:=by simp only[crs,dot,c7];grind
 omega
theorem oe4{n a c:V3}(hn:n≠⟨0,0,0⟩)(h1:dot n a=0)(h2:dot n c=0)(h:crs n a c=0):c7 a c=⟨0,0,0⟩:=by
 apply Qka;intro hne;have hp:=K7 (d:=n) (I9 h1 h2);rw[show dot n (c7 a c)=0 from h,Qkr] at hp
 rcases Qke.1 hp with e|e
 ·have:=A9 hne;omega
 ·have:=A9 hn;omega
theorem Ab8{a c m:V3}(h:c7 a c=⟨0,0,0⟩)(m':V3):dot m c*dot m' a=dot m a*dot m' c:=by
 have e:dot m c*dot m' a-dot m a*dot m' c=-dot (c7 m m') (c7 a c):=by simp only[dot,c7];grind
 rw[h] at e;have z:dot (c7 m m') ⟨0,0,0⟩=0:=by simp[dot]
 rw[z] at e;omega
theorem G6(m a c:V3):dot m (c9 a c)=dot m a-dot m c:=by simp only[dot,c9];grind
theorem Le0(n a c:V3):dot (c9 a c) n=dot n a-dot n c:=by simp only[dot,c9];grind
def Hi(X:List V3)(v m:V3):Prop:=∀w∈X,w≠v->dot m w<dot m v
theorem oe5 {X : List V3} (hX : ∀ v ∈ X, ∃ m, Hi X v m) {n a c v : V3} {k : Int} (hn : n ≠ ⟨0, 0, 0⟩) (ha : a ∈ X) (hc : c ∈ X) (hv : v ∈ X) (pa : dot n a = k) (pc : dot n c = k) (pv : dot n v = k)
  (h1:a≠c) (h2:a≠v) (h3:c≠v):orp n a c v≠0:=by
 intro h;have hz:=oe4 hn (by rw[G6];omega) (by rw[G6];omega) h
 obtain⟨m1,k1⟩:=hX a ha;obtain⟨m2,k2⟩:=hX c hc;obtain⟨m3,k3⟩:=hX v hv;have a1:=k1 c hc (Ne.symm h1);have a2:=k1 v hv (Ne.symm h2);have b1:=k2 a ha h1;have b2:=k2 v hv (Ne.symm h3);have c1:=k3 a ha h2;have c2:=k3 c hc h3;have e2:=Ab8 (m:=m1) hz m2;have e3:=Ab8 (m:=m1) hz m3;rw[G6,G6,G6,G6] at e2 e3;obtain⟨r,hr⟩:∃r,r=dot m1 a-dot m1 v:=⟨_,rfl⟩;obtain⟨s,hs⟩:∃s,s=dot m1 a-dot m1 c:=⟨_,rfl⟩;obtain⟨x2,hx2⟩:∃x,x=dot m2 c-dot m2 a:=⟨_,rfl⟩;obtain⟨y2,hy2⟩:∃x,x=dot m2 v-dot m2 a:=⟨_,rfl⟩;obtain⟨x3,hx3⟩:∃x,x=dot m3 c-dot m3 a:=⟨_,rfl⟩;obtain⟨y3,hy3⟩:∃x,x=dot m3 v-dot m3 a:=⟨_,rfl⟩;rw[show dot m1 v-dot m1 a=-r by omega,show dot m1 c-dot m1 a=-s by omega,<- hx2,<- hy2,Qkae,Qkae] at e2
 rw[show dot m1 v-dot m1 a=-r by omega,show dot m1 c-dot m1 a=-s by omega,<- hx3,<- hy3,Qkae,Qkae] at e3
 have r0:0<r:=by omega
 have s0:0<s:=by omega
 have p1:0<x2:=by omega
 have p2:y2<x2:=by omega
 have p3:0<y3:=by omega
 have p4:x3<y3:=by omega
 have q2:r*x2=s*y2:=by omega
 have q3:r*x3=s*y3:=by omega
 have hrs:r<s:=by
  apply Qka;intro hno;have t1:s*y2<s*x2:=Qkai p2 s0;have t2:s*x2<=r*x2:=Qkp (by omega) (by omega)
  omega
 have t1:r*y3<s*y3:=Int.mul_lt_mul_of_pos_right hrs p3;have t2:r*x3<r*y3:=Qkai p4 r0;omega
structure Rim(X C:List V3)(n:V3)(k:Int):Prop where
 n0:n≠⟨0,0,0⟩
 hx:∀v∈X,∃m,Hi X v m
 sub:∀c∈C,c∈X/\dot n c=k
 nd:C.Nodup
 two:2<=C.length
def Edg(C:List V3)(n a c:V3):Prop:=a∈C/\c∈C/\a≠c/\∀v∈C,v≠a->v≠c->0<orp n a c v
def nxF(n a:V3):List V3->V3->V3
 |[],best=>best
 |w::l,best=>if (!eqV w a&&(eqV best a||decide (orp n a best w<0)))=true then nxF n a l w else nxF n a l best
def nxt(C:List V3)(n a:V3):V3:=nxF n a C a
theorem Edg.out{C:List V3}{n a c d:V3}(h1:Edg C n a c)(h2:Edg C n a d):c=d:=by
 apply Qka;intro hne;have e1:=h1.2.2.2 d h2.2.1 (Ne.symm h2.2.2.1) (Ne.symm hne);have e2:=h2.2.2.2 c h1.2.1 (Ne.symm h1.2.2.1) hne;rw[Ac9] at e2;omega
theorem Edg.inn{C:List V3}{n a c d:V3}(h1:Edg C n a c)(h2:Edg C n d c):a=d:=by
 apply Qka;intro hne;have e1:=h1.2.2.2 d h2.1 (Ne.symm hne) h2.2.2.1;have e2:=h2.2.2.2 a h1.1 hne h1.2.2.1;rw[oe3,Ac9] at e2;omega
section
variable{X C:List V3}{n:V3}{k:Int}(h:Rim X C n k)
include h
theorem Rim.perp{a c:V3}(ha:a∈C)(hc:c∈C):dot (c9 a c) n=0:=by
 rw[Le0,(h.sub a ha).2,(h.sub c hc).2,Qkw]
theorem Rim.orp_tr{a c v w:V3}(ha:a∈C)(hc:c∈C)(hv:v∈C)(hw:w∈C)(ca:c≠a)(va:v≠a)(wa:w≠a)(h1:0<orp n a c v)(h2:0<orp n a v w):0<orp n a c w:=by
 obtain⟨m,hm⟩:=h.hx a (h.sub a ha).1;have m1:=hm c (h.sub c hc).1 ca;have m2:=hm v (h.sub v hv).1 va;have m3:=hm w (h.sub w hw).1 wa;exact Nc1 (m:=m) h.n0 (h.perp hc ha) (h.perp hv ha) (h.perp hw ha) (by rw[G6];omega) (by rw[G6];omega) (by rw[G6];omega) h1 h2
theorem Rim.ne0{a c v:V3}(ha:a∈C)(hc:c∈C)(hv:v∈C)(h1:a≠c)(h2:a≠v)(h3:c≠v):orp n a c v≠0 :=
 oe5 h.hx h.n0 (h.sub a ha).1 (h.sub c hc).1 (h.sub v hv).1 (h.sub a ha).2 (h.sub c hc).2 (h.sub v hv).2 h1 h2 h3
def Fnd(D:List V3)(n a best:V3):Prop:=(best=a/\∀c∈D,c=a)\/(best∈D/\best≠a/\∀c∈D,c≠a->c≠best->0<orp n a best c)
theorem Rim.fnd{a:V3}(ha:a∈C):∀(l D:List V3) (best:V3),(∀x∈D,x∈C)->(∀x∈l,x∈C)->Fnd D n a best->Fnd (D++l) n a (nxF n a l best)
 |[],D,best,_,_,hf=>by rw[Qkac];exact hf
 |w::l,D,best,hD,hl,hf=>by
  have hw:=hl w (by simp)
  have rec':=λb hb=>Rim.fnd ha l (D++[w]) b (λx hx=>(Qkn.1 hx).elim (hD x) λe=>by rw[Qkf.1 e];exact hw) (λx hx=>hl x (by simp[hx])) hb
  rw[List.append_assoc] at rec';unfold nxF;by_cases hwa:w=a
  ·rw[if_neg (by rw[show eqV w a=true from (Ja9 _ _).2 hwa];simp)]
   refine rec' best ?_
   rcases hf with⟨e,hf⟩|⟨e1,e2,hf⟩
   ·exact .inl ⟨e,λc hc=>(Qkn.1 hc).elim (hf c) λe=>(Qkf.1 e).trans hwa⟩
   ·exact .inr ⟨List.mem_append_left _ e1,e2,λc hc h1 h2=>(Qkn.1 hc).elim (λk=>hf c k h1 h2) λe=>absurd ((Qkf.1 e).trans hwa) h1⟩
  ·have ew : eqV w a = false := by
    cases hq:eqV w a with
    |false=>rfl
    |true=>exact absurd ((Ja9 _ _).1 hq) hwa
   rcases hf with⟨e,hf⟩|⟨e1,e2,hf⟩
   ·rw[if_pos (by rw[ew,(Ja9 _ _).2 e];rfl)]
    refine rec' w (.inr ⟨by simp,hwa,λc hc h1 h2=>?_⟩)
    rcases Qkn.1 hc with k|k
    ·exact absurd (hf c k) h1
    ·exact absurd (Qkf.1 k) h2
   ·have eb : eqV best a = false := by
     cases hq:eqV best a with
     |false=>rfl
     |true=>exact absurd ((Ja9 _ _).1 hq) e2
    have hb:=hD best e1;by_cases ho:orp n a best w<0
    ·rw[if_pos (by rw[ew,eb,decide_eq_true ho];rfl)]
     have o1:0<orp n a w best:=by rw[Ac9];omega
     refine rec' w (.inr ⟨by simp,hwa,λc hc h1 h2=>?_⟩)
     rcases Qkn.1 hc with k|k
     ·by_cases hcb:c=best
      ·rw[hcb];exact o1
      ·exact h.orp_tr ha hw hb (hD c k) hwa e2 h1 o1 (hf c k h1 hcb)
     ·exact absurd (Qkf.1 k) h2
    ·rw[if_neg (by rw[ew,eb,decide_eq_false ho];simp)]
     refine rec' best (.inr ⟨List.mem_append_left _ e1,e2,λc hc h1 h2=>?_⟩)
     rcases Qkn.1 hc with k|k
     ·exact hf c k h1 h2
     ·rw[Qkf.1 k] at h2 ⊢
      have:=h.ne0 ha hb hw (Ne.symm e2) (Ne.symm hwa) (Ne.symm h2)
      omega
theorem Rim.other(a:V3):∃c∈C,c≠a:=by
 apply Qka;intro hno
 have:C.length<=[a].length:=List.Nodup.length_le_of_subset h.nd λc hc=>by
  have:c=a:=Qka λhne=>hno ⟨c,hc,hne⟩
  simp[this]
 have:=h.two
 simp only[List.length_singleton] at *
 omega
theorem Rim.nx{a:V3}(ha:a∈C):Edg C n a (nxt C n a):=by
 have hf:=h.fnd ha C [] a (λx hx=>by cases hx) (λx hx=>hx) (.inl ⟨rfl,λc hc=>by cases hc⟩)
 rw[List.nil_append] at hf;obtain⟨c,hc,hca⟩:=h.other a
 rcases hf with⟨_,hf⟩|⟨e1,e2,hf⟩
 ·exact absurd (hf c hc) hca
 ·exact⟨ha,e1,Ne.symm e2,hf⟩
theorem Rim.nx_mem{a:V3}(ha:a∈C):nxt C n a∈C:=(h.nx ha).2.1
theorem Rim.nx_inj{a c:V3}(ha:a∈C)(hc:c∈C)(e:nxt C n a=nxt C n c):a=c:=(h.nx ha).inn (e ▸ h.nx hc)
theorem Rim.edg_iff{a c:V3}(ha:a∈C):Edg C n a c↔c=nxt C n a:=⟨λhe=>he.out (h.nx ha),λe=>e ▸ h.nx ha⟩
def itr(C:List V3)(n a:V3):Nat->V3
 |0=>a
 |i+1=>nxt C n (itr C n a i)
theorem Rim.it_mem{a:V3}(ha:a∈C):∀i,itr C n a i∈C
 |0=>ha
 |i+1=>h.nx_mem (Rim.it_mem ha i)
theorem Rim.it_back{a:V3}(ha:a∈C):∀i j,itr C n a i=itr C n a (i+j)->a=itr C n a j
 |0,j,e=>by rw[Nat.zero_add] at e;exact e
 |i+1,j,e=>Rim.it_back ha i j (by
  rw[Nat.add_right_comm] at e;exact h.nx_inj (h.it_mem ha i) (h.it_mem ha (i+j)) e)
theorem Rim.it_ret{a:V3}(ha:a∈C){m:Nat}(hm:0<m)(e:itr C n a m=a):∀x∈C,∃i,i<m/\itr C n a i=x:=λx hx=>by
 apply Qka;intro hno;have hne:∀i,i<=m->itr C n a i≠x:=λi hi he=>by
  by_cases k:i<m
  ·exact hno ⟨i,k,he⟩
  ·have:i=m:=by omega
   subst this;exact hno ⟨0,hm,by rw[<- he,e];rfl⟩
 obtain⟨w,hw⟩:=h.hx x (h.sub x hx).1;have hlow:∀i,i<=m->dot w (c9 (itr C n a i) x)<0:=λi hi=>by
  have:=hw _ (h.sub _ (h.it_mem ha i)).1 (hne i hi)
  rw[G6];omega
 have hstep:∀i,i+1<=m->0<crs n (c9 (itr C n a i) x) (c9 (itr C n a (i+1)) x):=λi hi=>by
  rw[<- sd8];exact (h.nx (h.it_mem ha i)).2.2.2 x hx (Ne.symm (hne i (by omega))) (Ne.symm (hne (i+1) hi))
 have key:∀j,j+1<=m->0<crs n (c9 (itr C n a 0) x) (c9 (itr C n a (j+1)) x):=λj=>by
  induction j with
  |zero=>exact hstep 0
  |succ j ih=>exact λhj=>Nc1 (m:=w) h.n0 (h.perp (h.it_mem ha _) hx) (h.perp (h.it_mem ha _) hx) (h.perp (h.it_mem ha _) hx) (hlow 0 (by omega)) (hlow (j+1) (by omega)) (hlow (j+2) hj) (ih (by omega)) (hstep (j+1) hj)
 have:=key (m-1) (by omega)
 rw[show m-1+1=m by omega,e] at this
 have z:crs n (c9 a x) (c9 a x)=0:=by simp only[crs,dot,c7,c9];grind
 have:0<crs n (c9 a x) (c9 a x):=this
 omega
theorem Rim.it_len{a:V3}(ha:a∈C){m:Nat}(hm:0<m)(e:itr C n a m=a):C.length<=m:=by
 have:=List.Nodup.length_le_of_subset h.nd (l₂:=(List.range m).map (itr C n a)) λx hx=>by
  obtain⟨i,hi,rfl⟩:=h.it_ret ha hm e x hx;exact Qkb.2 ⟨i,Qkar.2 hi,rfl⟩
 rw[Qkaa,Qkaj] at this;exact this
theorem Rim.it_nd{a:V3}(ha:a∈C):((List.range C.length).map (itr C n a)).Nodup:=by
 unfold List.Nodup;rw[List.pairwise_map];refine List.Pairwise.imp_of_mem (λ{i j} hi hj hij e=>?_) List.pairwise_lt_range
 have hj':=Qkar.1 hj
 have:=h.it_back ha i (j-i) (by rw[show i+(j-i)=j by omega];exact e)
 have:=h.it_len ha (m:=j-i) (by omega) this.symm
 omega
theorem Rim.it_perm{a:V3}(ha:a∈C):((List.range C.length).map (itr C n a)).Perm C:=by
 refine Ac7 (h.it_nd ha) h.nd (λx hx=>?_) (by rw[Qkaa,Qkaj];exact Nat.le_refl _)
 obtain⟨i,_,rfl⟩:=Qkb.1 hx;exact h.it_mem ha i
theorem Rim.it_end{a:V3}(ha:a∈C):itr C n a C.length=a:=by
 have:=(h.it_perm ha).mem_iff.2 (h.it_mem ha C.length)
 obtain⟨i,hi,e⟩:=Qkb.1 this;have hi:=Qkar.1 hi;have hb:=h.it_back ha i (C.length-i) (by rw[show i+(C.length-i)=C.length by omega];exact e)
 have:=h.it_len ha (m:=C.length-i) (by omega) hb.symm
 have:i=0:=by omega
 subst this;exact e.symm
theorem Rim.nx_perm:(C.map (nxt C n)).Perm C:=by
 refine Ac7 ?_ h.nd (λx hx=>?_) (by rw[Qkaa];exact Nat.le_refl _)
 ·unfold List.Nodup;rw[List.pairwise_map];exact List.Pairwise.imp_of_mem (λ{a c} ha hc hne e=>hne (h.nx_inj ha hc e)) h.nd
 ·obtain⟨a,ha,rfl⟩:=Qkb.1 hx;exact h.nx_mem ha
theorem Rim.sig_nx(f:V3->Int):sig C (λa=>f (nxt C n a))=sig C f:=by rw[<- ab8 (nxt C n) f,ib9 h.nx_perm]
theorem Rim.sig_it(f:V3->Int){a:V3}(ha:a∈C):sig C f=sig (List.range C.length) (λi=>f (itr C n a i)):=by rw[<- ab8 (itr C n a) f,ib9 (h.it_perm ha)]
end
def AR(C:List V3)(n d:V3):Int:=sig C λa=>dot (c7 a (nxt C n a)) d
def D3(a c v:V3):Int:=dot (c7 a c) v
theorem dc6(C:List V3)(n d e:V3):AR C n (c9 d e)=AR C n d-AR C n e:=by
 unfold AR;rw[<- Ab5];exact o8 λa _=>G6 _ _ _
theorem Yd6(C:List V3)(n d:V3)(k:Int):AR C n ⟨k*d.x,k*d.y,k*d.z⟩=k*AR C n d:=by
 unfold AR;rw[<- Ab6];exact o8 λa _=>by simp only[dot];grind
section
variable{X C:List V3}{n:V3}{k:Int}(h:Rim X C n k)
include h
theorem Rim.ar_o(o d:V3):sig C (λa=>D3 (c9 a o) (c9 (nxt C n a) o) d)=AR C n d:=by
 have e:∀a c:V3,D3 (c9 a o) (c9 c o) d=dot (c7 a c) d-(dot (c7 o c) d-dot (c7 o a) d):=λa c=>by simp only[D3,dot,c7,c9];grind
 have h1:sig C (λa=>D3 (c9 a o) (c9 (nxt C n a) o) d)=sig C (λa=>dot (c7 a (nxt C n a)) d-(dot (c7 o (nxt C n a)) d-dot (c7 o a) d)):=o8 λa _=>e a _
 rw[h1,Ab5,Ab5,h.sig_nx (λc=>dot (c7 o c) d)]
 show AR C n d-_=_;omega
theorem Rim.ne:∃a,a∈C:=by
 obtain⟨c,hc,_⟩:=h.other ⟨0,0,0⟩;exact⟨c,hc⟩
theorem Rim.ar_perp{d:V3}(hd:dot d n=0):AR C n d=0:=by
 obtain⟨o,ho⟩:=h.ne;rw[<- h.ar_o o d];refine ra5 λa ha=>?_
 have:=Ke9 h.n0 hd (h.perp ha ho) (h.perp (h.nx_mem ha) ho)
 rw[show D3 (c9 a o) (c9 (nxt C n a) o) d=dot d (c7 (c9 a o) (c9 (nxt C n a) o)) from Ab7 _ _]
 exact this
theorem Rim.ar_n(d:V3):dot n n*AR C n d=dot n d*AR C n n:=by
 have e:AR C n (c9 ⟨dot n n*d.x,dot n n*d.y,dot n n*d.z⟩ ⟨dot n d*n.x,dot n d*n.y,dot n d*n.z⟩)=0:=h.ar_perp (by simp only[dot,c9];grind)
 rw[dc6,Yd6,Yd6] at e;omega
theorem Rim.ar_pos(h3:3<=C.length):0<AR C n n:=by
 obtain⟨o,ho⟩:=h.ne;rw[<- h.ar_o o n];have term:∀a∈C,D3 (c9 a o) (c9 (nxt C n a) o) n=orp n a (nxt C n a) o:=λa _=>by rw[sd8];simp only[D3,crs];exact Ab7 _ _
 have nn:∀a∈C,0<=D3 (c9 a o) (c9 (nxt C n a) o) n:=λa ha=>by
  rw[term a ha];by_cases e1:o=a
  ·rw[e1,sd9];exact Qkl _
  ·by_cases e2:o=nxt C n a
   ·rw[<- e2,Bc0];exact Qkl _
   ·have:=(h.nx ha).2.2.2 o ho e1 e2;omega
 -- the corner behind the next one
 have ha:=h.nx_mem ho;have hne:o≠nxt C n o:=(h.nx ho).2.2.1;have hne2:o≠nxt C n (nxt C n o):=λe=>by
  have:=h.it_len ho (m:=2) (by omega) e.symm
  omega
 have hp:0<D3 (c9 (nxt C n o) o) (c9 (nxt C n (nxt C n o)) o) n:=by
  rw[term _ ha];exact (h.nx ha).2.2.2 o ho hne hne2
 have hsum:∀(l:List V3),(∀a∈l,0<=D3 (c9 a o) (c9 (nxt C n a) o) n)->nxt C n o∈l->0<sig l (λa=>D3 (c9 a o) (c9 (nxt C n a) o) n):=λl=>by
  induction l with
  |nil=>intro _ hx;cases hx
  |cons x l ih =>
   intro hl hx;rw[n5];have h1:=hl x (by simp)
   have h2:0<=sig l (λa=>D3 (c9 a o) (c9 (nxt C n a) o) n):=dc5 λa ha=>hl a (by simp[ha])
   rcases Qkc.1 hx with e|hx
   ·rw[e] at hp;omega
   ·have:=ih (λa ha=>hl a (by simp[ha])) hx;omega
 exact hsum C nn ha
theorem Rim.cone(h3:3<=C.length){c:V3}(hc:dot n c=k)(o:V3):(dot n o<k->0<AR C n (c9 c o))/\(dot n o=k->AR C n (c9 c o)=0)/\(k<dot n o->AR C n (c9 c o)<0):=by
 have e:=h.ar_n (c9 c o);rw[G6,hc] at e;have hp:=h.ar_pos h3;have hn:=A9 h.n0;refine⟨λhk=>?_,λhk=>?_,λhk=>?_⟩
 ·have:=Qkk (show 0<k-dot n o by omega) hp
  apply Qka;intro hno
  have:=Qkg (show 0<=dot n n by omega) (show 0<=-AR C n (c9 c o) by omega)
  rw[Qkx] at this;omega
 ·rw[show k-dot n o=0 by omega,Qkr] at e
  exact (Qke.1 e).resolve_left (by omega)
 ·have:=Qkk (show 0<dot n o-k by omega) hp
  apply Qka;intro hno;have h1:=Qkg (show 0<=dot n n by omega) (show 0<=AR C n (c9 c o) by omega)
  have:(dot n o-k)*AR C n n=-((k-dot n o)*AR C n n):=by rw[<- Qkae];congr 1;omega
  omega
theorem Rim.sum_edges(f:V3->V3->Int):sig C (λa=>sig C (λc=>@ite _ (Edg C n a c) (Classical.propDecidable _) (f a c) 0))=sig C (λa=>f a (nxt C n a)):=by
 refine o8 λa ha=>?_
 rw[Xa6 h.nd (h.nx_mem ha) λc hc hne=>?_]
 ·rw[if_pos (h.nx ha)]
 ·rw[if_neg λhe=>hne (he.out (h.nx ha))]
end
theorem Rim.fan{X C:List V3}{n:V3}{k:Int}(h:Rim X C n k){a:V3}(ha:a∈C):sig (List.range (C.length-2)) (λi=>D3 a (itr C n a (i+1)) (itr C n a (i+2)))=AR C n a:=by
 have e1:AR C n a=sig (List.range C.length) (λi=>dot (c7 (itr C n a i) (itr C n a (i+1))) a):=h.sig_it (λv=>dot (c7 v (nxt C n v)) a) ha
 rw[e1];have h2:=h.two;obtain⟨m,hm⟩:∃m,C.length=m+2:=⟨C.length-2,by omega⟩
 rw[hm,show m+2-2=m by omega]
 have hend:=h.it_end ha;rw[hm] at hend;have hr:List.range (m+2)=0::(List.range m).map (·+1)++[m+1]:=by
  rw[List.range_succ,List.range_succ_eq_map]
 rw[hr,List.cons_append,n5,pc5,ab8,n5,Ra0];have z1:dot (c7 (itr C n a 0) (itr C n a (0+1))) a=0:=by
  show dot (c7 a _) a=0;simp only[dot,c7];grind
 have z2:dot (c7 (itr C n a (m+1)) (itr C n a (m+1+1))) a=0:=by
  rw[show m+1+1=m+2 from rfl,hend]
  simp only[dot,c7];grind
 rw[z1,z2,Int.zero_add,Qks,Qks];exact o8 λi _=>by simp only[D3,dot,c7];grind
structure Pol(X:List V3):Prop where
 iv:X.all inV=true
 sol:Sol X
 nd:X.Nodup
 ex:∀v∈X,∃m,Hi X v m
def onF(p:Pln)(X:List V3):List V3:=X.filter λv=>decide (dot p.n v=p.b)
theorem j7{p:Pln}{X:List V3}{v:V3}:v∈onF p X↔v∈X/\dot p.n v=p.b:=by unfold onF;rw[Qkh,decide_eq_true_eq]
theorem Yd7(x:Int):0<=x*x:=by rw[<- Int.natAbs_mul_self];exact Int.natCast_nonneg _
theorem nb4{α:Type}(s h:α->Int):∀l:List α,l≠[]->(∀x∈l,0<h x)->∃x∈l,∀y∈l,s x*h y<=s y*h x
 |[],hn,_=>absurd rfl hn
 |[x],_,_=>⟨x,by simp,λy hy=>by rw[Qkf.1 hy];exact Qkl _⟩
 |x::y::l,_,hp=>by
  obtain⟨z,hz,hm⟩:=nb4 s h (y::l) (by simp) λa ha=>hp a (by simp only[Qkc] at ha ⊢;exact .inr ha)
  have px:=hp x (by simp)
  have pz:=hp z (by simp only[Qkc] at hz ⊢;exact .inr hz)
  by_cases hc:s z*h x<=s x*h z
  ·refine⟨z,by simp only[Qkc] at hz ⊢;exact .inr hz,λa ha=>?_⟩
   rcases Qkc.1 ha with rfl|ha
   ·exact hc
   ·exact hm a ha
  ·refine⟨x,by simp,λa ha=>?_⟩
   rcases Qkc.1 ha with rfl|ha
   ·exact Qkl _
   ·have h1:=hm a ha;have pa:=hp a (by simp only[Qkc] at ha ⊢;exact .inr ha)
    have k1:s x*h z*h a<=s z*h x*h a:=Qkp (by omega) (by omega)
    have k2:s z*h a*h x<=s a*h z*h x:=Qkp h1 (by omega)
    have k3:h z*(s x*h a)<=h z*(s a*h x):=by grind
    exact Qkak k3 pz
section
variable{X:List V3}(hX:Pol X)
include hX
theorem Pol.lens{p:Pln}(hp:Da7 X p):3<=(onF p X).length:=by
 obtain⟨u,w,x,hu,hw,hx,h3,e1,e2,e3⟩:=hp.on;have n1:u≠w:=λe=>h3 (by subst e;refine Qkas ?_ ?_ ?_<;>simp only[N3,c7,c9]<;>grind)
 have n2:u≠x:=λe=>h3 (by subst e;refine Qkas ?_ ?_ ?_<;>simp only[N3,c7,c9]<;>grind)
 have n3:w≠x:=λe=>h3 (by subst e;refine Qkas ?_ ?_ ?_<;>simp only[N3,c7,c9]<;>grind)
 have hnd:[u,w,x].Nodup:=by simp[n1,n2,n3]
 exact List.Nodup.length_le_of_subset hnd λv hv=>by
  simp only[Qkc,Qku,or_false] at hv
  rcases hv with rfl|rfl|rfl
  ·exact j7.2 ⟨hu,e1⟩
  ·exact j7.2 ⟨hw,e2⟩
  ·exact j7.2 ⟨hx,e3⟩
theorem Pol.rim{p:Pln}(hp:Da7 X p):Rim X (onF p X) p.n p.b :=
 ⟨Xa0 hp.ok,hX.ex,λc hc=>j7.1 hc,hX.nd.filter _,by have:=hX.lens hp;omega⟩
theorem Pol.third{p:Pln}(hp:Da7 X p)(a c:V3):∃v∈onF p X,v≠a/\v≠c:=by
 apply Qka;intro hno
 have:(onF p X).length<=[a,c].length:=List.Nodup.length_le_of_subset (hX.nd.filter _) λv hv=>by
  simp only[Qkc,Qku,or_false];apply Qka;intro hne;exact hno ⟨v,hv,λe=>hne (.inl e),λe=>hne (.inr e)⟩
 have:=hX.lens hp
 simp only[List.length_cons,List.length_nil] at *
 omega
theorem Pol.uni{p q:Pln}(hp:Da7 X p)(hq:Da7 X q){a c:V3}(e1:Edg (onF p X) p.n a c)(e2:Edg (onF q X) q.n a c):p=q:=by
 obtain⟨b1,hb1,ba1,bc1⟩:=hX.third hp a c;obtain⟨b2,hb2,ba2,bc2⟩:=hX.third hq a c;have s1:=e1.2.2.2 b1 hb1 ba1 bc1;have s2:=e2.2.2.2 b2 hb2 ba2 bc2;have pa:=(j7.1 e1.1).2;have pc:=(j7.1 e1.2.1).2;have qa:=(j7.1 e2.1).2;have qc:=(j7.1 e2.2.1).2;obtain⟨x1,p1⟩:=j7.1 hb1;obtain⟨x2,q2⟩:=j7.1 hb2;have c1:=λe=>K7 (d:=e) (I9 (n:=p.n) (a:=c9 c a) (c:=c9 b1 a) (by rw[G6];omega) (by rw[G6];omega))
 have c2:=λe=>K7 (d:=e) (I9 (n:=q.n) (a:=c9 c a) (c:=c9 b2 a) (by rw[G6];omega) (by rw[G6];omega))
 have t1:0<dot p.n (c7 (c9 c a) (c9 b1 a)):=s1;have t2:0<dot q.n (c7 (c9 c a) (c9 b2 a)):=s2;have hd1:=hp.hd b2 x2;by_cases hon:dot p.n b2=p.b
 ·-- both planes go through the same Ob3 corners
  have s3:0<dot p.n (c7 (c9 c a) (c9 b2 a)):=e1.2.2.2 b2 (j7.2 ⟨x2,hon⟩) ba2 bc2;have hN:(c7 (c9 c a) (c9 b2 a):V3)≠⟨0,0,0⟩:=λe=>by rw[e] at t2;simp[dot] at t2
  have c3:=λe=>K7 (d:=e) (I9 (n:=p.n) (a:=c9 c a) (c:=c9 b2 a) (by rw[G6];omega) (by rw[G6];omega))
  generalize c7 (c9 c a) (c9 b2 a)=N at *
  have hNN:=A9 hN;have par:c7 p.n q.n=⟨0,0,0⟩:=by
   have d1:∀v:V3,dot v ⟨1,0,0⟩=v.x:=λv=>by simp[dot]
   have d2:∀v:V3,dot v ⟨0,1,0⟩=v.y:=λv=>by simp[dot]
   have d3:∀v:V3,dot v ⟨0,0,1⟩=v.z:=λv=>by simp[dot]
   have a1:=c3 ⟨1,0,0⟩;have a2:=c3 ⟨0,1,0⟩;have a3:=c3 ⟨0,0,1⟩;have f1:=c2 ⟨1,0,0⟩;have f2:=c2 ⟨0,1,0⟩;have f3:=c2 ⟨0,0,1⟩;rw[d1,d1] at a1 f1;rw[d2,d2] at a2 f2;rw[d3,d3] at a3 f3;have z:∀{t:Int},dot N N*t=0->t=0:=λe=>(Qke.1 e).resolve_left (by omega)
   generalize dot N N=m at *
   generalize dot p.n N=x at *
   generalize dot q.n N=y at *
   refine Qkas (z (z ?_)) (z (z ?_)) (z (z ?_))
   ·have:m*(m*(c7 p.n q.n).x)=(m*p.n.y)*(m*q.n.z)-(m*p.n.z)*(m*q.n.y):=by simp only[c7];grind
    rw[this,a2,a3,f2,f3];grind
   ·have:m*(m*(c7 p.n q.n).y)=(m*p.n.z)*(m*q.n.x)-(m*p.n.x)*(m*q.n.z):=by simp only[c7];grind
    rw[this,a1,a3,f1,f3];grind
   ·have:m*(m*(c7 p.n q.n).z)=(m*p.n.x)*(m*q.n.y)-(m*p.n.y)*(m*q.n.x):=by simp only[c7];grind
    rw[this,a1,a2,f1,f2];grind
  have hn:q.n=p.n:=by
   rcases Sb9 (Kb0 hp.ok) (Kb0 hq.ok) par with e|e
   ·exact e
   ·rw[e] at t2
    have:dot (neg p.n) N=-dot p.n N:=by simp only[dot,neg];grind
    omega
  have hb:q.b=p.b:=by rw[<- qa,hn,pa]
  cases p;cases q
  simp only at hn hb
  rw[hn,hb]
 ·exfalso;have k1:=c1 (c9 b2 a);have h1:dot p.n (c9 b2 a)<0:=by rw[G6];omega
  have hN1:0<dot (c7 (c9 c a) (c9 b1 a)) (c7 (c9 c a) (c9 b1 a)):=A9 λe=>by rw[e] at t1;simp[dot] at t1
  have m1:=Qki hN1 h1;have r1:dot (c7 (c9 c a) (c9 b1 a)) (c9 b2 a)<0:=by
   apply Qka;intro hno
   have:=Qkg (show 0<=dot p.n (c7 (c9 c a) (c9 b1 a)) by omega) (show 0<=dot (c7 (c9 c a) (c9 b1 a)) (c9 b2 a) by omega)
   omega
  have k2:=c2 (c9 b1 a);have h2:dot q.n (c9 b1 a)<=0:=by rw[G6];have:=hq.hd b1 x1;omega
  have hN2:0<dot (c7 (c9 c a) (c9 b2 a)) (c7 (c9 c a) (c9 b2 a)):=A9 λe=>by rw[e] at t2;simp[dot] at t2
  have m2:=Qkg (show 0<=dot (c7 (c9 c a) (c9 b2 a)) (c7 (c9 c a) (c9 b2 a)) by omega) (show 0<=-dot q.n (c9 b1 a) by omega)
  rw[Qkx] at m2;have e3:dot (c7 (c9 c a) (c9 b2 a)) (c9 b1 a)=-dot (c7 (c9 c a) (c9 b1 a)) (c9 b2 a):=by simp only[dot,c7,c9];grind
  have m3:=Qkk t2 (show 0<dot (c7 (c9 c a) (c9 b2 a)) (c9 b1 a) by omega)
  omega
end
section
variable{X:List V3}(hX:Pol X)
include hX
theorem Pol.rev{p:Pln}(hp:Da7 X p){a c:V3}(he:Edg (onF p X) p.n a c):∃q,Da7 X q/\Edg (onF q X) q.n c a:=by
 obtain⟨xa,pa⟩:=j7.1 he.1;obtain⟨xc,pc⟩:=j7.1 he.2.1;obtain⟨b1,hb1,ba1,bc1⟩:=hX.third hp a c;obtain⟨xb,pb⟩:=j7.1 hb1;have sb:=he.2.2.2 b1 hb1 ba1 bc1
 -- the points off the plane
 obtain⟨v0,hv0,hne⟩:=hX.sol.off (Xa0 hp.ok) p.b;have hle:=hp.hd;have hY:X.filter (λv=>decide (dot p.n v<p.b))≠[]:=λe=>by
  have:v0∈X.filter (λv=>decide (dot p.n v<p.b)):=Qkh.2 ⟨hv0,decide_eq_true (by have:=hle v0 hv0;omega)⟩
  rw[e] at this;cases this
 obtain⟨z,hz,hmin⟩:=nb4 (λv=>orp p.n a c v) (λv=>p.b-dot p.n v) _ hY λv hv=>by
  have:=of_decide_eq_true (Qkh.1 hv).2
  omega
 obtain⟨xz,hz'⟩:=Qkh.1 hz;have hzb:=of_decide_eq_true hz';have hmin':∀v∈X,dot p.n v<p.b->orp p.n a c z*(p.b-dot p.n v)<=orp p.n a c v*(p.b-dot p.n z):=λv hv hlt=>hmin v (Qkh.2 ⟨hv,decide_eq_true hlt⟩)
 clear hmin
 obtain⟨S,hS⟩:∃S,S=orp p.n a c z:=⟨_,rfl⟩;obtain⟨H,hH⟩:∃H,H=p.b-dot p.n z:=⟨_,rfl⟩;rw[<- hS,<- hH] at hmin';have hH0:0<H:=by omega
 -- how far a point Id2 within,and below
 have hs0:∀v∈X,dot p.n v=p.b->0<=orp p.n a c v:=λv hv on=>by
  by_cases e1:v=a
  ·rw[e1,sd9];exact Qkl _
  ·by_cases e2:v=c
   ·rw[e2,Bc0];exact Qkl _
   ·have:=he.2.2.2 v (j7.2 ⟨hv,on⟩) e1 e2;omega
 obtain⟨u,hu⟩:∃u:V3,u=c7 p.n (c9 c a):=⟨_,rfl⟩;obtain⟨m,hm⟩:∃m:V3,m=⟨-(H*u.x)-S*p.n.x,-(H*u.y)-S*p.n.y,-(H*u.z)-S*p.n.z⟩:=⟨_,rfl⟩;have hsv:∀v,orp p.n a c v=dot u (c9 v a):=λv=>by rw[hu];simp only[orp,crs,dot,c7,c9];grind
 have hmv:∀v,dot m v-dot m a=-(H*orp p.n a c v)+S*(p.b-dot p.n v):=λv=>by
  rw[hsv,hm,<- pa];simp only[dot,c9];grind
 have hma:∀v∈X,dot m v<=dot m a:=λv hv=>by
  have e:=hmv v;by_cases hlt:dot p.n v<p.b
  ·have:=hmin' v hv hlt
   have:orp p.n a c v*H=H*orp p.n a c v:=Int.mul_comm _ _
   omega
  ·have on:dot p.n v=p.b:=by have:=hle v hv;omega
   have:=Qkg (show 0<=H by omega) (hs0 v hv on)
   rw[show p.b-dot p.n v=0 by omega,Qkd] at e
   omega
 have hmc:dot m c=dot m a:=by
  have e:=hmv c;rw[Bc0,Qkd,show p.b-dot p.n c=0 by omega,Qkd] at e
  omega
 have hmz:dot m z=dot m a:=by
  have e:=hmv z;rw[<- hS,<- hH,Int.mul_comm H S] at e;omega
 have hmb:dot m b1<dot m a:=by
  have e:=hmv b1
  have:=Qkk hH0 sb
  rw[show p.b-dot p.n b1=0 by omega,Qkd] at e
  omega
 have hdne:c9 c a≠⟨0,0,0⟩:=λe=>he.2.2.1 (by
  simp only[c9,V3.mk.injEq] at e;obtain⟨k1,k2,k3⟩:=e;exact Qkas (by omega) (by omega) (by omega))
 have hdd:=A9 hdne;have hN3:N3 a c z≠⟨0,0,0⟩:=λe=>by
  have:=Ab8 (m:=c9 c a) (show c7 (c9 c a) (c9 z a)=⟨0,0,0⟩ from e) p.n
  rw[G6 p.n c a,show dot p.n c-dot p.n a=0 by omega,Qkd,G6 p.n z a] at this
  have:=(Qke.1 this.symm).resolve_left (by omega)
  omega
 obtain⟨q,hq,qa,qc,qz⟩:=Wc1 hX.iv (n:=m) xa xc xz hN3 hma hmc hmz ⟨b1,xb,by omega⟩
 -- the plane's normal Id2 along m
 have hmne:m≠⟨0,0,0⟩:=λe=>by rw[e] at hmb;simp[dot] at hmb
 have hmm:=A9 hmne;have hpar:c7 q.n m=⟨0,0,0⟩:=by
  have k1:c7 q.n (N3 a c z)=⟨0,0,0⟩:=I9 (by rw[G6];omega) (by rw[G6];omega)
  have k2:c7 m (N3 a c z)=⟨0,0,0⟩:=I9 (by rw[G6];omega) (by rw[G6];omega)
  have c1:=λe=>K7 (d:=e) k1
  have c2:=λe=>K7 (d:=e) k2
  have hNN:=A9 hN3;generalize N3 a c z=N at *
  have d1:∀v:V3,dot v ⟨1,0,0⟩=v.x:=λv=>by simp[dot]
  have d2:∀v:V3,dot v ⟨0,1,0⟩=v.y:=λv=>by simp[dot]
  have d3:∀v:V3,dot v ⟨0,0,1⟩=v.z:=λv=>by simp[dot]
  have a1:=c1 ⟨1,0,0⟩;have a2:=c1 ⟨0,1,0⟩;have a3:=c1 ⟨0,0,1⟩;have f1:=c2 ⟨1,0,0⟩;have f2:=c2 ⟨0,1,0⟩;have f3:=c2 ⟨0,0,1⟩;rw[d1,d1] at a1 f1;rw[d2,d2] at a2 f2;rw[d3,d3] at a3 f3;have w:∀{t:Int},dot N N*t=0->t=0:=λe=>(Qke.1 e).resolve_left (by omega)
  clear hmv hm hu hsv
  generalize dot N N=g at *
  generalize dot q.n N=x at *
  generalize dot m N=y at *
  refine Qkas (w (w ?_)) (w (w ?_)) (w (w ?_))
  ·have:g*(g*(c7 q.n m).x)=(g*q.n.y)*(g*m.z)-(g*q.n.z)*(g*m.y):=by simp only[c7];grind
   rw[this,a2,a3,f2,f3];grind
  ·have:g*(g*(c7 q.n m).y)=(g*q.n.z)*(g*m.x)-(g*q.n.x)*(g*m.z):=by simp only[c7];grind
   rw[this,a1,a3,f1,f3];grind
  ·have:g*(g*(c7 q.n m).z)=(g*q.n.x)*(g*m.y)-(g*q.n.y)*(g*m.x):=by simp only[c7];grind
   rw[this,a1,a2,f1,f2];grind
 have hq2:=λe=>K7 (d:=e) hpar
 have hk:0<dot q.n m:=by
  have e:=hq2 (c9 b1 a);rw[G6,G6] at e;have h1:dot q.n b1-dot q.n a<=0:=by have:=hq.hd b1 xb;omega
  apply Qka;intro hno;have t1:=Qkg (show 0<=dot m m by omega) (show 0<=-(dot q.n b1-dot q.n a) by omega)
  rw[Qkx] at t1;have t2:=Qkg (show 0<=-dot q.n m by omega) (show 0<=-(dot m b1-dot m a) by omega)
  rw[Int.neg_mul_neg] at t2;have t3:dot q.n m*(dot m b1-dot m a)=0:=by omega
  rcases Qke.1 t3 with t3|t3
  ·have e':=hq2 q.n;rw[t3,Qkr] at e'
   have:=A9 (Xa0 hq.ok)
   rcases Qke.1 e' with r|r<;>omega
  ·omega
 refine⟨q,hq,j7.2 ⟨xc,qc⟩,j7.2 ⟨xa,qa⟩,Ne.symm he.2.2.1,λv hv n1 n2=>?_⟩
 obtain⟨xv,qv⟩:=j7.1 hv;have e:=hq2 (c7 (c9 a c) (c9 v c))
 -- how the Ob3 points turn,seen along m
 have em:H*dot m (c7 (c9 a c) (c9 v c))=(p.b-dot p.n v)*(H*H*dot (c9 c a) (c9 c a)+S*S):=by
  have mv:dot m v=dot m a:=by
   have e':=hq2 (c9 v a);rw[G6,G6,show dot q.n v-dot q.n a=0 by omega,Qkd] at e'
   have:=(Qke.1 e'.symm).resolve_left (by omega)
   omega
  have r1:H*orp p.n a c v=S*(p.b-dot p.n v):=by have:=hmv v;omega
  have r2:dot m (c7 (c9 a c) (c9 v c))=H*((p.b-dot p.n v)*dot (c9 c a) (c9 c a))+S*orp p.n a c v:=by
   have nd:dot p.n (c9 c a)=0:=by rw[G6];omega
   have r3:dot m (c7 (c9 a c) (c9 v c))=H*(dot p.n (c9 c a)*dot (c9 c a) (c9 v a))-H*(dot p.n (c9 v a)*dot (c9 c a) (c9 c a))+S*orp p.n a c v:=by
    have q1:dot u (c7 (c9 c a) (c9 v a))=dot p.n (c9 c a)*dot (c9 c a) (c9 v a)-dot p.n (c9 v a)*dot (c9 c a) (c9 c a):=by rw[hu];simp only[dot,c7];grind
    have q2:c7 (c9 a c) (c9 v c)=⟨-(c7 (c9 c a) (c9 v a)).x,-(c7 (c9 c a) (c9 v a)).y,-(c7 (c9 c a) (c9 v a)).z⟩:=by refine Qkas ?_ ?_ ?_<;>simp only[c7,c9]<;>grind
    have q3:orp p.n a c v=dot p.n (c7 (c9 c a) (c9 v a)):=rfl;rw[q2,q3];have q4:dot m ⟨-(c7 (c9 c a) (c9 v a)).x,-(c7 (c9 c a) (c9 v a)).y,-(c7 (c9 c a) (c9 v a)).z⟩=H*dot u (c7 (c9 c a) (c9 v a))+S*dot p.n (c7 (c9 c a) (c9 v a)):=by
     rw[hm];generalize c7 (c9 c a) (c9 v a)=w;simp only[dot];grind
    rw[q4,q1]
    grind
   rw[r3,nd,Qkr,Qkd,G6 p.n v a,show dot p.n v-dot p.n a=-(p.b-dot p.n v) by omega]
   grind
  rw[r2];generalize dot (c9 c a) (c9 c a)=D at *
  generalize orp p.n a c v=s at *
  generalize p.b-dot p.n v=t at *
  grind
 have hpos:0<H*H*dot (c9 c a) (c9 c a)+S*S:=by
  have:=Qkk (Qkk hH0 hH0) hdd
  have:=Yd7 S
  omega
 have hv0':0<p.b-dot p.n v:=by
  apply Qka;intro hno;have on:dot p.n v=p.b:=by have:=hle v xv;omega
  have s1:=he.2.2.2 v (j7.2 ⟨xv,on⟩) n2 n1;have e':=hq2 (c9 v a);rw[G6,G6,show dot q.n v-dot q.n a=0 by omega,Qkd] at e'
  have mv:=(Qke.1 e'.symm).resolve_left (by omega)
  have e2:=hmv v;rw[show p.b-dot p.n v=0 by omega,Qkd] at e2
  have:=Qkk hH0 s1
  omega
 have t1:=Qkk hv0' hpos;rw[<- em] at t1;have t2:0<dot m (c7 (c9 a c) (c9 v c)):=by
  apply Qka;intro hno
  have:=Qkg (show 0<=H by omega) (show 0<=-dot m (c7 (c9 a c) (c9 v c)) by omega)
  rw[Qkx] at this;omega
 have t3:=Qkk hk t2;rw[<- e] at t3;show 0<dot q.n (c7 (c9 a c) (c9 v c));apply Qka;intro hno
 have:=Qkg (show 0<=dot m m by omega) (show 0<=-dot q.n (c7 (c9 a c) (c9 v c)) by omega)
 rw[Qkx] at this;omega
end
open Classical in
noncomputable def atE(X:List V3)(p:Pln)(a c:V3)(t:Int):Int:=if Edg (onF p X) p.n a c then t else 0
def ptF(p:Pln)(X:List V3):V3:=(onF p X).headD ⟨0,0,0⟩
noncomputable def V6(X:List V3)(o:V3):Int:=sig (F0 X) λp=>AR (onF p X) p.n (c9 (ptF p X) o)
section
variable{X:List V3}(hX:Pol X)
include hX
theorem Pol.mem{p:Pln}:p∈F0 X↔Da7 X p:=C4 hX.iv p
omit hX in
theorem Ad3(X:List V3):(F0 X).Nodup:=cc5 (cc4 X)
theorem Pol.pt{p:Pln}(hp:Da7 X p):ptF p X∈onF p X:=by
 have:=hX.lens hp
 unfold ptF;cases h:onF p X with
 |nil=>rw[h] at this;simp at this
 |cons a l=>simp
theorem Pol.edges{p:Pln}(hp:Da7 X p)(f:V3->V3->Int):sig X (λa=>sig X (λc=>atE X p a c (f a c)))=sig (onF p X) (λa=>f a (nxt (onF p X) p.n a)):=by
 rw[<- (hX.rim hp).sum_edges f];unfold onF;rw[aa6];refine o8 λa ha=>?_
 split
 ·rw[aa6];refine o8 λc hc=>?_
  split
  ·rfl
  ·rename_i hn;unfold atE;rw[if_neg λhe=>hn (decide_eq_true (j7.1 he.2.1).2)]
 ·rename_i hn;refine ra5 λc _=>?_
  unfold atE;rw[if_neg λhe=>hn (decide_eq_true (j7.1 he.1).2)]
theorem Pol.anti(f:V3->V3->Int)(hf:∀a c,f a c=-f c a):sig (F0 X) (λp=>sig X (λa=>sig X (λc=>atE X p a c (f a c))))=0:=by
 rw[ib8];have e:sig X (λa=>sig (F0 X) (λp=>sig X (λc=>atE X p a c (f a c))))=sig X (λa=>sig X (λc=>sig (F0 X) (λp=>atE X p a c (f a c)))):=o8 λa _=>ib8 _ _ _
 rw[e];have one:∀a c t,(∃p,p∈F0 X/\Edg (onF p X) p.n a c)->sig (F0 X) (λp=>atE X p a c t)=t:=λa c t ⟨p,hp,he⟩=>by
  rw[Xa6 (Ad3 X) hp λq hq hne=>?_]
  ·unfold atE;rw[if_pos he]
  ·unfold atE;rw[if_neg λhe'=>hne (hX.uni (hX.mem.1 hq) (hX.mem.1 hp) he' he)]
 have none:∀a c t,¬ (∃p,p∈F0 X/\Edg (onF p X) p.n a c)->sig (F0 X) (λp=>atE X p a c t)=0:=λa c t hn=>ra5 λp hp=>by
  unfold atE;rw[if_neg λhe=>hn ⟨p,hp,he⟩]
 have turn:∀a c,(∃p,p∈F0 X/\Edg (onF p X) p.n a c)->∃p,p∈F0 X/\Edg (onF p X) p.n c a:=λa c ⟨p,hp,he⟩=>by
  obtain⟨q,hq,h⟩:=hX.rev (hX.mem.1 hp) he;exact⟨q,hX.mem.2 hq,h⟩
 refine jd1 λa _ c _=>?_
 by_cases h:∃p,p∈F0 X/\Edg (onF p X) p.n a c
 ·rw[one a c _ h,one c a _ (turn a c h)];exact hf a c
 ·rw[none a c _ h,none c a _ λk=>h (turn c a k)]
  rfl
theorem Pol.closed(w:V3):sig (F0 X) (λp=>AR (onF p X) p.n w)=0:=by
 rw[<- hX.anti (λa c=>dot (c7 a c) w) λa c=>by simp only[dot,c7];grind]
 refine o8 λp hp=>?_
 rw[hX.edges (hX.mem.1 hp)];rfl
theorem Pol.from'(o:V3):V6 X o=sig (F0 X) λp=>AR (onF p X) p.n (ptF p X):=by
 unfold V6;have e:sig (F0 X) (λp=>AR (onF p X) p.n (c9 (ptF p X) o))=sig (F0 X) (λp=>AR (onF p X) p.n (ptF p X)-AR (onF p X) p.n o):=o8 λp _=>dc6 _ _ _ _
 rw[e,Ab5,hX.closed o,Int.sub_zero]
theorem Pol.any(o o':V3):V6 X o=V6 X o':=by rw[hX.from',hX.from']
theorem Pol.cone{p:Pln}(hp:Da7 X p)(o:V3):(dot p.n o<p.b->0<AR (onF p X) p.n (c9 (ptF p X) o))/\(dot p.n o=p.b->AR (onF p X) p.n (c9 (ptF p X) o)=0)/\(p.b<dot p.n o->AR (onF p X) p.n (c9 (ptF p X) o)<0) :=
 (hX.rim hp).cone (hX.lens hp) (j7.1 (hX.pt hp)).2 o
theorem Pol.pos:0<V6 X ⟨0,0,0⟩:=by
 obtain⟨o,ho⟩:=hX.sol.ne;rw[hX.any _ o]
 -- some facet does not have this corner
 have nn:∀p∈F0 X,0<=AR (onF p X) p.n (c9 (ptF p X) o):=λp hp=>by
  have h:=hX.mem.1 hp;obtain⟨k1,k2,_⟩:=hX.cone h o
  have:=h.hd o ho
  by_cases e:dot p.n o=p.b
  ·rw[k2 e];exact Qkl _
  ·have:=k1 (by omega);omega
 have hx:∃p∈F0 X,dot p.n o<p.b:=by
  apply Qka;intro hno;have hall:∀p∈F0 X,dot p.n o=p.b:=λp hp=>by
   have:=(hX.mem.1 hp).hd o ho
   apply Qka;intro hne;exact hno ⟨p,hp,by omega⟩
  have hz:V6 X o=0:=ra5 λp hp=>(hX.cone (hX.mem.1 hp) o).2.1 (hall p hp)
  -- take another corner: all cones from there count nothing either
  have hne:=se6 hX.iv hX.sol;cases hF:F0 X with
  |nil=>exact hne hF
  |cons p l =>
   have hp:p∈F0 X:=by rw[hF];simp
   have hf:=hX.mem.1 hp;obtain⟨v,hv,hoff⟩:=hX.sol.off (Xa0 hf.ok) p.b;have hpos:0<V6 X v:=by
    unfold V6;have nn':∀q∈F0 X,0<=AR (onF q X) q.n (c9 (ptF q X) v):=λq hq=>by
     have h:=hX.mem.1 hq;obtain⟨k1,k2,_⟩:=hX.cone h v
     have:=h.hd v hv
     by_cases e:dot q.n v=q.b
     ·rw[k2 e];exact Qkl _
     ·have:=k1 (by omega);omega
    rw[hF,n5];have h1:=(hX.cone hf v).1 (by have:=hf.hd v hv;omega)
    have h2:0<=sig l λq=>AR (onF q X) q.n (c9 (ptF q X) v):=dc5 λq hq=>nn' q (by rw[hF];simp[hq])
    omega
   rw[hX.any v o,hz] at hpos;omega
 obtain⟨p,hp,hlt⟩:=hx;unfold V6;have hs:∀l:List Pln,(∀q∈l,q∈F0 X)->p∈l->0<sig l λq=>AR (onF q X) q.n (c9 (ptF q X) o):=λl=>by
  induction l with
  |nil=>intro _ h;cases h
  |cons q l ih =>
   intro hl hm;rw[n5];have h1:=nn q (hl q (by simp))
   have h2:0<=sig l λq=>AR (onF q X) q.n (c9 (ptF q X) o):=dc5 λr hr=>nn r (hl r (by simp[hr]))
   rcases Qkc.1 hm with e|hm
   ·subst e
    have:=(hX.cone (hX.mem.1 hp) o).1 hlt
    omega
   ·have:=ih (λr hr=>hl r (by simp[hr])) hm;omega
 exact hs _ (λq h=>h) hp
end
set_option maxRecDepth 100000
theorem Le1{a c:Nat}{x y:Int}(h1:Sm a x)(h2:Sm c y):Sm ((a*c:Nat):Int) (x*y):=by
 have k1:x.natAbs<=a:=by obtain⟨p,q⟩:=h1;omega
 have k2:y.natAbs<=c:=by obtain⟨p,q⟩:=h2;omega
 have k:(x*y).natAbs<=a*c:=by rw[Int.natAbs_mul];exact Nat.mul_le_mul k1 k2
 constructor<;>omega
def Sm3(n:Int)(v:V3):Prop:=Sm n v.x/\Sm n v.y/\Sm n v.z
theorem td0{v:V3}:inV v=true↔Sm3 24 v:=ja6 v
theorem Ad4{u w:V3}(hu:inV u=true)(hw:inV w=true):D1 u w=c9 u w/\Sm3 48 (c9 u w):=by
 obtain⟨⟨a1,a2⟩,⟨a3,a4⟩,a5,a6⟩:=(ja6 _).1 hu;obtain⟨⟨c1,c2⟩,⟨c3,c4⟩,c5,c6⟩:=(ja6 _).1 hw;refine⟨?_,⟨by simp only[c9];omega,by simp only[c9];omega⟩,⟨by simp only[c9];omega,by simp only[c9];omega⟩,by simp only[c9];omega,by simp only[c9];omega⟩
 unfold D1 c9;rw[I6 (by omega) (by omega),I6 (by omega) (by omega),I6 (by omega) (by omega)]
theorem jd4{a c:V3}(ha:Sm3 48 a)(hc:Sm3 48 c):B4 a c=c7 a c/\Sm3 4608 (c7 a c):=by
 have m:∀{x y:Int},Sm 48 x->Sm 48 y->-2304<=x*y/\x*y<=2304:=λh1 h2=>Le1 (a:=48) (c:=48) h1 h2
 obtain⟨a1,a2,a3⟩:=ha;obtain⟨c1,c2,c3⟩:=hc;have p1:=m a2 c3;have p2:=m a3 c2;have p3:=m a3 c1;have p4:=m a1 c3;have p5:=m a1 c2;have p6:=m a2 c1;have hs:Sm3 4608 (c7 a c):=⟨⟨by simp only[c7];omega,by simp only[c7];omega⟩,⟨by simp only[c7];omega,by simp only[c7];omega⟩,by simp only[c7];omega,by simp only[c7];omega⟩
 refine⟨?_,hs⟩;unfold B4;simp only[Tc4,qd9];obtain⟨s1,s2,s3⟩:=hs;show (⟨W (c7 a c).x,W (c7 a c).y,W (c7 a c).z⟩:V3)=c7 a c;rw[qb0 (s1.mono (by omega)),qb0 (s2.mono (by omega)),qb0 (s3.mono (by omega))]
theorem jd5{a c:V3}(ha:Sm3 4608 a)(hc:Sm3 4608 c):z6 a c=dot a c/\Sm 63700992 (dot a c):=by
 have m:∀{x y:Int},Sm 4608 x->Sm 4608 y->-21233664<=x*y/\x*y<=21233664:=λh1 h2=>Le1 (a:=4608) (c:=4608) h1 h2
 have p1:=m ha.1 hc.1;have p2:=m ha.2.1 hc.2.1;have p3:=m ha.2.2 hc.2.2;have hs:Sm 63700992 (dot a c):=by unfold dot;constructor<;>omega
 refine⟨?_,hs⟩;unfold z6;simp only[Jb5,Zb2];exact qb0 (hs.mono (by omega))
theorem Sm3.mono{n m:Int}{v:V3}(h:Sm3 n v)(hn:n<=m):Sm3 m v:=⟨Sm.mono h.1 hn,Sm.mono h.2.1 hn,Sm.mono h.2.2 hn⟩
theorem Yd8{a c v:V3}(ha:inV a=true)(hc:inV c=true)(hv:inV v=true):z6 (B4 a c) v=D3 a c v/\Sm 63700992 (D3 a c v):=by
 obtain⟨e1,e2⟩:=jd4 ((td0.1 ha).mono (by omega)) ((td0.1 hc).mono (by omega))
 rw[e1];exact jd5 e2 ((td0.1 hv).mono (by omega))
theorem De0{n a c v:V3}(hn:Sm3 4608 n)(ha:inV a=true)(hc:inV c=true)(hv:inV v=true):z6 n (B4 (D1 c a) (D1 v a))=orp n a c v:=by
 obtain⟨e1,e2⟩:=Ad4 hc ha;obtain⟨e3,e4⟩:=Ad4 hv ha;obtain⟨e5,e6⟩:=jd4 e2 e4;rw[e1,e3,e5];exact (jd5 hn e6).1
def Yd9(C:List V3)(g:Nat->List b7):Prop:=∀k,k<C.length->g k=tV.row (gL tV C k)
section
variable{n:V3}{C:List V3}{g:Nat->List b7}(hn:Sm3 4608 n)(hg:Yd9 C g)(hC:∀c∈C,inV c=true)(hl:C.length<=1000)
include hn hg hC hl
theorem Kd0{v:V3}(hv:inV v=true):∃j,lp (N9 ⟨C.length,g,(C.length:Int),n.x,n.y,n.z,C.length,g,v.x,v.y,v.z⟩) ⟨0,v.x,v.y,v.z⟩=(1,⟨j,(nxt C n v).x,(nxt C n v).y,(nxt C n v).z⟩):=by
 suffices key:∃t s,lp (N9 ⟨C.length,g,(C.length:Int),n.x,n.y,n.z,C.length,g,v.x,v.y,v.z⟩) ⟨0,v.x,v.y,v.z⟩=(t,s)/\(t=1/\∃j,s=⟨j,(nxt C n v).x,(nxt C n v).y,(nxt C n v).z⟩) by
  obtain⟨t,s,h,rfl,j,rfl⟩:=key;exact⟨j,h⟩
 refine P6 (step:=N9 ⟨C.length,g,(C.length:Int),n.x,n.y,n.z,C.length,g,v.x,v.y,v.z⟩) (mk:=λj (b:V3)=>(⟨(j:Int),b.x,b.y,b.z⟩:o2)) C.length (λj b=>inV b=true/\nxF n v (C.drop j) b=nxt C n v) (λt s=>t=1/\∃j,s=⟨j,(nxt C n v).x,(nxt C n v).y,(nxt C n v).z⟩) (by omega)
  (λj b hj hi=>?_) (λj b hj hi=>?_) 0 v ⟨hv,rfl⟩
 ·obtain⟨hb,hi⟩:=hi;have hw:=hC _ (db4 tV hj);have hN:=D2 hj (show C.length<=4611686018427387904 by omega)
  have ho:=De0 (a:=v) (c:=b) (v:=gL tV C j) hn hv hb hw;have hd:C.drop j=gL tV C j::C.drop (j+1):=by
   rw[pb0 tV hj];exact List.drop_eq_getElem_cons hj
  rw[hd] at hi;unfold nxF at hi;have e1:((gL tV C j).x==v.x&&((gL tV C j).y==v.y&&((gL tV C j).z==v.z&&true)))=eqV (gL tV C j) v:=rfl;have e2:(b.x==v.x&&(b.y==v.y&&(b.z==v.z&&true)))=eqV b v:=rfl;have e3:∀u:V3,toI (hdA (tV.row u))=u.x/\toI (hdA (tlA (tV.row u)))=u.y/\toI (hdA (tlA (tlA (tV.row u))))=u.z/\(Nat.ble 3 (len (tV.row u))&&na9 [CK.int .i64,CK.int .i64,CK.int .i64] (tV.row u))=true:=λ_=>⟨rfl,rfl,rfl,rfl⟩
  obtain⟨f1,f2,f3,f4⟩:=e3 (gL tV C j);show Nx (A8 Stp.next Stp.exit Stp.fail _ _) _ _;simp only[A8,Int.toNat_natCast,hg j hj,f1,f2,f3,f4,e1,e2,hN,i9 hj];rw[btD (r7 hj)];simp only[y7];rw[show (⟨(gL tV C j).x,(gL tV C j).y,(gL tV C j).z⟩:V3)=gL tV C j from rfl,show (⟨b.x,b.y,b.z⟩:V3)=b from rfl,show (⟨v.x,v.y,v.z⟩:V3)=v from rfl,show (⟨n.x,n.y,n.z⟩:V3)=n from rfl,ho]
  have take : ∀ c : V3, inV c = true → nxF n v (C.drop (j + 1)) c = nxt C n v → Nx (.next (⟨((j + 1 : Nat) : Int), c.x, c.y, c.z⟩ : o2)) (fun t => t = 1 ∧ ∃ j', (⟨(j : Int), b.x, b.y, b.z⟩ : o2) = ⟨j', (nxt C n v).x, (nxt C n v).y, (nxt C n v).z⟩)
    (λs=>∃c':V3,s=(⟨((j+1:Nat):Int),c'.x,c'.y,c'.z⟩:o2)/\(inV c'=true/\nxF n v (C.drop (j+1)) c'=nxt C n v)):=λc hc he=>.nx ⟨c,rfl,hc,he⟩
  cases h1:eqV (gL tV C j) v with
  |true =>
   rw[h1] at hi;exact take b hb (by simpa using hi)
  |false =>
   rw[h1] at hi;cases h2:eqV b v with
   |true =>
    rw[h2] at hi;exact take _ hw (by simpa using hi)
   |false =>
    rw[h2] at hi;by_cases h3:orp n v b (gL tV C j)<0
    ·rw[decide_eq_true h3] at hi ⊢;exact take _ hw (by simpa using hi)
    ·rw[decide_eq_false h3] at hi ⊢;exact take b hb (by simpa using hi)
 ·obtain⟨hb,hi⟩:=hi;rw[List.drop_eq_nil_of_le hj] at hi;have hi:b=nxt C n v:=hi;refine⟨1,?_,rfl,(j:Int),by rw[hi]⟩
  show A8 Stp.next Stp.exit Stp.fail _ _=_;simp only[A8];rw[bfD (A7 (by omega))]
theorem Zd0{v:V3}(hv:inV v=true):X2 ⟨n.x,n.y,n.z,C.length,g,v.x,v.y,v.z⟩=⟨1,(nxt C n v).x,(nxt C n v).y,(nxt C n v).z⟩:=by
 obtain⟨j,h⟩:=Kd0 hn hg hC hl hv;unfold X2 O5;simp only[h];rfl
end
theorem Bc1(f:Nat->Int)(n:Nat):sig (List.range (n+1)) f=sig (List.range n) f+f n:=by
 rw[List.range_succ,pc5,n5,Ra0,Qks]
theorem Bc2{α:Type}{f:α->Int}{B:Nat}:∀{l:List α},(∀x∈l,Sm B (f x))->Sm ((l.length*B:Nat):Int) (sig l f)
 |[],_=>by rw[Ra0];exact⟨by simp,by simp⟩
 |x::l,h=>by
  obtain⟨h1,h2⟩:=h x (by simp)
  obtain⟨k1,k2⟩:=Bc2 (l:=l) λy hy=>h y (by simp[hy])
  rw[n5,List.length_cons,Nat.succ_mul]
  constructor<;>omega
section
variable{X C:List V3}{n:V3}{k:Int}(h:Rim X C n k){g:Nat->List b7}(hn:Sm3 4608 n)(hg:Yd9 C g)(hC:∀c∈C,inV c=true)(hl:C.length<=48)
include h hn hg hC hl
theorem Zd1 {a : V3} (ha : a ∈ C) {s0 : Int} (hs : Sm 100000000000000000 s0) :
  ∃s,lp (la9 ⟨n.x,n.y,n.z,C.length,g,((C.length-2:Nat):Int),a.x,a.y,a.z⟩) ⟨0,s0,(nxt C n a).x,(nxt C n a).y,(nxt C n a).z⟩=(1,s)/\s.e7=s0+AR C n a:=by
 rw[<- h.fan ha];have hterm:∀i,Sm 63700992 (D3 a (itr C n a (i+1)) (itr C n a (i+2))):=λi=>(Yd8 (hC a ha) (hC _ (h.it_mem ha _)) (hC _ (h.it_mem ha _))).2
 suffices key:∃t s,lp (la9 ⟨n.x,n.y,n.z,C.length,g,((C.length-2:Nat):Int),a.x,a.y,a.z⟩) ⟨0,s0,(nxt C n a).x,(nxt C n a).y,(nxt C n a).z⟩=(t,s)/\(t=1/\s.e7=s0+sig (List.range (C.length-2)) (λi=>D3 a (itr C n a (i+1)) (itr C n a (i+2)))) by
  obtain⟨t,s,h,rfl,h2⟩:=key;exact⟨s,h,h2⟩
 refine P6 (step:=la9 ⟨n.x,n.y,n.z,C.length,g,((C.length-2:Nat):Int),a.x,a.y,a.z⟩) (mk:=λj (q:Int×V3)=>(⟨(j:Int),q.1,q.2.x,q.2.y,q.2.z⟩:T6)) (C.length-2) (λj q=>j<=C.length-2/\q.1=s0+sig (List.range j) (λi=>D3 a (itr C n a (i+1)) (itr C n a (i+2)))/\q.2=itr C n a (j+1)) (λt s=>t=1/\s.e7=s0+sig (List.range (C.length-2)) (λi=>D3 a (itr C n a (i+1)) (itr C n a (i+2)))) (by omega)
  (λj q hj hi=>?_) (λj q hj hi=>?_) 0 (s0,nxt C n a) ⟨Qkaf _,by rw[List.range_zero,Ra0,Qks],rfl⟩
 ·obtain⟨s,v⟩:=q;obtain⟨hj',e1,e2⟩:=hi
  simp only at e1 e2
  subst e1 e2;have hN:=D2 hj (show C.length-2<=4611686018427387904 by omega)
  have hp:=Zd0 hn hg hC (by omega) (hC _ (h.it_mem ha (j+1)))
  obtain⟨hd,hdb⟩:=Yd8 (hC a ha) (hC _ (h.it_mem ha (j+1))) (hC _ (h.it_mem ha (j+2)));obtain⟨b1,b2⟩:=Bc2 (l:=List.range j) (B:=63700992) λi _=>hterm i
  rw[Qkaj] at b1 b2;have hsum:W (s0+sig (List.range j) (λi=>D3 a (itr C n a (i+1)) (itr C n a (i+2)))+D3 a (itr C n a (j+1)) (itr C n a (j+2)))=s0+sig (List.range (j+1)) (λi=>D3 a (itr C n a (i+1)) (itr C n a (i+2))):=by
   rw[Bc1];obtain⟨d1,d2⟩:=hdb;obtain⟨c1,c2⟩:=hs;rw[I6 (by omega) (by omega)]
   omega
  show Nx (R8 Stp.next Stp.exit Stp.fail _ _) _ _;simp only[R8,hp,hN];rw[btD (r7 hj)];rw[show (⟨a.x,a.y,a.z⟩:V3)=a from rfl,show (⟨(itr C n a (j+1)).x,(itr C n a (j+1)).y,(itr C n a (j+1)).z⟩:V3)=itr C n a (j+1) from rfl,
   show (⟨(nxt C n (itr C n a (j+1))).x,(nxt C n (itr C n a (j+1))).y,(nxt C n (itr C n a (j+1))).z⟩:V3)=itr C n a (j+2) from rfl,hd,hsum]
  exact .nx ⟨(s0+sig (List.range (j+1)) (λi=>D3 a (itr C n a (i+1)) (itr C n a (i+2))),itr C n a (j+2)),rfl,by omega,rfl,rfl⟩
 ·obtain⟨s,v⟩:=q;obtain⟨hj',e1,e2⟩:=hi
  simp only at e1 e2
  have e:j=C.length-2:=by omega
  subst e;refine⟨1,?_,rfl,e1⟩;show R8 Stp.next Stp.exit Stp.fail _ _=_;simp only[R8];rw[bfD (A7 (Qky _))]
theorem Le2{a:V3}(ha:a∈C){s0:Int}(hs:Sm 100000000000000000 s0):Qa9 ⟨a.x,a.y,a.z,(C.length:Int),n.x,n.y,n.z,C.length,g,s0⟩=⟨1,s0+AR C n a⟩:=by
 obtain⟨s,h1,h2⟩:=Zd1 h hn hg hC hl ha hs;have hp:=Zd0 hn hg hC (by omega) (hC _ ha)
 have hW:W ((C.length:Int)-2)=((C.length-2:Nat):Int):=by
  have:=h.two
  rw[I6 (by omega) (by omega)];omega
 unfold Qa9 ua1;simp only[hp,hW,h1,<- h2];rfl
end
theorem Le3{p:Pln}{v:V3}(hp:okp p=true)(hv:inV v=true):(O6 p v==0)=decide (dot p.n v=p.b):=by
 unfold O6;rw[hp,hv];simp only[Bool.and_self,if_true];by_cases h1:dot p.n v-p.b<0
 ·rw[if_pos h1,decide_eq_false (by omega)];rfl
 ·rw[if_neg h1];by_cases h2:dot p.n v-p.b>0
  ·rw[if_pos h2,decide_eq_false (by omega)];rfl
  ·rw[if_neg h2,decide_eq_true (by omega)];rfl
theorem Kd1 (P : O0) (p : Pln) (X : List V3) (h1 : P.za1 = X) (h2 : P.ud6 = (X.length : Int)) (h3 : P.q8 = p.n.x ∧ P.o7 = p.n.y ∧ P.o4 = p.n.z ∧ P.Ra2 = p.b) (hp : okp p = true) (hX : ∀ v ∈ X, inV v = true) (hl : X.length ≤ 1000000) :
  ∃j,lp (ma0 P) ⟨0,0,0,[]⟩=(phV (onF p X)+1,⟨phV (onF p X),j,(onF p X).length,bL tV (onF p X)⟩):=by
 suffices key:∃t s,lp (ma0 P) ⟨0,0,0,[]⟩=(t,s)/\(t=phV (onF p X)+1/\∃j,s=⟨phV (onF p X),j,(onF p X).length,bL tV (onF p X)⟩) by
  obtain⟨t,s,h,rfl,j,rfl⟩:=key;exact⟨j,h⟩
 refine P6 (step:=ma0 P) (mk:=λj (o:List V3)=>(⟨phV o,(j:Int),o.length,bL tV o⟩:p8)) X.length (λj o=>j<=X.length/\o=onF p (X.take j)) (λt s=>t=phV (onF p X)+1/\∃j,s=⟨phV (onF p X),j,(onF p X).length,bL tV (onF p X)⟩) (by omega)
  (λj o hj hi=>?_) (λj o hj hi=>?_) 0 [] ⟨Qkaf _,by simp[onF]⟩
 ·obtain⟨_,hi⟩:=hi;have hN:=D2 hj (show X.length<=4611686018427387904 by omega)
  have hv:=hX _ (db4 tV hj);have hlen:o.length<=1000000:=by
   rw[hi];have a1:=Qkt (λv=>decide (dot p.n v=p.b)) (X.take j)
   have a2:=List.length_take_le j X;unfold onF;omega
  have hT:onF p (X.take (j+1))=if dot p.n (gL tV X j)=p.b then o++[gL tV X j] else o:=by
   rw[mb4 tV hj,hi];unfold onF;rw[List.filter_append];by_cases hc:dot p.n (gL tV X j)=p.b
   ·rw[if_pos hc,List.filter_cons,if_pos (decide_eq_true hc)];rfl
   ·rw[if_neg hc,List.filter_cons,if_neg (by rw[decide_eq_true_eq];exact hc),List.filter_nil,Qkac]
  have hside:(K3 ⟨⟨P.q8,P.o7,P.o4⟩,P.Ra2⟩ (gL tV X j)==0)=decide (dot p.n (gL tV X j)=p.b):=by
   rw[h3.1,h3.2.1,h3.2.2.1,h3.2.2.2];show (K3 p (gL tV X j)==0)=_;rw[Ab3,Le3 hp hv]
  clear hi
  cases o with
  |nil =>
   show Nx (R9 Stp.next Stp.exit Stp.fail _ _) _ _;simp only[R9,Int.toNat_natCast,h1,h2,hside,mb7,hN,i9 hj];rw[btD (r7 hj)];by_cases hc:dot p.n (gL tV X j)=p.b
   ·rw[if_pos hc] at hT;rw[decide_eq_true hc];exact Nx.nx (s:=(⟨1,((j+1:Nat):Int),1,bL tV ([]++[gL tV X j])⟩:p8)) (N:=λs=>∃o',s=(⟨phV o',((j+1:Nat):Int),o'.length,bL tV o'⟩:p8)/\(j+1<=X.length/\o'=onF p (X.take (j+1)))) ⟨[]++[gL tV X j],rfl,by omega,hT.symm⟩
   ·rw[if_neg hc] at hT;rw[decide_eq_false hc];exact Nx.nx (s:=(⟨0,((j+1:Nat):Int),0,[]⟩:p8)) ⟨[],rfl,by omega,hT.symm⟩
  |cons q o =>
   have rr:(Nat.beq (q::o).length (len (bL tV (q::o)))&&Nat.ble (((q::o).length+1)*24) room)=true:=Td6 rfl (by omega)
   show Nx (S1 Stp.next Stp.exit Stp.fail _ _) _ _;simp only[S1,Int.toNat_natCast,h1,h2,hside,mb7,hN,i9 hj,rr,Se6];rw[btD (r7 hj)];by_cases hc:dot p.n (gL tV X j)=p.b
   ·rw[if_pos hc] at hT;rw[decide_eq_true hc];exact Nx.nx (s:=(⟨1,((j+1:Nat):Int),(q::o).length+1,bL tV ((q::o)++[gL tV X j])⟩:p8)) ⟨(q::o)++[gL tV X j],by rw[Tc9,List.length_append];rfl,by omega,hT.symm⟩
   ·rw[if_neg hc] at hT;rw[decide_eq_false hc];exact Nx.nx (s:=(⟨1,((j+1:Nat):Int),(q::o).length,bL tV (q::o)⟩:p8)) ⟨q::o,rfl,by omega,hT.symm⟩
 ·obtain⟨h4,hi⟩:=hi;have e:j=X.length:=by omega
  subst e;rw[Qkam] at hi;rw[<- hi];cases o with
  |nil =>
   refine⟨1,?_,rfl,_,rfl⟩;show R9 Stp.next Stp.exit Stp.fail _ _=_;simp only[R9,h2];rw[bfD (A7 (Qky _))]
  |cons q o =>
   refine⟨2,?_,rfl,_,rfl⟩;show S1 Stp.next Stp.exit Stp.fail _ _=_;simp only[S1,h2];rw[bfD (A7 (Qky _))]
theorem Ad5{l:List V3}(hl:l.all inV=true)(h4:Sol l):Pol (ja7 (F0 l) l):=by
 refine⟨Ad1 hl h4,oe1 hl h4,(dc0 l).filter _,λv hv=>?_⟩
 obtain⟨m,hm⟩:=(Ub1 hl h4 (ga2 hl h4 hv)).1 hv;exact⟨m,λw hw hne=>hm w (ga2 hl h4 hw) hne⟩
theorem Ad6{l:List V3}:(ja7 (F0 l) l).length<=l.length:=Qkan (Qkt _ _) (Uc8 l)
noncomputable def V6l(X:List V3):Int:=sig (F0 X) λp=>AR (onF p X) p.n (ptF p X)
theorem Pol.v6l{X:List V3}(hX:Pol X)(o:V3):V6 X o=V6l X:=hX.from' o
section
variable{X:List V3}(hX:Pol X)(h48:X.length<=48)
include hX h48
theorem Pol.ar_bd{p:Pln}(hp:Da7 X p):Sm 3057647616 (AR (onF p X) p.n (ptF p X)):=by
 have hR:=hX.rim hp;have hi:=List.all_eq_true.1 hX.iv;have hC:∀c∈onF p X,inV c=true:=λc hc=>hi c (j7.1 hc).1
 have hpt:=hX.pt hp;have hb:=Bc2 (l:=onF p X) (B:=63700992) (f:=λa=>dot (c7 a (nxt (onF p X) p.n a)) (ptF p X)) λa ha=>(Yd8 (hC a ha) (hC _ (hR.nx_mem ha)) (hC _ hpt)).2
 have hlen:(onF p X).length<=48:=Qkan (Qkt _ _) h48
 have:(onF p X).length*63700992<=48*63700992:=Nat.mul_le_mul_right _ hlen
 exact hb.mono (by omega)
theorem Zd2:∃s,lp (ma1 ⟨((F0 X).length:Int)⟩) ⟨X,F0 X,0,0⟩=(1,s)/\s.e7=V6l X:=by
 have hF:(F0 X).length<=1000000:=Tb5 h48 hX.iv;have hi:=List.all_eq_true.1 hX.iv
 suffices key:∃t s,lp (ma1 ⟨((F0 X).length:Int)⟩) ⟨X,F0 X,0,0⟩=(t,s)/\(t=1/\s.e7=V6l X) by
  obtain⟨t,s,h,rfl,h2⟩:=key;exact⟨s,h,h2⟩
 refine P6 (step:=ma1 ⟨((F0 X).length:Int)⟩) (mk:=λj (q:Int)=>(⟨X,F0 X,(j:Int),q⟩:K1)) (F0 X).length (λj q=>j<=(F0 X).length/\q=sig ((F0 X).take j) λp=>AR (onF p X) p.n (ptF p X)) (λt s=>t=1/\s.e7=V6l X) (by omega)
  (λj q hj hq=>?_) (λj q hj hq=>?_) 0 0 ⟨Qkaf _,by simp[sig]⟩
 ·obtain⟨hj',rfl⟩:=hq;have hN:=D2 hj (show (F0 X).length<=4611686018427387904 by omega)
  have hpm:gL tP (F0 X) j∈F0 X:=db4 tP hj;have hp:=hX.mem.1 hpm;have hR:=hX.rim hp;have hC:∀c∈onF (gL tP (F0 X) j) X,inV c=true:=λc hc=>hi c (j7.1 hc).1
  have hlen:=hX.lens hp;have hl48:(onF (gL tP (F0 X) j) X).length<=48:=Qkan (Qkt _ _) h48;have bp:=Jb9 hp.ok;have np:Sm3 4608 (gL tP (F0 X) j).n:=⟨⟨bp.x1,bp.x2⟩,⟨bp.y1,bp.y2⟩,bp.z1,bp.z2⟩;have hT:(F0 X).take (j+1)=(F0 X).take j++[gL tP (F0 X) j]:=mb4 tP hj;have hbs:=Bc2 (l:=(F0 X).take j) (B:=3057647616) (f:=λp=>AR (onF p X) p.n (ptF p X)) λp hp=>hX.ar_bd h48 (hX.mem.1 (List.mem_of_mem_take hp))
  have hlt:((F0 X).take j).length*3057647616<=1000000*3057647616:=Nat.mul_le_mul_right _ (by have:=List.length_take_le j (F0 X);omega)
  have hsm:Sm 100000000000000000 (sig ((F0 X).take j) λp=>AR (onF p X) p.n (ptF p X)):=hbs.mono (by omega)
  have hpt:ptF (gL tP (F0 X) j) X=gL tV (onF (gL tP (F0 X) j) X) 0:=by
   unfold ptF;cases onF (gL tP (F0 X) j) X<;>rfl
  have hg:Yd9 (onF (gL tP (F0 X) j) X) (λk=>i7 (bL tV (onF (gL tP (F0 X) j) X)) (0+k)):=λk hk=>by
   show i7 _ (0+k)=_;rw[Nat.zero_add,O4 tV hk]
  have h0:0<(onF (gL tP (F0 X) j) X).length:=by omega
  have hfan:=Le2 hR np hg hC hl48 (hX.pt hp) hsm;rw[hpt] at hfan;have r0:rdR tV (bL tV (onF (gL tP (F0 X) j) X)) 0=gL tV (onF (gL tP (F0 X) j) X) 0:=cc9 h0;have l0:ldR tV (bL tV (onF (gL tP (F0 X) j) X)) 0=true:=zc5 h0;have hi0:inB 0 (onF (gL tP (F0 X) j) X).length=true:=i9 h0;have hph:phV (onF (gL tP (F0 X) j) X)=1:=by
   cases hO:onF (gL tP (F0 X) j) X with
   |nil=>rw[hO] at h0;simp at h0
   |cons a l=>rfl
  have hgt:decide (((onF (gL tP (F0 X) j) X).length:Int)>2)=true:=decide_eq_true (by omega)
  have hnext:sig ((F0 X).take j) (λp=>AR (onF p X) p.n (ptF p X))+AR (onF (gL tP (F0 X) j) X) (gL tP (F0 X) j).n (gL tV (onF (gL tP (F0 X) j) X) 0)=sig ((F0 X).take (j+1)) λp=>AR (onF p X) p.n (ptF p X):=by
   rw[hT,pc5,n5,Ra0,Qks,hpt]
  show Nx (S3 Stp.next Stp.exit Stp.fail _ _) _ _;obtain⟨jj,hlp⟩:=Kd1 ⟨X,F0 X,((F0 X).length:Int),(j:Int),X,(X.length:Int),sig ((F0 X).take j) (λp=>AR (onF p X) p.n (ptF p X)),(gL tP (F0 X) j).n.x,(gL tP (F0 X) j).n.y,(gL tP (F0 X) j).n.z,(gL tP (F0 X) j).b,(gL tP (F0 X) j).n.x,(gL tP (F0 X) j).n.y,(gL tP (F0 X) j).n.z⟩ (gL tP (F0 X) j) X rfl rfl ⟨rfl,rfl,rfl,rfl⟩ hp.ok hi (by omega)
  rw[hph] at hlp;simp only[S3,Int.toNat_natCast,q9,m9,hlp,r0,l0,hi0,hgt,hfan,hnext,hN,i9 hj];rw[btD (r7 hj)];exact Nx.nx (s:=(⟨X,F0 X,((j+1:Nat):Int),sig ((F0 X).take (j+1)) λp=>AR (onF p X) p.n (ptF p X)⟩:K1)) (N:=λs=>∃q',s=(⟨X,F0 X,((j+1:Nat):Int),q'⟩:K1)/\(j+1<=(F0 X).length/\q'=sig ((F0 X).take (j+1)) λp=>AR (onF p X) p.n (ptF p X))) ⟨_,rfl,by omega,rfl⟩
 ·obtain⟨hj',rfl⟩:=hq;have e:j=(F0 X).length:=by omega
  subst e;refine⟨1,?_,rfl,by rw[Qkam];rfl⟩
  show S3 Stp.next Stp.exit Stp.fail _ _=_;simp only[S3];rw[bfD (A7 (Qky _))]
end
noncomputable def Y2(l:List V3):Int×Int:=if Z4 l=0 then (V6l (ja7 (F0 l) l),0) else (0,Z4 l)
theorem te3(l:List V3)(hl:l.length<=900000):Ea0 l=some (.tup [i (Y2 l).1,i (Y2 l).2],[]):=by
 have c1:∀z:List V3,wa3 z=ca3 z:=λ_=>rfl
 have c2:∀z:List V3,Oa0 z=lc7 z:=λ_=>rfl
 have g1:Oa1 l=true:=decide_eq_true hl;unfold Ea0 Y2;simp only[q9,oa7,m9,c1,c2,g1];by_cases h:Z4 l=0
 ·obtain⟨h48,hin,hs⟩:=J4 h;have hX:=Ad5 hin hs;have hXl:=Ad6 (l:=l);have e1:lc7 l=(ja7 (F0 l) l,0):=by unfold lc7;rw[if_pos h]
  have hc:Z4 (ja7 (F0 l) l)=0:=ib5 (by omega) hX.iv hX.sol
  have e2:ca3 (ja7 (F0 l) l)=(F0 (ja7 (F0 l) l),0):=by unfold ca3;rw[if_pos hc]
  have g2:wa4 (ja7 (F0 l) l)=true:=decide_eq_true (by omega)
  obtain⟨s,h1,h2⟩:=Zd2 hX (by omega)
  rw[if_pos h];simp only[e1,e2,g2,h1,h2];rfl
 ·have e1:lc7 l=([],Z4 l):=by unfold lc7;rw[if_neg h]
  have hne:(Z4 l != 0)=true:=bne_iff_ne.2 h;rw[if_neg h];simp only[e1,hne];rfl
theorem jd6(l:List V3)(hl:l.length<=900000):O1 l=Y2 l:=by unfold O1;rw[te3 l hl];rfl
theorem jd7(l:List V3)(hl:l.length<=900000):O2 l=true:=by unfold O2;rw[te3 l hl];rfl
noncomputable def S7(x:List Int):V3×List V3:=match r4 x with
 |[]=>(⟨0,0,0⟩,[])
 |a::l=>(a,l)
noncomputable def Gb1:Sum:=L9 (ya3 tI) λx=>.guard (Pa0 x) (.guard (Nat.ble 1 (List.length (r4 x))) (.ret (eL tV ((S7 x).1::(S7 x).2),[])))
theorem Zd3{α:Type}{c:Cod α}{k k':α->DT (b7×List c8)}(h:∀a r,(k a).run=some r->(k' a).run=some r){args:List b7}{blks:List c8}{r:b7×List c8}(hr:(L9 c k args blks).run=some r):(L9 c k' args blks).run=some r:=by
 unfold L9 at hr ⊢
 split at hr
 ·rename_i x;cases hd:c.dec x with
  |none=>rw[hd] at hr;cases hr
  |some a =>
   rw[hd] at hr;obtain⟨h1,h2⟩:=DT.run_guard_some (show (DT.guard (c.grd x) (k a)).run=some r from hr)
   show (DT.guard (c.grd x) (k' a)).run=some r;rw[h1];exact h a r h2
 ·cases hr
theorem Bc3:i5 prog G 33 Gb1:=λargs blks r out he=>Fc0 args blks r out (Zd3 (λx r hr=>by
 obtain⟨h1,hr⟩:=DT.run_guard_some hr;obtain⟨h2,hr⟩:=DT.run_guard_some hr;rw[h1];have e:(S7 x).1::(S7 x).2=r4 x:=by
  unfold S7;cases h:r4 x with
  |nil=>rw[h] at h2;cases h2
  |cons a l=>rfl
 rw[e] at hr;exact hr) he)
end Go.Ev.Ce
namespace Go.Ev
open Go Go.ChangeShapes Go.RowKit
structure Bc4(w w':World):Prop where
 os:w'.os=w.os
 output:w'.output=w.output
 size:w.heap.size<=w'.heap.size
 block:∀k,k<w.heap.size->w'.heap[k]?=w.heap[k]?
theorem Bc4.kept{w w':World}(h:Bc4 w w')(may:MemPlace->Prop):w.keptBut w' may:=by
 refine⟨h.os,h.output,λi hi=>?_⟩
 rw[h.block i hi];cases w.heap[i]? with
 |none=>rfl
 |some o=>cases o<;>first | exact⟨rfl,rfl,rfl,λ_ _=>rfl⟩ | exact .inr ⟨rfl,rfl⟩ | rfl
theorem Bc4.frozen{w w':World}(h:Bc4 w w')(b off:Nat)(hb:b<w.heap.size):w'.frozen? ⟨b,off,none⟩=w.frozen? ⟨b,off,none⟩:=by
 simp only[World.frozen?,h.block b hb]
theorem Bc4.cell{w w':World}(h:Bc4 w w')(b off:Nat)(hb:b<w.heap.size):w'.cell? ⟨b,off,none⟩=w.cell? ⟨b,off,none⟩:=by
 simp only[World.cell?,h.block b hb]
theorem Bc4.same{w w':World}(h:Bc4 w w')(p:MemPlace)(hp:p.block<w.heap.size):w.sameAt w' p:=by
 cases p with
 |cell b off=>exact h.cell b off hp
 |map b=>exact h.block b hp
theorem xb2{α β:Type}{f:α->Option β}:∀{l:List α} {r:List β},l.mapM f=some r->r.length=l.length/\∀(j:Nat) y,r[j]?=some y->∃x,l[j]?=some x/\f x=some y
 |[],r,h=>by
  have:r=[]:=by simpa using h.symm
  subst this;simp
 |x::l,r,h=>by
  rw[List.mapM_cons] at h;obtain⟨y,h1,h2⟩:=Qko.1 h;obtain⟨r',h3,h4⟩:=Qko.1 h2
  have:r=y::r':=by simpa using h4.symm
  subst this;obtain⟨g1,g2⟩:=xb2 h3;refine⟨by simp[g1],λj z hz=>?_⟩
  cases j with
  |zero=>simp at hz;subst hz;exact⟨x,rfl,h1⟩
  |succ j=>simpa using g2 j z (by simpa using hz)
section
variable{D:Type}{enc:TypeId×Value->D}{P:Program}
theorem Gb2 {T : TypeId → Prop} (K : Kids P T) (hsz : ∀ {t e : TypeId}, T t → P.underlying t = some (.slice e) → 0 < P.cellsOf e) {w w' : World} {sp : Nat → Bool} (hs : Bc4 w w') :
  ∀{ts:List TypeId} {vs:List Value} {ds:List (DataW D)} {ps:List MemPlace},(∀t∈ts,T t)->DataW.TrodAll enc P w 0 (λ_=>true) true ts vs ds ps->(∀p∈ps,p.block<w.heap.size)->(∀p∈ps,sp p.block=true)->DataW.TrodAll enc P w' 0 sp true ts vs ds ps
 |[],[],[],_,_,h,_,_=>h
 |t::ts,v::vs,d::ds,ps,ht,h,hlt,hsp=>by
  obtain⟨p,q,⟨fuel,h1⟩,h2,rfl⟩:=h;refine⟨p,q,⟨fuel,?_⟩,Gb2 K hsz hs (λt h=>ht t (by simp[h])) h2 (λx hx=>hlt x (by simp[hx])) (λx hx=>hsp x (by simp[hx])),rfl⟩
  exact DataW.trod_stays K hsz (λh=>by cases h) (ht t (by simp)) h1 (λx hx=>hs.same x (hlt x (by simp at hx ⊢;exact .inl hx))) (λx hx=>hsp x (by simp at hx ⊢;exact .inl hx))
 |[],_::_,_,_,_,h,_,_=>h.elim
 |[],[],_::_,_,_,h,_,_=>h.elim
 |_::_,[],_,_,_,h,_,_=>h.elim
 |_::_,_::_,[],_,_,h,_,_=>h.elim
theorem Zd4 {T : TypeId → Prop} (K : Kids P T) (hsz : ∀ {t e : TypeId}, T t → P.underlying t = some (.slice e) → 0 < P.cellsOf e) {f : Func} {s : ChangeSpec} {apart fresh handsOn again : Bool} {W W' : World} {args : Array Value} {ds gs : List (DataW D)} {before : List MemPlace} {tb : TypeId}
  (hT:∀t∈f.params.toList,T t) (hW:DataW.Whole enc P f.params.toList s.vars apart W args.toList ds gs before) (hv:s.vars=[]) (hr:f.resultTypes=#[tb]) (hb:P.underlying tb=some .bool)
  (h1:(s.fn D ds).results=[.lit (.bool true)]) (h2:(s.fn D ds).args=ds) (h3:(s.fn D ds).vars=[]) (hs:Bc4 W W') :
  s.post enc P f apart fresh handsOn again W args (.bool true) W':=by
 have hlt:=hW.lt;obtain⟨pa,pv,hA,hV,hps,hz,hn⟩:=id hW;rw[hv] at hV;have hpv:gs=[]/\pv=[]:=by
  cases gs with
  |nil=>exact⟨rfl,hV⟩
  |cons=>exact hV.elim
 obtain⟨rfl,rfl⟩:=hpv;rw[<- Qkac ds] at h1 h3;have h2:(s.fn D (ds++[])).args=ds:=by rw[Qkac];exact h2
 have hpa:before=pa:=by rw[hps];simp
 subst hpa;have hagain:∀sp:Nat->Bool,(∀p∈before,sp p.block=true)->DataW.TrodAll enc P W' 0 sp true f.params.toList args.toList ds before:=λsp h=>Gb2 K hsz hs hT hA hlt h
 have hres:∀(b:Nat) (sp:Nat->Bool) (hd:Bool),DataW.TrodAll enc P W' b sp hd f.resultTypes.toList ((Value.bool true).resultList f.resultTypes.size) [.lit (.bool true)] []:=λb sp hd=>by
  rw[hr];exact⟨[],[],⟨1,by simp[DataW.trod,hb,Value.cells,Value.resultList]⟩,rfl,rfl⟩
 have hvars:∀sp:Nat->Bool,DataW.TrodVars enc P W' sp s.vars ([]:List (DataW D)) []:=λsp=>by rw[hv];exact rfl
 have hok:∀(j:Nat) (t:TypeId) (r:Value),f.resultTypes[j]?=some t->((Value.bool true).resultList f.resultTypes.size)[j]?=some r->Value.okWide P W' .any 0 t r:=by
  rw[hr];intro j t r h4 h5;cases j with
  |zero =>
   simp at h4
   subst h4
   have:r=.bool true:=by simpa [Value.resultList] using h5.symm
   subst this;exact okWide_bool_mk hb _
  |succ j=>simp at h4
 have hag:DataW.TrodAll enc P W' 0 (λ_=>true) true (f.resultTypes.toList++f.params.toList) ((Value.bool true).resultList f.resultTypes.size++args.toList) (.lit (.bool true)::ds) before:=by
  have:=hagain (λ_=>true) (λ_ _=>rfl)
  rw[hr];exact⟨[],before,⟨1,by simp[DataW.trod,hb,Value.cells,Value.resultList]⟩,this,rfl⟩
 refine⟨ds,[],before,[],before,[],hW,?_,?_,?_,hs.kept _,λ_=>?_⟩
 ·rw[h1];exact hres _ _ _
 ·rw[h2];exact hagain _ λp hp=>by simpa using hlt p hp
 ·rw[h3];exact hvars _
 ·refine⟨hok,.lit (.bool true)::ds,[],before,⟨before,[],hag,hvars _,by simp,?_,?_⟩,?_⟩
  ·intro b off hp;rw[hs.frozen b off (hlt _ hp)];exact hz b off (by simpa using hp)
  ·intro ha;simpa using hn ha
  ·intro p hp _;exact hp
variable{w:World}{base:Nat}{spare:Nat->Bool}{held:Bool}
def Wc5(w:World):Fz:=λb o=>(w.cell? ⟨b,o,none⟩).isSome
theorem De1 {fuel : Nat} {t : TypeId} {k : IntKind} {cs : List Value} {x : DataW D × List MemPlace} (ht : P.underlying t = some (.int k)) (h : DataW.trod enc P w base spare held fuel t cs = some x) :
  ∃n,cs=[.int k n]/\(Lit.int k n).wf=true/\x.1=.lit (.int k n):=by
 cases fuel with
 |zero=>cases h
 |succ fuel =>
  match cs,h with
  |[],h=>simp[DataW.trod,ht] at h
  |[v],h =>
   cases v with
   |int k' n =>
    simp only[DataW.trod,ht] at h
    split at h
    ·rename_i hk;obtain⟨rfl,hw⟩:=hk;injection h with h;subst h
     exact⟨n,rfl,hw,rfl⟩
    ·cases h
   |_=>simp[DataW.trod,ht] at h
  |a::b::r,h=>simp[DataW.trod,ht] at h
theorem oe6 {fuel : Nat} {t : TypeId} {cs : List Value} {x : DataW D × List MemPlace} (ht : P.underlying t = some .bool) (h : DataW.trod enc P w base spare held fuel t cs = some x) :
  ∃n,cs=[.bool n]/\x.1=.lit (.bool n):=by
 cases fuel with
 |zero=>cases h
 |succ fuel =>
  match cs,h with
  |[],h=>simp[DataW.trod,ht] at h
  |[v],h =>
   cases v with
   |bool n =>
    simp only[DataW.trod,ht] at h;injection h with h;subst h
    exact⟨n,rfl,rfl⟩
   |_=>simp[DataW.trod,ht] at h
  |a::b::r,h=>simp[DataW.trod,ht] at h
theorem Zd5 {fuel : Nat} {t e : TypeId} {n : Nat} {cs : List Value} {x : DataW D × List MemPlace} (ht : P.underlying t = some (.array n e)) (h : DataW.trod enc P w base spare held fuel t cs = some x) :
  cs.length=P.cellsOf t/\∃(fuel':Nat) (xs:List (DataW D×List MemPlace)),xs.length=n/\x.1=.agg (xs.map (·.1))/\∀(j:Nat) y,xs[j]?=some y->DataW.trod enc P w base spare held fuel' e ((cs.drop (j*P.cellsOf e)).take (P.cellsOf e))=some y:=by
 cases fuel with
 |zero=>cases h
 |succ fuel =>
  unfold DataW.trod at h;rw[ht] at h
  simp only at h
  split at h
  ·rename_i hl;obtain⟨xs,h1,h2⟩:=Qkaq.1 h;have hx:=xb2 h1;exact⟨hl,fuel,xs,by simpa using hx.1,by rw[<- h2],λj y hy=>by
    obtain⟨a,ha,hb⟩:=hx.2 j y hy
    have:j<n:=by
     have:=(List.getElem?_eq_some_iff.1 hy).1
     rw[hx.1] at this;simpa using this
    rw[Qkad this] at ha;injection ha with ha;subst ha;exact hb⟩
  ·cases h
theorem Kd2 {fuel : Nat} {t : TypeId} {fs : Array Field} {cs : List Value} {x : DataW D × List MemPlace} (ht : P.underlying t = some (.struct fs)) (h : DataW.trod enc P w base spare held fuel t cs = some x) :
  cs.length=P.cellsOf t/\∃(fuel':Nat) (xs:List (DataW D×List MemPlace)),xs.length=fs.size/\x.1=.agg (xs.map (·.1))/\∀(j:Nat) f,fs[j]?=some f->∃y,xs[j]?=some y/\DataW.trod enc P w base spare held fuel' f.type ((cs.drop f.offset).take (P.cellsOf f.type))=some y:=by
 cases fuel with
 |zero=>cases h
 |succ fuel =>
  unfold DataW.trod at h;rw[ht] at h
  simp only at h
  split at h
  ·rename_i hl;obtain⟨xs,h1,h2⟩:=Qkaq.1 h;have hx:=xb2 h1;refine⟨hl,fuel,xs,by simpa using hx.1,by rw[<- h2],λj f hf=>?_⟩
   have hj:j<xs.length:=by
    rw[hx.1];simpa using (Array.getElem?_eq_some_iff.1 hf).1
   obtain⟨a,ha,hb⟩:=hx.2 j _ (Qkm hj)
   have:a=f:=by
    have:fs.toList[j]?=some f:=by simpa using hf
    exact Option.some.inj (ha.symm.trans this)
   subst this;exact⟨_,Qkm hj,hb⟩
  ·cases h
theorem Zd6 {fuel : Nat} {t e : TypeId} {cs : List Value} {x : DataW D × List MemPlace} (ht : P.underlying t = some (.slice e)) (h : DataW.trod enc P w base spare held fuel t cs = some x) :
  cs=[.slice none 0 0]\/∃(a:Addr) (n cap fuel':Nat),cs=[.slice (some a) n cap]/\n<=cap/\cap<=maxLen/\∀j,j<n->∃row y,w.cells? base (a.add (j*P.cellsOf e)) (P.cellsOf e)=some row/\DataW.trod enc P w base spare held fuel' e row=some y:=by
 cases fuel with
 |zero=>cases h
 |succ fuel =>
  match cs,h with
  |[],h=>simp[DataW.trod,ht] at h
  |[v],h =>
   cases v with
   |slice a len cap =>
    cases a with
    |none =>
     simp only[DataW.trod,ht] at h
     split at h<;>first | (rename_i e1;cases e1;done) | skip
     all_goals first | exact .inl rfl | (simp_all;done) | skip
    |some a =>
     refine .inr ?_;simp only[DataW.trod,ht] at h
     split at h
     ·rename_i hc;obtain⟨elems,h1,h2⟩:=Qko.1 h;have hx:=xb2 h1;refine⟨a,len,cap,fuel,rfl,hc.2.1,hc.2.2,λj hj=>?_⟩
      have hj':j<elems.length:=by rw[hx.1];simpa using hj
      obtain⟨i,hi,hb⟩:=hx.2 j _ (Qkm hj');rw[Qkad hj] at hi;injection hi with hi;subst hi;obtain⟨row,r1,r2⟩:=Qko.1 hb;exact⟨row,_,r1,r2⟩
     ·cases h
   |_=>simp[DataW.trod,ht] at h
  |a::b::r,h=>simp[DataW.trod,ht] at h
theorem Ad7:∀(d:Nat) (t:TypeId) (l:List (Nat×CK)),S9 P d t=some l->∀(fuel:Nat) (cs:List Value) (x:DataW D×List MemPlace),DataW.trod enc P w base spare held fuel t cs=some x->∀p∈l,sa6 cs.toArray p
 |0,_,_,h,_,_,_,_=>by cases h
 |d+1,t,l,h,fuel,cs,x,hx=>by
  have hpart:∀{off n:Nat} {e:TypeId} {l':List (Nat×CK)} {fuel':Nat} {y:DataW D×List MemPlace},rb5 off n (S9 P d e)=some l'->DataW.trod enc P w base spare held fuel' e ((cs.drop off).take n)=some y->∀p∈l',sa6 cs.toArray p:=λ{off n e l' fuel' y} h1 h2 p hp=>by
   obtain⟨l2,g1,g2,rfl⟩:=za3 h1;obtain⟨q,hq,rfl⟩:=Qkb.1 hp
   have:=Ad7 d e l2 g1 fuel' _ y h2 q hq
   have hlt:=g2 q hq;unfold sa6 at this ⊢;simp only[List.getElem?_toArray,List.getElem?_take,hlt,if_true,List.getElem?_drop] at this ⊢;exact this
  have hcat:∀{α:Type} (f:α->Option (List (Nat×CK))) (xs:List α) (l:List (Nat×CK)),ea7 (xs.map f)=some l->∀p∈l,∃a∈xs,∃l',f a=some l'/\p∈l':=λ{α} f xs=>by
   induction xs with
   |nil=>intro l h;simp only[List.map_nil,ea7] at h;injection h with h;subst h;simp
   |cons a xs ih =>
    intro l h p hp;simp only[List.map_cons,ea7] at h;cases h1:f a with
    |none=>simp[h1] at h
    |some l1 =>
    cases h2:ea7 (xs.map f) with
    |none=>simp[h1,h2] at h
    |some l2 =>
    simp only[h1,h2] at h;injection h with h;subst h
    rcases Qkn.1 hp with hp|hp
    ·exact⟨a,by simp,l1,h1,hp⟩
    ·obtain⟨b,hb,r⟩:=ih l2 h2 p hp;exact⟨b,by simp[hb],r⟩
  unfold S9 at h;cases hu:P.underlying t with
  |none=>simp[hu] at h
  |some u =>
  cases u with
  |int k =>
   simp only[hu] at h;injection h with h;subst h
   obtain⟨n,rfl,_,_⟩:=De1 hu hx;intro p hp;simp at hp;subst hp;exact⟨n,rfl⟩
  |bool =>
   simp only[hu] at h;injection h with h;subst h
   obtain⟨n,rfl,_⟩:=oe6 hu hx;intro p hp;simp at hp;subst hp;exact⟨n,rfl⟩
  |struct fs =>
   simp only[hu] at h
   split at h
   ·cases h
   obtain⟨_,fuel',xs,_,_,hxs⟩:=Kd2 hu hx;intro p hp;obtain⟨f,hf,l',h1,h2⟩:=hcat _ _ _ h p hp
   split at h1
   ·cases h1
   obtain⟨j,hj⟩:=List.getElem?_of_mem hf;obtain⟨y,_,hy⟩:=hxs j f (by simpa using hj)
   have hc:P.cellsOf f.type=szT P f.type:=by
    unfold Program.cellsOf szT;cases P.info? f.type<;>rfl
   rw[hc] at hy;exact hpart h1 hy p h2
  |array n e =>
   simp only[hu] at h
   split at h
   case isFalse=>cases h
   obtain⟨_,fuel',xs,hn,_,hxs⟩:=Zd5 hu hx;intro p hp;obtain⟨j,hj,l',h1,h2⟩:=hcat _ _ _ h p hp;have hj':j<xs.length:=by rw[hn];simpa using hj
   have hy:=hxs j _ (Qkm hj');have hc:P.cellsOf e=szT P e:=by
    unfold Program.cellsOf szT;cases P.info? e<;>rfl
   rw[hc] at hy;exact hpart h1 hy p h2
  |_=>simp[hu] at h
def fa5(k:IntKind)(es:Nat)(g:Nat->Int):List b7:=(List.range es).map λc=>.v (.int k (g c))
def ya4(k:IntKind)(es:Nat):List (Nat×CK):=(List.range es).map λc=>(c,.int k)
theorem Ad8 {d : Nat} {t : TypeId} {k : IntKind} {es : Nat} (hf : S9 P d t = some (ya4 k es)) {fuel : Nat} {cs : List Value} {x : DataW D × List MemPlace} (hx : DataW.trod enc P w base spare held fuel t cs = some x) (hl : cs.length = es) :
  ∃g:Nat->Int,∀c,c<es->cs[c]?=some (.int k (g c)):=by
 have h:=Ad7 d t _ hf fuel cs x hx;have h':∀c,∃n:Int,c<es->cs[c]?=some (.int k n):=λc=>by
  by_cases hc:c<es
  ·have:=h (c,.int k) (Qkb.2 ⟨c,by simpa using hc,rfl⟩)
   obtain⟨n,hn⟩:=this;exact⟨n,λ_=>by simpa using hn⟩
  ·exact⟨0,λh=>absurd h hc⟩
 exact⟨λc=>Classical.choose (h' c),λc hc=>Qkz (h' c) hc⟩
theorem Zd7{F:Fz}{w:World}(k:IntKind)(n:Int):V8 F w (.v (.int k n)) (.int k n):=.v _ rfl
theorem Bc5{k:IntKind}{es:Nat}{g:Nat->Int}{c:Nat}{x:b7}(h:(fa5 k es g)[c]?=some x):c<es/\x=.v (.int k (g c)):=by
 unfold fa5 at h;obtain⟨h1,h2⟩:=Ba4 h;exact⟨h1,h2.symm⟩
theorem Gc9 {t e : TypeId} {k : IntKind} {es d : Nat} (ht : P.underlying t = some (.slice e)) (hf : S9 P d e = some (ya4 k es)) (hes : P.cellsOf e = es) (h0 : 0 < es) {fuel : Nat} {cs : List Value} {x : DataW D × List MemPlace} (hx : DataW.trod enc P w 0 spare held fuel t cs = some x) :
  ∃(v:Value) (n:Nat) (g:Nat->Nat->Int),cs=[v]/\n<=maxLen/\V8 (Wc5 w) w (.tree es n λj=>fa5 k es (g j)) v:=by
 rcases Zd6 ht hx with rfl|⟨a,n,cap,fuel',rfl,hn,hc,hel⟩
 ·exact⟨_,0,λ_ _=>0,rfl,Qkaf _,.nil _ _⟩
 ·rw[hes] at hel;have hcell:∀j,j<n->∃g:Nat->Int,∀c,c<es->w.cell? ((a.add (j*es)).add c)=some (.int k (g c)):=λj hj=>by
   obtain⟨row,y,h1,h2⟩:=hel j hj;unfold World.cells? at h1
   split at h1
   ·obtain⟨l1,l2⟩:=xb2 h1;have hl:row.length=es:=by simpa using l1
    obtain⟨g,hg⟩:=Ad8 hf h2 hl;refine⟨g,λc hc=>?_⟩
    obtain⟨i,hi,hi2⟩:=l2 c _ (hg c hc);rw[Qkad hc] at hi;injection hi with hi;subst hi;exact hi2
   ·cases h1
  have hg:∀j,∃g:Nat->Int,j<n->∀c,c<es->w.cell? ((a.add (j*es)).add c)=some (.int k (g c)):=λj=>by
   by_cases hj:j<n
   ·obtain⟨g,hg⟩:=hcell j hj;exact⟨g,λ_=>hg⟩
   ·exact⟨λ_=>0,λh=>absurd h hj⟩
  obtain⟨g,hg⟩:=Qkap hg;have hspot:0<n->a.spot=none:=λhn=>by
   have:=hg 0 hn 0 h0
   simpa [Addr.add] using World.cell?_spot this
  have hw:∀j c,j<n->c<es->w.cell? ⟨a.block,a.off+(j*es+c),none⟩=some (.int k (g j c)):=λj c hj hc=>by
   have:=hg j hj c hc
   rw[T0 (hspot (by omega)),T0 rfl] at this
   simpa [Nat.add_assoc] using this
  refine⟨_,n,g,rfl,Qkan hn hc,.tree es n _ a cap (λj c=>.int k (g j c)) hspot hn (λi hi=>by simp[fa5]) (λi c hi hc=>?_) hw λi c hi hc=>?_⟩
  ·unfold Wc5;rw[hw i c hi hc];rfl
  ·have:=(Bc5 (Qkm hc)).2
   rw[this];exact Zd7 _ _
theorem Kd3(w:World):v8 (λk=>w.heap.size<=k) (λ_=>⟨0,0,0⟩) [] (Wc5 w) w :=
 ⟨λid b h=>by simp at h,λid id' b b' h=>by simp at h,λ_ _ h=>h,λ_ h=>h⟩
theorem Kd4 {G : Nat → List Value} {f : FuncId} {S : Sum} (hS : i5 P G f S) {aargs : List b7} {args : List Value} (hrun : ∃ out, (S aargs []).run = some (b true, out)) (hl : aargs.length = args.length)
  (ha:∀(i:Nat) x x',aargs[i]?=some x->args[i]?=some x'->W8 (λ_=>⟨0,0,0⟩) [] (Wc5 w) w x x') (hG:∀g (c:Nat) x,(G g)[c]?=some x->x.oneCell'=true/\w.cell? ⟨g,c,none⟩=some x) :
  Calls P f args.toArray w λe w'=>e=.returned (.bool true)/\Bc4 w w':=by
 obtain⟨out,hrun⟩:=hrun;obtain⟨_,hc⟩:=hS aargs [] (b true) out hrun (λk=>w.heap.size<=k) (λ_=>⟨0,0,0⟩) (Wc5 w) w args (Kd3 w) hl (λi x x' h1 h2=>.val (ha i x x' h1 h2)) (λg c x hx=>by
  obtain⟨h1,h2⟩:=hG g c x hx;exact⟨h1,by unfold Wc5;rw[h2];rfl,h2⟩)
 refine hc.mono λe w' ⟨r',he,ρ',F',hA,hH,hW⟩=>?_
 have:=Y3 hW
 subst this;exact⟨he,hA.ext.os,hA.ext.output,hA.ext.size,λk hk=>hA.ext.block k hk (by omega)⟩
theorem Ad9 {ρ : Rho} {H : List c8} {F : Fz} {t : TypeId} {k : IntKind} {es d : Nat} {v : Value} {dd : DataW D} {pp : List MemPlace} {bs : Nat} {r : Reach} (hag : agT P t = true) (hf : S9 P d t = some (ya4 k es)) (hes : P.cellsOf t = es)
  (hok:Value.okWide P w r bs t v) (h:DataW.Trod enc P w base spare held t v dd pp):∃g:Nat->Int,W8 ρ H F w (.agg (fa5 k es g)) v:=by
 have hv:∃cs:Array Value,v=.agg cs/\cs.size=P.cellsOf t:=by
  unfold agT at hag;unfold Value.okWide at hok
  split at hag
  ·rename_i fs hu;rw[hu] at hok;obtain⟨cs,h1,h2,_⟩:=hok;exact⟨cs,h1,h2⟩
  ·rename_i n e hu;rw[hu] at hok;obtain⟨cs,h1,h2,_⟩:=hok;exact⟨cs,h1,h2⟩
  ·cases hag
 obtain⟨cs,rfl,hsz⟩:=hv;obtain⟨fuel,hx⟩:=h;have hx:DataW.trod enc P w base spare held fuel t cs.toList=some (dd,pp):=hx;obtain⟨g,hg⟩:=Ad8 hf hx (by simpa [hes] using hsz)
 refine⟨g,.agg _ _ (by simp[fa5,hsz,hes]) λc x x' h1 h2=>?_⟩
 obtain⟨hc,rfl⟩:=Bc5 h1
 have:=hg c hc
 have h3:some x'=some (.int k (g c)):=by rw[<- h2];simpa using this
 injection h3 with h3;subst h3;exact .v _
theorem Kd5 {ρ : Rho} {H : List c8} {t e : TypeId} {k : IntKind} {es d : Nat} {v : Value} {dd : DataW D} {pp : List MemPlace} {bs : Nat} {r : Reach} (ht : P.underlying t = some (.slice e)) (hf : S9 P d e = some (ya4 k es)) (hes : P.cellsOf e = es) (h0 : 0 < es)
  (hok:Value.okWide P w r bs t v) (h:DataW.Trod enc P w 0 spare held t v dd pp):∃(n:Nat) (g:Nat->Nat->Int),n<=maxLen/\W8 ρ H (Wc5 w) w (.tree es n λj=>fa5 k es (g j)) v:=by
 obtain⟨fuel,hx⟩:=h;obtain⟨v',n,g,h1,h2,h3⟩:=Gc9 ht hf hes h0 hx;have hv:v.cells=#[v]:=by
  unfold Value.okWide at hok;rw[ht] at hok;cases v with
  |agg cs=>exfalso;simp[Cell.okWide,Cell.ok,ht] at hok
  |_=>rfl
 rw[hv] at h1
 have:v=v':=by simpa using h1
 subst this;exact⟨n,g,h2,.cell (.mem h3)⟩
end
end Go.Ev
namespace Go.Ev.L
open Go Go.Ev
theorem Zd8 {α : Type} (t : Ty α) (n : Nat) (g : Nat → Nat → Int) (f : (Nat → Int) → α) (h : ∀ j, fa5 .i64 t.es (g j) = t.row (f (g j))) :
  ∃l,(ya3 t).dec (.tree t.es n λj=>fa5 .i64 t.es (g j))=some l/\(ya3 t).grd (.tree t.es n λj=>fa5 .i64 t.es (g j))=true:=by
 refine⟨lsL t n λj=>fa5 .i64 t.es (g j),?_,cb0 t (f:=λk=>f (g k)) λk _=>h k⟩
 show Bool.rec (motive:=λ_=>Option (List α)) none (some (lsL t n λj=>fa5 .i64 t.es (g j))) (Nat.beq t.es t.es)=_
 rw[Nat.beq_refl]
def Rdg{α:Type}(c:Cod α)(x:b7)(a:α):Prop:=c.dec x=some a/\c.grd x=true
theorem Zd9{α:Type}(t:Ty α)(n:Nat)(g:Nat->Nat->Int)(f:(Nat->Int)->α)(h:∀j,fa5 .i64 t.es (g j)=t.row (f (g j))):∃l,Rdg (ya3 t) (.tree t.es n λj=>fa5 .i64 t.es (g j)) l:=Zd8 t n g f h
theorem ae0(n:Nat)(g:Nat->Nat->Int):∃l,Rdg (ya3 tI) (.tree 1 n λj=>fa5 .i64 1 (g j)) l:=Zd9 tI n g (λg=>g 0) λ_=>rfl
theorem oe7{α:Type}(t:Ty α){cs:List b7}(h:t.ok cs=true):∃a,Rdg (W9 t) (.agg cs) a:=⟨t.rd cs,by
 show Bool.rec (motive:=λ_=>Option α) none (some (t.rd cs)) (t.ok cs)=_
 rw[h],rfl⟩
section
variable{α β γ δ ε:Type}{c:Cod α}{d:Cod β}{e:Cod γ}{f:Cod δ}{c5:Cod ε}{x y z w v:b7}{a:α}{b':β}{g:γ}{j:δ}{m:ε}{r:b7×List c8}
theorem Se7{k:α->β->γ->DT (b7×List c8)}(h1:Rdg c x a)(h2:Rdg d y b')(h3:Rdg e z g)(h:(k a b' g).run=some r):(Ob2 c d e k [x,y,z] []).run=some r:=by
 unfold Ob2;simp only[h1.1,h1.2,h2.1,h2.2,h3.1,h3.2];exact h
end
theorem De2{g p:Bool}(hg:g=true)(hp:p=true):(DT.guard g (.ret ((one r1B).enc p,([]:List c8)))).run=some (b true,([]:List c8)):=by subst hg;subst hp;rfl
end Go.Ev.L
namespace Go.Ev.Ce
open Go Go.Ev Go.Ev.L Go.Proofs
structure B3 where
 b0:Int
 b1:Int
 b2:Int
def okB:List b7->Bool
 |[.v (.int .u8 _),.v (.int .u8 _),.v (.int .u8 _)]=>true
 |_=>false
def rdB:List b7->B3
 |[.v (.int .u8 x),.v (.int .u8 y),.v (.int .u8 z)]=>⟨x,y,z⟩
 |_=>⟨0,0,0⟩
noncomputable def tW:Ty B3 where
 es:=3
 row x:=[.v (.int .u8 x.b0),.v (.int .u8 x.b1),.v (.int .u8 x.b2)]
 rd:=rdB
 ok:=okB
 cks:=List.replicate 3 (.int .u8)
 d:=⟨0,0,0⟩
 h0 _:=rfl
 h1 _:=rfl
 h2 _:=rfl
 h3 r h:=by
  unfold okB at h
  split at h
  ·exact .refl _
  ·cases h
 h4 _:=rfl
 h5 _:=rfl
structure B2 where
 d0:Int
 d1:Int
structure LL where
 u:List Int
 v:List Int
set_option maxRecDepth 100000
noncomputable def Hc0:List (Nat×Sum):=[]
theorem Bc6:k9 prog G Hc0:=trivial
noncomputable def ua2(x:V3)(y:V3):Option (b7×List c8):=(sl (decide (y.x<=x.x)) (some (i 0,[])) (sl (decide (y.y<=x.y)) (some (i 0,[])) (sl (decide (y.z<=x.z)) (some (i 0,[])) (some (i (W ((W ((W (y.x-x.x))*(W (y.y-x.y))))*(W (y.z-x.z)))),[])))))
noncomputable def z7(x:V3)(y:V3):Int:=W0 (one r1I) (ua2 x y)
noncomputable def K8(x:V3)(y:V3):Bool:=okO (one r1I) (ua2 x y)
noncomputable def Ra1:Sum:=Ga1 (W9 tV) (W9 tV) (λx y=>.guard (K8 x y) (.ret ((one r1I).enc (z7 x y),[])))
theorem eb5:i5 prog G 15 Ra1:=Wb5 (bd b15 Bc6) (one r1I) (o:=ua2) λx y=>C8 (by kernel_rfl)
noncomputable def Bc7:List (Nat×Sum):=[(11,Ea1),(25,Kb3),(15,Ra1)]
theorem mc8:k9 prog G Bc7:=⟨Ka1,gc6,eb5,trivial⟩
noncomputable def wa5(x:List V3)(y:V3)(z:V3):Option (b7×List c8):=let t1:=(O1 (rt tV x));let t2:=(Ha6 (rt tV x));let t3:=(z7 (⟨(if t2.1.x>y.x then t2.1.x else y.x),(if t2.1.y>y.y then t2.1.y else y.y),(if t2.1.z>y.z then t2.1.z else y.z)⟩:V3) (⟨(if t2.2.1.x<z.x then t2.2.1.x else z.x),(if t2.2.1.y<z.y then t2.2.1.y else z.y),(if t2.2.1.z<z.z then t2.2.1.z else z.z)⟩:V3));(sl (okE tV x) (sl (O2 (rt tV x)) (sl (t1.2 != 0) (some (.tup [i 0,i t1.2],[])) (sl (okE tV x) (sl (Ha7 (rt tV x)) (sl (K8 (⟨(if t2.1.x>y.x then t2.1.x else y.x),(if t2.1.y>y.y then t2.1.y else y.y),(if t2.1.z>y.z then t2.1.z else y.z)⟩:V3) (⟨(if t2.2.1.x<z.x then t2.2.1.x else z.x),(if t2.2.1.y<z.y then t2.2.1.y else z.y),(if t2.2.1.z<z.z then t2.2.1.z else z.z)⟩:V3)) (some ((.tup [(i (if (W (6*t3))<t1.1 then (W (6*t3)) else t1.1)),i 0]),[])) none) none) none)) none) none)
noncomputable def ma9(x:List V3)(y:V3)(z:V3):Int×Int:=W0 (two r1I r1I) (wa5 x y z)
noncomputable def na0(x:List V3)(y:V3)(z:V3):Bool:=okO (two r1I r1I) (wa5 x y z)
noncomputable def eb6:Sum:=Ob2 (ya3 tV) (W9 tV) (W9 tV) (λx y z=>.guard (na0 x y z) (.ret ((two r1I r1I).enc (ma9 x y z),[])))
theorem xb3:i5 prog G 13 eb6:=ge3 (bd b13 mc8) (two r1I r1I) (o:=wa5) λx y z=>C8 (by kernel_rfl)
noncomputable def Wc6:List (Nat×Sum):=[]
theorem Hc1:k9 prog G Wc6:=trivial
noncomputable def o3(x:Int)(y:Int)(z:Int):V3:=(⟨x,y,z⟩:V3)
noncomputable def ab9:Sum:=Ob2 cI cI cI (λx y z=>.ret ((one r1V).enc (o3 x y z),[]))
theorem nb5:i5 prog G 17 ab9:=vd7 (bd b17 Hc1) λx y z=>C8 (by kernel_rfl)
noncomputable def Bc8:List (Nat×Sum):=[(17,ab9)]
theorem mc9:k9 prog G Bc8:=⟨nb5,trivial⟩
noncomputable def na1(x:V3):V3:=let t1:=(o3 (Int.tmod x.x 12) (Int.tmod x.y 12) (Int.tmod x.z 12));t1
noncomputable def Gb3:Sum:=L9 (W9 tV) (λx=>.ret ((one r1V).enc (na1 x),[]))
theorem Bc9:i5 prog G 10 Gb3:=kb6 (bd b10 mc9) λx=>C8 (by kernel_rfl)
noncomputable def nc0:List (Nat×Sum):=[(33,Gb1)]
theorem dc7:k9 prog G nc0:=⟨Bc3,trivial⟩
noncomputable def ra7(x:List Int):Option (b7×List c8):=let t1:=(S7 (lsL tI ((if 40<(↑(List.length x):Int) then 40 else (↑(List.length x):Int)).toNat-0) (λk=>(λk=>(tI).row (gL tI x k)) (0+k))));(sl (inB (if 40<(↑(List.length x):Int) then 40 else (↑(List.length x):Int)) ((List.length x)+1)) (sl (okL tI ((if 40<(↑(List.length x):Int) then 40 else (↑(List.length x):Int)).toNat-0) (λk=>(λk=>(tI).row (gL tI x k)) (0+k))) (sl (Pa0 (lsL tI ((if 40<(↑(List.length x):Int) then 40 else (↑(List.length x):Int)).toNat-0) (λk=>(λk=>(tI).row (gL tI x k)) (0+k)))) (sl (Nat.ble 1 (List.length (r4 (lsL tI ((if 40<(↑(List.length x):Int) then 40 else (↑(List.length x):Int)).toNat-0) (λk=>(λk=>(tI).row (gL tI x k)) (0+k)))))) (some (eL tV (t1.1::t1.2),[])) none) none) none) none)
noncomputable def Ea2(x:List Int):List V3:=W0 (one (r1L tV)) (ra7 x)
noncomputable def Ea3(x:List Int):Bool:=okO (one (r1L tV)) (ra7 x)
noncomputable def xb4:Sum:=L9 (ya3 tI) (λx=>.guard (Ea3 x) (.ret ((one (r1L tV)).enc (Ea2 x),[])))
theorem nc1:i5 prog G 9 xb4:=Ga2 (bd b9 dc7) (one (r1L tV)) (o:=ra7) λx=>C8 (by kernel_rfl)
noncomputable def Wc7:List (Nat×Sum):=[(11,Ea1)]
theorem Hc2:k9 prog G Wc7:=⟨Ka1,trivial⟩
noncomputable def La7(x:List V3)(y:Int):Option (b7×List c8):=let t1:=(O1 (rt tV x));(sl (okE tV x) (sl (O2 (rt tV x)) (sl (t1.2==0) (some (b (t1.1==y),[])) (some (b false,[]))) none) none)
noncomputable def ra8(x:List V3)(y:Int):Bool:=W0 (one r1B) (La7 x y)
noncomputable def ra9(x:List V3)(y:Int):Bool:=okO (one r1B) (La7 x y)
noncomputable def gc7:Sum:=Ga1 (ya3 tV) cI (λx y=>.guard (ra9 x y) (.ret ((one r1B).enc (ra8 x y),[])))
theorem Wc8:i5 prog G 21 gc7:=Wb5 (bd b21 Hc2) (one r1B) (o:=La7) λx y=>C8 (by kernel_rfl)
noncomputable def Hc3:List (Nat×Sum):=[(13,eb6)]
theorem Cc0:k9 prog G Hc3:=⟨xb3,trivial⟩
noncomputable def Ea4(x:List V3)(y:V3)(z:V3)(w:Int):Option (b7×List c8):=let t1:=(ma9 (rt tV x) y z);(sl (okE tV x) (sl (na0 (rt tV x) y z) (sl (t1.2==0) (some (b (t1.1==w),[])) (some (b false,[]))) none) none)
noncomputable def H4(x:List V3)(y:V3)(z:V3)(w:Int):Bool:=W0 (one r1B) (Ea4 x y z w)
noncomputable def S8(x:List V3)(y:V3)(z:V3)(w:Int):Bool:=okO (one r1B) (Ea4 x y z w)
noncomputable def nb6:Sum:=Ed7 (ya3 tV) (W9 tV) (W9 tV) cI (λx y z w=>.guard (S8 x y z w) (.ret ((one r1B).enc (H4 x y z w),[])))
theorem Gb4:i5 prog G 26 nb6:=Ne1 (bd b26 Cc0) (one r1B) (o:=Ea4) λx y z w=>C8 (by kernel_rfl)
noncomputable def nc2:List (Nat×Sum):=[(17,ab9),(11,Ea1),(21,gc7),(24,eb1),(15,Ra1),(26,nb6)]
theorem dc8:k9 prog G nc2:=⟨nb5,Ka1,Wc8,wb8,eb5,Gb4,trivial⟩
noncomputable def sa0  : Option (b7×List c8):=let t1:=(o3 0 0 0);let t2:=(o3 5 5 5);let t3:=(o3 2 0 0);let t4:=(o3 0 2 0);let t5:=(o3 0 0 2);let t6:=(o3 1 0 0);let t7:=(o3 0 1 0);let t8:=(o3 1 1 0);let t9:=(O1 [t1,t6,t7,t8]);let t10:=(O1 [(⟨0,0,0⟩:V3),(⟨0,0,0⟩:V3),(⟨0,0,0⟩:V3),(⟨0,0,0⟩:V3),(⟨0,0,0⟩:V3),(⟨0,0,0⟩:V3),(⟨0,0,0⟩:V3),(⟨0,0,0⟩:V3),(⟨0,0,0⟩:V3),(⟨0,0,0⟩:V3),(⟨0,0,0⟩:V3),(⟨0,0,0⟩:V3),(⟨0,0,0⟩:V3),(⟨0,0,0⟩:V3),(⟨0,0,0⟩:V3),(⟨0,0,0⟩:V3),(⟨0,0,0⟩:V3),(⟨0,0,0⟩:V3),(⟨0,0,0⟩:V3),(⟨0,0,0⟩:V3),(⟨0,0,0⟩:V3),(⟨0,0,0⟩:V3),(⟨0,0,0⟩:V3),(⟨0,0,0⟩:V3),(⟨0,0,0⟩:V3),(⟨0,0,0⟩:V3),(⟨0,0,0⟩:V3),(⟨0,0,0⟩:V3),(⟨0,0,0⟩:V3),(⟨0,0,0⟩:V3),(⟨0,0,0⟩:V3),(⟨0,0,0⟩:V3),(⟨0,0,0⟩:V3),(⟨0,0,0⟩:V3),(⟨0,0,0⟩:V3),(⟨0,0,0⟩:V3),(⟨0,0,0⟩:V3),(⟨0,0,0⟩:V3),(⟨0,0,0⟩:V3),(⟨0,0,0⟩:V3),(⟨0,0,0⟩:V3),(⟨0,0,0⟩:V3),(⟨0,0,0⟩:V3),(⟨0,0,0⟩:V3),(⟨0,0,0⟩:V3),(⟨0,0,0⟩:V3),(⟨0,0,0⟩:V3),(⟨0,0,0⟩:V3),(⟨0,0,0⟩:V3)]);let t11:=(ra8 [t1,t3,t4,t5] 8);let t12:=(o3 1 2 3);let t13:=(wa1 t1 t12);let t14:=(ra8 (rt tV t13) 36);let t15:=(z7 t1 t12);let t16:=(o3 1 0 3);let t17:=(z7 t1 t16);let t18:=(o3 (-1) (-1) 3);let t19:=(z7 t1 t18);let t20:=(o3 1 1 1);let t21:=(H4 [t1,t3,t4,t5] t1 t20 6);let t22:=(H4 [t1,t3,t4,t5] t1 t2 8);let t23:=(o3 3 0 0);let t24:=(o3 4 4 4);let t25:=(H4 [t1,t3,t4,t5] t23 t24 0);let w0:Option (b7×List c8):=(sl (K8 t1 t12) (sl (t15==6) (sl (K8 t1 t16) (sl (t17==0) (sl (K8 t1 t18) (some (b false,[])) none) (some (b false,[]))) none) (some (b false,[]))) none);(sl (O2 [t1,t6,t7,t8]) (sl (O2 [(⟨0,0,0⟩:V3),(⟨0,0,0⟩:V3),(⟨0,0,0⟩:V3),(⟨0,0,0⟩:V3),(⟨0,0,0⟩:V3),(⟨0,0,0⟩:V3),(⟨0,0,0⟩:V3),(⟨0,0,0⟩:V3),(⟨0,0,0⟩:V3),(⟨0,0,0⟩:V3),(⟨0,0,0⟩:V3),(⟨0,0,0⟩:V3),(⟨0,0,0⟩:V3),(⟨0,0,0⟩:V3),(⟨0,0,0⟩:V3),(⟨0,0,0⟩:V3),(⟨0,0,0⟩:V3),(⟨0,0,0⟩:V3),(⟨0,0,0⟩:V3),(⟨0,0,0⟩:V3),(⟨0,0,0⟩:V3),(⟨0,0,0⟩:V3),(⟨0,0,0⟩:V3),(⟨0,0,0⟩:V3),(⟨0,0,0⟩:V3),(⟨0,0,0⟩:V3),(⟨0,0,0⟩:V3),(⟨0,0,0⟩:V3),(⟨0,0,0⟩:V3),(⟨0,0,0⟩:V3),(⟨0,0,0⟩:V3),(⟨0,0,0⟩:V3),(⟨0,0,0⟩:V3),(⟨0,0,0⟩:V3),(⟨0,0,0⟩:V3),(⟨0,0,0⟩:V3),(⟨0,0,0⟩:V3),(⟨0,0,0⟩:V3),(⟨0,0,0⟩:V3),(⟨0,0,0⟩:V3),(⟨0,0,0⟩:V3),(⟨0,0,0⟩:V3),(⟨0,0,0⟩:V3),(⟨0,0,0⟩:V3),(⟨0,0,0⟩:V3),(⟨0,0,0⟩:V3),(⟨0,0,0⟩:V3),(⟨0,0,0⟩:V3),(⟨0,0,0⟩:V3)]) (sl (ra9 [t1,t3,t4,t5] 8) (sl t11 (sl (wa2 t1 t12) (sl (okE tV t13) (sl (ra9 (rt tV t13) 36) (sl t14 (sl (t9.2==11) (sl (K8 t1 t12) (sl (t15==6) (sl (K8 t1 t16) (sl (t17==0) (sl (K8 t1 t18) (sl (t10.2==2) (sl (t19==0) (sl (S8 [t1,t3,t4,t5] t1 t20 6) (sl t21 (sl (S8 [t1,t3,t4,t5] t1 t2 8) (sl t22 (sl (S8 [t1,t3,t4,t5] t23 t24 0) (some (b t25,[])) none) (some (b false,[]))) none) (some (b false,[]))) none) (some (b false,[]))) (some (b false,[]))) none) (sl (t10.2==2) (some (b false,[])) (some (b false,[])))) none) (sl (t10.2==2) (some (b false,[])) (some (b false,[])))) none) w0) w0) none) none) none) w0) none) none) none)
noncomputable def Ea5  : Bool:=W0 (one r1B) sa0
noncomputable def Ea6  : Bool:=okO (one r1B) sa0
noncomputable def xb5:Sum:=od1  (.guard Ea6 (.ret ((one r1B).enc Ea5,[])))
theorem nc3:i5 prog G 8 xb5:=Ne0 (bd b8 dc8) (one r1B) (o:=sa0) (C8 (by kernel_rfl))
noncomputable def Oa2:List (Nat×Sum):=[(30,ta4)]
theorem dc9:k9 prog G Oa2:=⟨va1,trivial⟩
structure Z5 where
 Xa9:List V3
 yb1:List Pln
 (w7 Cb5:Int)
 Cc9:List V3
 (fa6 e7 d9 g7 j9:Int)
structure H5 where
 l9:Int
noncomputable def bb0(p:Z5)(s:H5):St:=⟨.unk::eL tV p.Xa9::ra 4 (.ptr 0 0 0 0::.unk::.unk::eL tP p.yb1::i p.w7::i p.Cb5::ra 3 (eL tV p.Cc9::i p.fa6::i s.l9::ra 9 [])),[⟨0,4,[[i p.e7,i p.d9,i p.g7,i p.j9]],true,false,0⟩]⟩
noncomputable def aa7{α:Type}(k:H5->α)(e:Nat->α)(z:α)(p:Z5)(s:H5):α:=let t1:=(K3 (⟨(⟨p.e7,p.d9,p.g7⟩:V3),p.j9⟩:Pln) (gL tV p.Cc9 s.l9.toNat));(sl (decide (s.l9<p.fa6)) (sl (inB s.l9 (List.length p.Cc9)) (sl (S5 (⟨(⟨p.e7,p.d9,p.g7⟩:V3),p.j9⟩:Pln) (gL tV p.Cc9 s.l9.toNat)) (sl (decide (t1>0)) (e 1) (k ⟨W (s.l9+1)⟩)) z) z) (e 2))
noncomputable def V7(p:Z5)(s:H5):Stp H5:=aa7 .next .exit .fail p s
noncomputable def Ha8:Lo Z5 H5:=⟨En Oa2,0,ye4,[1,0,1,4,4,1,1,0,4,1,1,4,4],[1,6,9,10,11,15,16,17],.p,[⟨sUq::sLq tV::ru2 4 (sPq 0::sUq::sUq::sLq tP::sIq::sIq::ru2 3 (sLq tV::sIq::sIq::ru2 9 [])),[⟨0,4,true,some [kLq 4]⟩],λa H=>(⟨aLq tV a 1,aLq tP a 9,aIq a 10,aIq a 11,aLq tV a 15,aIq a 16,hIq H 0 0 0,hIq H 0 0 1,hIq H 0 0 2,hIq H 0 0 3⟩,⟨aIq a 17⟩)⟩],V7,[(none,λp s=>⟨[b false],[]⟩),(some 2,λp s=>upq (bb0 p s) [(18,b (decide (s.l9<p.fa6)))])],bb0⟩
theorem Ub2:Ha8.Ok:=Lo.ok [] (by kernel_rfl) .nil rfl (.cons (λa H=>by kernel_rfl) .nil) λp s=>(.of @aa7 (λF _ _ _ _ _=>by unfold aa7;(repeat' apply u7 (f:=F))<;>rfl) (by kernel_rfl))
structure ia0 where
 w7:Int
structure H6 where
 Xa9:List V3
 yb1:List Pln
 Cb5:Int
noncomputable def bb1(p:ia0)(s:H6):St:=⟨.unk::eL tV s.Xa9::ra 7 (eL tP s.yb1::i p.w7::i s.Cb5::ra 15 []),[]⟩
noncomputable def aa8{α:Type}(k:H6->α)(e:Nat->α)(z:α)(p:ia0)(s:H6):α:=let t1:=(lp (V7 (⟨rt tV s.Xa9,rt tP s.yb1,p.w7,s.Cb5,rt tV s.Xa9,(↑(List.length s.Xa9):Int),(gL tP s.yb1 s.Cb5.toNat).n.x,(gL tP s.yb1 s.Cb5.toNat).n.y,(gL tP s.yb1 s.Cb5.toNat).n.z,(gL tP s.yb1 s.Cb5.toNat).b⟩:Z5)) (⟨0⟩:H5));(sl (decide (s.Cb5<p.w7)) (sl (inB s.Cb5 (List.length s.yb1)) (sl ((cnE tV s.Xa9)&&((cnE tP s.yb1)&&((cnE tV s.Xa9)&&true))) (sl (Nat.beq t1.1 1) (e 1) (sl (Nat.beq t1.1 2) (k ⟨rt tV s.Xa9,rt tP s.yb1,W (s.Cb5+1)⟩) z)) z) z) (e 2))
noncomputable def ea6(p:ia0)(s:H6):Stp H6:=aa8 .next .exit .fail p s
noncomputable def Ha9:Lo ia0 H6:=⟨En Oa2,0,ye4,[1,0,1,4,4],[1,9,10,11],.s .p (.s .p (.s (.b (.s .p (.s .p (.b (.u Ha8.ls))))) .p)),[⟨sUq::sLq tV::ru2 7 (sLq tP::sIq::sIq::ru2 15 []),[],λa H=>(⟨aIq a 10⟩,⟨aLq tV a 1,aLq tP a 9,aIq a 11⟩)⟩],ea6,[(none,λp s=>⟨[b false],[]⟩),(some 0,λp s=>upq (bb1 p s) [(12,b (decide (s.Cb5<p.w7)))])],bb1⟩
theorem Ub3:Ha9.Ok:=Lo.ok [Ha8.pr] (by kernel_rfl) (.cons Ub2 .nil) rfl (.cons (λa H=>by kernel_rfl) .nil) λp s=>(.of @aa8 (λF _ _ _ _ _=>by unfold aa8;(repeat' apply u7 (f:=F))<;>rfl) (by kernel_rfl))
noncomputable def sa1(x:List Pln)(y:List V3):Option (b7×List c8):=let t1:=(lp (ea6 (⟨(↑(List.length x):Int)⟩:ia0)) (⟨rt tV y,rt tP x,0⟩:H6));(sl ((cnE tV y)&&((cnE tP x)&&true)) (sl (Nat.beq t1.1 1) (some (b false,[])) (sl (Nat.beq t1.1 2) (some (b true,[])) none)) none)
noncomputable def Ea7(x:List Pln)(y:List V3):Bool:=W0 (one r1B) (sa1 x y)
noncomputable def Ea8(x:List Pln)(y:List V3):Bool:=okO (one r1B) (sa1 x y)
noncomputable def xb6:Sum:=Ga1 (ya3 tP) (ya3 tV) (λx y=>.guard (Ea8 x y) (.ret ((one r1B).enc (Ea7 x y),[])))
theorem nc4:i5 prog G 23 xb6:=Wb5 (bd b23 dc9) (one r1B) (o:=sa1) λx y=>fb5 (.s .p (.s (.s .p (.b (.u Ha9.ls))) .p)) [Ha9.pr] (by kernel_rfl) (.cons Ub3 .nil) (by kernel_rfl)
noncomputable def bxS(s:V3×V3)(v:V3):V3×V3:=(⟨if v.x<s.1.x then v.x else s.1.x,if v.y<s.1.y then v.y else s.1.y,if v.z<s.1.z then v.z else s.1.z⟩,⟨if v.x>s.2.x then v.x else s.2.x,if v.y>s.2.y then v.y else s.2.y,if v.z>s.2.z then v.z else s.2.z⟩)
noncomputable def bxL:List V3->V3×V3×Bool
 |[]=>(⟨0,0,0⟩,⟨0,0,0⟩,false)
 |v::l=>(((v::l).foldl bxS (v,v)).1,((v::l).foldl bxS (v,v)).2,true)
noncomputable def bxT(l:List V3)(j:Nat):V3×V3:=(l.take j).foldl bxS (gL tV l 0,gL tV l 0)
theorem ae1{l:List V3}{j:Nat}(hj:j<l.length):bxT l (j+1)=bxS (bxT l j) (gL tV l j):=by
 unfold bxT;rw[mb4 tV hj,List.foldl_append];rfl
theorem Le4{l:List V3}(h:l≠[]):bxL l=((bxT l l.length).1,(bxT l l.length).2,true):=by
 cases l with
 |nil=>exact absurd rfl h
 |cons v l =>
  unfold bxT;rw[Qkam];rfl
theorem te4(l:List V3)(hl:l.length<=1000000):Xa2 l=some (.tup [.agg [i (bxL l).1.x,i (bxL l).1.y,i (bxL l).1.z],.agg [i (bxL l).2.1.x,i (bxL l).2.1.y,i (bxL l).2.1.z],b (bxL l).2.2],[]):=by
 by_cases hne:l=[]
 ·subst hne;rfl
 have hp:0<l.length:=List.length_pos_iff.2 hne;obtain⟨t,s,h,rfl,k,rfl⟩:=P6 (step:=ma8 ⟨l,(l.length:Int)⟩) (mk:=λj (q:V3×V3)=>(⟨(j:Int),q.1.x,q.1.y,q.1.z,q.2.x,q.2.y,q.2.z⟩:ea4)) l.length (λj q=>j<=l.length/\q=bxT l j) (λt s=>t=1/\∃k:Int,s=⟨k,(bxT l l.length).1.x,(bxT l l.length).1.y,(bxT l l.length).1.z,(bxT l l.length).2.x,(bxT l l.length).2.y,(bxT l l.length).2.z⟩) (by omega)
  (λj q hj hi=>by
   obtain⟨_,rfl⟩:=hi;have hn:=D2 hj (show l.length<=4611686018427387904 by omega)
   simp only[ma8,ra1,Int.toNat_natCast,hn];rw[btD (r7 hj),bt (i9 hj)];exact .nx ⟨bxT l (j+1),by rw[ae1 hj];rfl,by omega,rfl⟩)
  (λj q hj hi=>by
   obtain⟨hje,rfl⟩:=hi;have hje:j=l.length:=by omega
   subst hje;refine⟨1,?_,rfl,_,rfl⟩;simp only[ma8,ra1];rw[bfD (A7 (Qky _))]) 0 (bxT l 0) ⟨Qkaf _,rfl⟩
 have h:lp (ma8 ⟨l,(l.length:Int)⟩) ⟨0,(gL tV l 0).x,(gL tV l 0).y,(gL tV l 0).z,(gL tV l 0).x,(gL tV l 0).y,(gL tV l 0).z⟩=_:=h;unfold Xa2;simp only[q9,m9,h];rw[bf (show ((l.length:Int)==0)=false from by rw[beq_eq_false_iff_ne];omega),bt (show inB 0 l.length=true from i9 (j:=0) hp),Le4 hne,bt (show inB 0 l.length=true from i9 (j:=0) hp)]
 rfl
theorem te5(l:List V3)(hl:l.length<=1000000):Ha6 l=bxL l:=by unfold Ha6;rw[te4 l hl];rfl
theorem te6(l:List V3)(hl:l.length<=1000000):Ha7 l=true:=by unfold Ha7;rw[te4 l hl];rfl
theorem De3(x y:V3):∃n,ua2 x y=some (i n,[]):=by
 unfold ua2 sl;cases decide (y.x<=x.x)<;>cases decide (y.y<=x.y)<;>cases decide (y.z<=x.z)<;>exact⟨_,rfl⟩
theorem td1(x y:V3):K8 x y=true:=by
 obtain⟨n,h⟩:=De3 x y;unfold K8;rw[h];rfl
noncomputable def jb0(s:V3×V3×Bool)(y:V3):V3:=⟨if s.1.x>y.x then s.1.x else y.x,if s.1.y>y.y then s.1.y else y.y,if s.1.z>y.z then s.1.z else y.z⟩
noncomputable def Aa4(s:V3×V3×Bool)(z:V3):V3:=⟨if s.2.1.x<z.x then s.2.1.x else z.x,if s.2.1.y<z.y then s.2.1.y else z.y,if s.2.1.z<z.z then s.2.1.z else z.z⟩
noncomputable def Aa5(l:List V3)(y z:V3):Int×Int:=if (Y2 l).2=0 then ((if W (6*z7 (jb0 (bxL l) y) (Aa4 (bxL l) z))<(Y2 l).1 then W (6*z7 (jb0 (bxL l) y) (Aa4 (bxL l) z)) else (Y2 l).1),0) else (0,(Y2 l).2)
theorem ae2(l:List V3)(y z:V3)(hl:l.length<=900000):wa5 l y z=some (.tup [i (Aa5 l y z).1,i (Aa5 l y z).2],[]):=by
 unfold wa5 Aa5;simp only[q9,oa7,m9,jd6 l hl,jd7 l hl,te5 l (by omega),te6 l (by omega),td1]
 by_cases h:(Y2 l).2=0
 ·rw[if_pos h,bf (show ((Y2 l).2 != 0)=false from by rw[bne_eq_false_iff_eq];exact h)]
  rfl
 ·rw[if_neg h,bt (show ((Y2 l).2 != 0)=true from bne_iff_ne.2 h)]
  rfl
theorem ae3(l:List V3)(y z:V3)(hl:l.length<=900000):ma9 l y z=Aa5 l y z:=by unfold ma9;rw[ae2 l y z hl];rfl
theorem ae4(l:List V3)(y z:V3)(hl:l.length<=900000):na0 l y z=true:=by unfold na0;rw[ae2 l y z hl];rfl
theorem ae5(l:List V3)(n:Int)(hl:l.length<=900000):La7 l n=some (b (decide ((Y2 l).2=0/\(Y2 l).1=n)),[]):=by
 unfold La7;simp only[q9,oa7,jd6 l hl,jd7 l hl];by_cases h:(Y2 l).2=0
 ·rw[bt rfl,bt rfl,bt (beq_iff_eq.2 h)];by_cases h2:(Y2 l).1=n
  ·rw[decide_eq_true ⟨h,h2⟩,beq_iff_eq.2 h2]
  ·rw[decide_eq_false (λk=>h2 k.2),beq_eq_false_iff_ne.2 h2]
 ·rw[bt rfl,bt rfl,bf (beq_eq_false_iff_ne.2 h),decide_eq_false (λk=>h k.1)]
theorem ae6(l:List V3)(n:Int)(hl:l.length<=900000):ra8 l n=decide ((Y2 l).2=0/\(Y2 l).1=n):=by unfold ra8;rw[ae5 l n hl];rfl
theorem ae7(l:List V3)(n:Int)(hl:l.length<=900000):ra9 l n=true:=by unfold ra9;rw[ae5 l n hl];rfl
theorem Bd0(l:List V3)(y z:V3)(n:Int)(hl:l.length<=900000):Ea4 l y z n=some (b (decide ((Aa5 l y z).2=0/\(Aa5 l y z).1=n)),[]):=by
 unfold Ea4;simp only[q9,oa7,ae3 l y z hl,ae4 l y z hl];by_cases h:(Aa5 l y z).2=0
 ·rw[bt rfl,bt rfl,bt (beq_iff_eq.2 h)];by_cases h2:(Aa5 l y z).1=n
  ·rw[decide_eq_true ⟨h,h2⟩,beq_iff_eq.2 h2]
  ·rw[decide_eq_false (λk=>h2 k.2),beq_eq_false_iff_ne.2 h2]
 ·rw[bt rfl,bt rfl,bf (beq_eq_false_iff_ne.2 h),decide_eq_false (λk=>h k.1)]
theorem Ub4(l:List V3)(y z:V3)(n:Int)(hl:l.length<=900000):H4 l y z n=decide ((Aa5 l y z).2=0/\(Aa5 l y z).1=n):=by unfold H4;rw[Bd0 l y z n hl];rfl
theorem Bd1(l:List V3)(y z:V3)(n:Int)(hl:l.length<=900000):S8 l y z n=true:=by unfold S8;rw[Bd0 l y z n hl];rfl
theorem td2{l d:List V3}{n:Int}(hc:Z4 l=0)(hd:d.Pairwise LtV)(hm:∀v,v∈l↔v∈d)(hn:V6l (d.filter (kv (F0 l)))=n):Y2 l=(n,0):=by
 have e:dis l=d:=ra6 _ _ (Uc7 _) hd λv=>by rw[mb6];exact hm v
 unfold Y2 ja7;rw[if_pos hc,e,hn]
noncomputable def tt:List V3:=[⟨0,0,0⟩,⟨2,0,0⟩,⟨0,2,0⟩,⟨0,0,2⟩]
theorem ae8:Y2 tt=(8,0):=by
 refine td2 (d:=[⟨0,0,0⟩,⟨0,0,2⟩,⟨0,2,0⟩,⟨2,0,0⟩]) (by kernel_rfl) (by simp[LtV]) (λv=>?_) (by kernel_rfl)
 unfold tt;simp only[Qkc,Qku,or_false]
 constructor<;>rintro (h | h | h | h)<;>simp[h]
noncomputable def qd:List V3:=[⟨0,0,0⟩,⟨1,0,0⟩,⟨0,2,0⟩,⟨1,2,0⟩,⟨0,0,3⟩,⟨1,0,3⟩,⟨0,2,3⟩,⟨1,2,3⟩]
theorem De4:Y2 qd=(36,0):=by
 refine td2 (d:=[⟨0,0,0⟩,⟨0,0,3⟩,⟨0,2,0⟩,⟨0,2,3⟩,⟨1,0,0⟩,⟨1,0,3⟩,⟨1,2,0⟩,⟨1,2,3⟩]) (by kernel_rfl) (by simp[LtV]) (λv=>?_) (by kernel_rfl)
 unfold qd;simp only[Qkc,Qku,or_false]
 constructor<;>rintro (h | h | h | h | h | h | h | h)<;>simp[h]
theorem De5:Y2 [⟨0,0,0⟩,⟨1,0,0⟩,⟨0,1,0⟩,⟨1,1,0⟩]=(0,11):=by
 have h:Z4 [⟨0,0,0⟩,⟨1,0,0⟩,⟨0,1,0⟩,⟨1,1,0⟩]=11:=by kernel_rfl
 unfold Y2;rw[h,if_neg (by omega)]
theorem ae9:Y2 (List.replicate 49 ⟨0,0,0⟩)=(0,2):=by
 have h:Z4 (List.replicate 49 ⟨0,0,0⟩)=2:=by kernel_rfl
 unfold Y2;rw[h,if_neg (by omega)]
theorem De6:bxL tt=(⟨0,0,0⟩,⟨2,2,2⟩,true):=by kernel_rfl
theorem Wc9(y z:V3)(n:Int)(h:(if W (6*z7 (jb0 (⟨0,0,0⟩,⟨2,2,2⟩,true) y) (Aa4 (⟨0,0,0⟩,⟨2,2,2⟩,true) z))<8 then W (6*z7 (jb0 (⟨0,0,0⟩,⟨2,2,2⟩,true) y) (Aa4 (⟨0,0,0⟩,⟨2,2,2⟩,true) z)) else 8)=n):Aa5 tt y z=(n,0):=by
 unfold Aa5;rw[ae8,De6,if_pos rfl];show (_,_)=_;rw[h]
theorem jd8:sa0=some (b true,[]):=by
 have e49:∀n m:V3,O1 (List.replicate 49 ⟨0,0,0⟩)=(0,2)/\O2 (List.replicate 49 ⟨0,0,0⟩)=true:=λ_ _=>⟨by rw[jd6 _ (by simp),ae9],jd7 _ (by simp)⟩
 have v:∀x y z,o3 x y z=⟨x,y,z⟩:=λ_ _ _=>rfl
 have hc:wa1 ⟨0,0,0⟩ ⟨1,2,3⟩=qd:=by kernel_rfl
 have hcg:wa2 ⟨0,0,0⟩ ⟨1,2,3⟩=true:=by kernel_rfl
 have s1:ra8 tt 8=true:=by rw[ae6 _ _ (by simp[tt]),ae8];rfl
 have s1g:ra9 tt 8=true:=ae7 _ _ (by simp[tt])
 have s2:ra8 qd 36=true:=by rw[ae6 _ _ (by simp[qd]),De4];rfl
 have s2g:ra9 qd 36=true:=ae7 _ _ (by simp[qd])
 have f1:O1 [⟨0,0,0⟩,⟨1,0,0⟩,⟨0,1,0⟩,⟨1,1,0⟩]=(0,11):=by rw[jd6 _ (by simp),De5]
 have f1g:O2 [⟨0,0,0⟩,⟨1,0,0⟩,⟨0,1,0⟩,⟨1,1,0⟩]=true:=jd7 _ (by simp)
 have m1:H4 tt ⟨0,0,0⟩ ⟨1,1,1⟩ 6=true:=by rw[Ub4 _ _ _ _ (by simp[tt]),Wc9 _ _ 6 (by kernel_rfl)];rfl
 have m2:H4 tt ⟨0,0,0⟩ ⟨5,5,5⟩ 8=true:=by rw[Ub4 _ _ _ _ (by simp[tt]),Wc9 _ _ 8 (by kernel_rfl)];rfl
 have m3:H4 tt ⟨3,0,0⟩ ⟨4,4,4⟩ 0=true:=by rw[Ub4 _ _ _ _ (by simp[tt]),Wc9 _ _ 0 (by kernel_rfl)];rfl
 have mg:∀y z n,S8 tt y z n=true:=λy z n=>Bd1 _ _ _ _ (by simp[tt])
 have b1:z7 ⟨0,0,0⟩ ⟨1,2,3⟩=6:=by kernel_rfl
 have b2:z7 ⟨0,0,0⟩ ⟨1,0,3⟩=0:=by kernel_rfl
 have b3:z7 ⟨0,0,0⟩ ⟨-1,-1,3⟩=0:=by kernel_rfl
 have t0:[(⟨0,0,0⟩:V3),⟨2,0,0⟩,⟨0,2,0⟩,⟨0,0,2⟩]=tt:=rfl;obtain⟨q1,q2⟩:=e49 ⟨0,0,0⟩ ⟨0,0,0⟩;simp only[List.replicate] at q1 q2;unfold sa0;simp only[v,q9,oa7,q1,q2,hc,hcg,t0,s1,s1g,s2,s2g,f1,f1g,m1,m2,m3,mg,b1,b2,b3,td1];rfl
theorem td3:Ea5=true:=by unfold Ea5;rw[jd8];rfl
theorem td4:Ea6=true:=by unfold Ea6;rw[jd8];rfl
noncomputable def M0(l:List V3):List V3:=ja7 (F0 l) l
theorem be0(l:List V3):(M0 l).Pairwise LtV:=(Uc7 l).filter _
noncomputable def CN(p:Pln)(X:List V3)(o:V3):Int:=AR (onF p X) p.n (c9 (ptF p X) o)
theorem te7{p:Pln}{X Y:List V3}(h:onF p X=onF p Y)(o:V3):CN p X o=CN p Y o:=by unfold CN ptF;rw[h]
theorem Sol.same{l l':List V3}(h:Sol l)(hs:∀u∈l,u∈l'):Sol l':=by
 obtain⟨a,c,k,v,ha,hc,hk,hv,hne⟩:=h;exact⟨a,c,k,v,hs a ha,hs c hc,hs k hk,hs v hv,hne⟩
theorem oe8{u w x v n:V3}(h3:N3 u w x≠⟨0,0,0⟩)(e1:dot n w=dot n u)(e2:dot n x=dot n u)(hv:dot n v≠dot n u):dot (N3 u w x) (c9 v u)≠0:=λe=>by
 have hN:dot (N3 u w x) (N3 u w x)>0:=A9 h3;have c1:c7 n (N3 u w x)=⟨0,0,0⟩:=I9 (by rw[v7];omega) (by rw[v7];omega)
 have d1:=K7 (d:=c9 v u) c1;rw[e,Qkd,v7] at d1
 have:=ha9 hN d1
 omega
section
variable{l:List V3}(hc:Z4 l=0)
include hc
theorem Ab9:Pol (M0 l):=by
 obtain⟨_,hl,h4⟩:=J4 hc;exact Ad5 hl h4
theorem Cc1(o:V3):Y2 l=(sig (F0 l) λp=>CN p (M0 l) o,0):=by
 obtain⟨_,hl,h4⟩:=J4 hc;have h:=(Ab9 hc).v6l o;unfold Y2;rw[if_pos hc];show (V6l (M0 l),(0:Int))=_;rw[<- h];unfold V6;rw[show F0 (M0 l)=F0 l from Ce9 hl h4]
 rfl
theorem oe9:0<(Y2 l).1:=by
 have h:=(Ab9 hc).pos;have h2:=(Ab9 hc).v6l ⟨0,0,0⟩;unfold Y2;rw[if_pos hc];show 0<V6l (M0 l);rw[<- h2];exact h
end
structure FG(X:List V3)(p:Pln):Prop extends Fac X p.n p.b where
 pr:g3 p.n=1
theorem prn{n:V3}(h:g3 n=1):n≠⟨0,0,0⟩:=λe=>by
 rw[e] at h
 revert h
 decide
theorem jd9 {X : List V3} {n u w x : V3} (hu : u ∈ X) (hw : w ∈ X) (hx : x ∈ X) (h3 : N3 u w x ≠ ⟨0, 0, 0⟩) (hn : n ≠ ⟨0, 0, 0⟩) (hle : ∀ v ∈ X, dot n v ≤ dot n u) (e1 : dot n w = dot n u) (e2 : dot n x = dot n u) :
  ∃p,FG X p/\dot p.n u=p.b/\dot p.n w=p.b/\dot p.n x=p.b:=by
 obtain⟨n',hpr,hg,ex,ey,ez⟩:=Ad2 hn;have hd:∀v,g3 n*dot n' v=dot n v:=λv=>by
  have:dot n v=(g3 n*n'.x)*v.x+(g3 n*n'.y)*v.y+(g3 n*n'.z)*v.z:=by rw[ex,ey,ez];rfl
  rw[this];generalize g3 n=g;simp only[dot]
  grind
 have hle':∀v,dot n v<=dot n u->dot n' v<=dot n' u:=λv h=>by
  rw[<- hd,<- hd] at h;exact Qkak h hg
 have heq:∀v,dot n v=dot n u->dot n' v=dot n' u:=λv h=>by
  rw[<- hd,<- hd] at h;exact Qkj (by omega) h
 exact⟨⟨n',dot n' u⟩,⟨⟨λv hv=>hle' v (hle v hv),u,w,x,hu,hw,hx,h3,rfl,heq w e1,heq x e2⟩,hpr⟩,rfl,heq w e1,heq x e2⟩
theorem Nc2{p q N:V3}(hN:N≠⟨0,0,0⟩)(k1:c7 p N=⟨0,0,0⟩)(k2:c7 q N=⟨0,0,0⟩):c7 p q=⟨0,0,0⟩:=by
 have c1:=λe=>K7 (d:=e) k1
 have c2:=λe=>K7 (d:=e) k2
 have hNN:=A9 hN;have d1:∀v:V3,dot v ⟨1,0,0⟩=v.x:=λv=>by simp[dot]
 have d2:∀v:V3,dot v ⟨0,1,0⟩=v.y:=λv=>by simp[dot]
 have d3:∀v:V3,dot v ⟨0,0,1⟩=v.z:=λv=>by simp[dot]
 have a1:=c1 ⟨1,0,0⟩;have a2:=c1 ⟨0,1,0⟩;have a3:=c1 ⟨0,0,1⟩;have f1:=c2 ⟨1,0,0⟩;have f2:=c2 ⟨0,1,0⟩;have f3:=c2 ⟨0,0,1⟩;rw[d1,d1] at a1 f1;rw[d2,d2] at a2 f2;rw[d3,d3] at a3 f3;have w:∀{t:Int},dot N N*t=0->t=0:=λe=>(Qke.1 e).resolve_left (by omega)
 clear c1 c2 k1 k2
 generalize dot N N=g at *
 generalize dot p N=x at *
 generalize dot q N=y at *
 refine Qkas (w (w ?_)) (w (w ?_)) (w (w ?_))
 ·have:g*(g*(c7 p q).x)=(g*p.y)*(g*q.z)-(g*p.z)*(g*q.y):=by simp only[c7];grind
  rw[this,a2,a3,f2,f3];grind
 ·have:g*(g*(c7 p q).y)=(g*p.z)*(g*q.x)-(g*p.x)*(g*q.z):=by simp only[c7];grind
  rw[this,a1,a3,f1,f3];grind
 ·have:g*(g*(c7 p q).z)=(g*p.x)*(g*q.y)-(g*p.y)*(g*q.x):=by simp only[c7];grind
  rw[this,a1,a2,f1,f2];grind
theorem Cc2{p q:Pln}(hp:g3 p.n=1)(hq:g3 q.n=1){u w x:V3}(h3:N3 u w x≠⟨0,0,0⟩)(p1:dot p.n u=p.b)(p2:dot p.n w=p.b)(p3:dot p.n x=p.b)(q1:dot q.n u=q.b)(q2:dot q.n w=q.b)(q3:dot q.n x=q.b):q=p\/q=N8 p:=by
 have k1:c7 p.n (N3 u w x)=⟨0,0,0⟩:=I9 (by rw[G6];omega) (by rw[G6];omega)
 have k2:c7 q.n (N3 u w x)=⟨0,0,0⟩:=I9 (by rw[G6];omega) (by rw[G6];omega)
 rcases Sb9 hp hq (Nc2 h3 k1 k2) with e|e
 ·left;have hb:q.b=p.b:=by rw[<- q1,e,p1]
  cases p;cases q
  simp only at e hb
  rw[e,hb]
 ·right;have hb:q.b=-p.b:=by
   rw[<- q1,e,<- p1];simp only[dot,neg];grind
  cases p;cases q
  simp only at e hb
  rw[e,hb];rfl
theorem te8{α:Type}:∀l:List α,∃r:List α,r.Nodup/\∀x,x∈r↔x∈l
 |[]=>⟨[],by simp,λx=>by simp⟩
 |a::l=>by
  obtain⟨r,h1,h2⟩:=te8 l;by_cases h:a∈r
  ·exact ⟨r, h1, fun x => by
    rw[h2,Qkc];constructor
    ·exact .inr
    ·rintro (rfl|h')
     ·exact (h2 _).1 h
     ·exact h'⟩
  ·exact⟨a::r,List.nodup_cons.2 ⟨h,h1⟩,λx=>by rw[Qkc,Qkc,h2]⟩
open Classical in
theorem td5(X:List V3):∃L:List Pln,L.Nodup/\∀p,p∈L↔FG X p:=by
 have hx:∀t:V3×V3×V3,∃p:Pln,N3 t.1 t.2.1 t.2.2≠⟨0,0,0⟩->g3 p.n=1/\dot p.n t.1=p.b/\dot p.n t.2.1=p.b/\dot p.n t.2.2=p.b:=λt=>by
  by_cases h:N3 t.1 t.2.1 t.2.2=⟨0,0,0⟩
  ·exact⟨⟨⟨0,0,0⟩,0⟩,λk=>absurd h k⟩
  ·obtain⟨p1,p2⟩:=Wc4 t.1 t.2.1 t.2.2;obtain⟨p,hp,e1,e2,e3⟩:=jd9 (X:=[t.1,t.2.1,t.2.2]) (n:=N3 t.1 t.2.1 t.2.2) (by simp) (by simp) (by simp) h h (λv hv=>by
    simp only[Qkc,Qku,or_false] at hv
    rcases hv with rfl|rfl|rfl<;>omega) p1 p2
   exact⟨p,λ_=>⟨hp.pr,e1,e2,e3⟩⟩
 obtain⟨f,hf⟩:=Qkap hx;obtain⟨L,hn,hm⟩:=te8 (X.flatMap λu=>X.flatMap λw=>X.flatMap λx=>[f (u,w,x),N8 (f (u,w,x))])
 refine⟨L.filter λp=>decide (FG X p),hn.filter _,λp=>?_⟩
 rw[Qkh,decide_eq_true_eq,hm];refine⟨λh=>h.2,λh=>⟨?_,h⟩⟩
 obtain⟨u,w,x,hu,hw,hx,h3,e1,e2,e3⟩:=h.on;obtain⟨g1,g2,g4,g5⟩:=hf (u,w,x) h3;rw[Qkao];refine⟨u,hu,?_⟩;rw[Qkao];refine⟨w,hw,?_⟩;rw[Qkao];refine⟨x,hx,?_⟩
 rcases Cc2 g1 h.pr h3 g2 g4 g5 e1 e2 e3 with e|e<;>simp[e]
noncomputable def FX1(X:List V3):List Pln:=Classical.choose (td5 X)
theorem Ea9(X:List V3):(FX1 X).Nodup:=(Qkz (td5 X)).1
theorem H7{X:List V3}{p:Pln}:p∈FX1 X↔FG X p:=(Qkz (td5 X)).2 p
open Classical in
noncomputable def crG(X:List V3):List V3:=(dis X).filter λv=>decide (∃m,Hi X v m)
open Classical in
theorem ga3{X:List V3}{v:V3}:v∈crG X↔v∈X/\∃m,Hi X v m:=by
 unfold crG;rw[Qkh,decide_eq_true_eq,mb6]
theorem Bb0(X:List V3):(crG X).Pairwise LtV:=by unfold crG;exact (Uc7 X).filter _
theorem De7(X:List V3):(crG X).Nodup:=by unfold crG;exact (dc0 X).filter _
theorem be1(n:V3):∀l:List V3,l≠[]->∃v∈l,∀u∈l,u=v\/dot n u<dot n v\/(dot n u=dot n v/\LtV u v)
 |[],h=>absurd rfl h
 |[a],_=>⟨a,by simp,λu hu=>.inl (Qkf.1 hu)⟩
 |a::c::l,_=>by
  obtain⟨v,hv,hm⟩:=be1 n (c::l) (by simp)
  rcases Int.lt_trichotomy (dot n a) (dot n v) with h|h|h
  ·refine⟨v,Qkv _ hv,λu hu=>?_⟩
   rcases Qkc.1 hu with rfl|hu
   ·exact .inr (.inl h)
   ·exact hm u hu
  ·rcases zd4 a v with k|k|k
   ·refine⟨v,Qkv _ hv,λu hu=>?_⟩
    rcases Qkc.1 hu with rfl|hu
    ·exact .inr (.inr ⟨h,k⟩)
    ·exact hm u hu
   ·refine⟨v,Qkv _ hv,λu hu=>?_⟩
    rcases Qkc.1 hu with rfl|hu
    ·exact .inl k
    ·exact hm u hu
   ·refine⟨a,Qkah,λu hu=>?_⟩
    rcases Qkc.1 hu with rfl|hu
    ·exact .inl rfl
    ·rcases hm u hu with rfl|q|⟨q1,q2⟩
     ·exact .inr (.inr ⟨h.symm,k⟩)
     ·exact .inr (.inl (by omega))
     ·exact .inr (.inr ⟨by omega,Ab2 q2 k⟩)
  ·refine⟨a,Qkah,λu hu=>?_⟩
   rcases Qkc.1 hu with rfl|hu
   ·exact .inl rfl
   ·rcases hm u hu with rfl|q|⟨q1,q2⟩
    ·exact .inr (.inl h)
    ·exact .inr (.inl (by omega))
    ·exact .inr (.inl (by omega))
theorem pe0(X:List V3)(v:V3):∃f:V3,∀u∈X,LtV u v->dot f u<dot f v:=by
 obtain⟨B1,p1,h1⟩:=big ⟨0,1,0⟩ (X.map λu=>⟨c9 u v,0⟩)
 obtain⟨B2,p2,h2⟩:=big ⟨0,0,1⟩ (X.map λu=>⟨c9 u v,0⟩)
 obtain⟨K,hK⟩:∃K,K=B1+B2+1:=⟨_,rfl⟩;refine⟨⟨K*K,K,1⟩,λu hu hlt=>?_⟩
 have a:=h1 _ (Qkb.2 ⟨u,hu,rfl⟩);have c:=h2 _ (Qkb.2 ⟨u,hu,rfl⟩);have ey:dot (c9 u v) ⟨0,1,0⟩=u.y-v.y:=by simp[dot,c9]
 have ez:dot (c9 u v) ⟨0,0,1⟩=u.z-v.z:=by simp[dot,c9]
 simp only[ey,ez] at a c;have hd:dot ⟨K*K,K,1⟩ v-dot ⟨K*K,K,1⟩ u=K*(K*(v.x-u.x))+K*(v.y-u.y)+(v.z-u.z):=by simp only[dot];grind
 unfold LtV at hlt;have hKp:0<K:=by omega
 suffices h:0<K*(K*(v.x-u.x))+K*(v.y-u.y)+(v.z-u.z) by omega
 have fac:K*(K*(v.x-u.x))+K*(v.y-u.y)+(v.z-u.z)=K*(K*(v.x-u.x)+(v.y-u.y))+(v.z-u.z):=by grind
 rw[fac];have one:∀t:Int,1<=t->K<=K*t:=λt ht=>by
  have:=Qkq ht (show 0<=K by omega)
  omega
 by_cases hx:u.x<v.x
 ·have k1:=one (v.x-u.x) (by omega)
  have k2:=one (K*(v.x-u.x)+(v.y-u.y)) (by omega)
  omega
 ·have ex:v.x-u.x=0:=by omega
  rw[ex,Qkd,Int.zero_add];by_cases hy:u.y<v.y
  ·have k2:=one (v.y-u.y) (by omega)
   omega
  ·have e2:v.y-u.y=0:=by omega
   rw[e2,Qkd];omega
theorem Bd2{X:List V3}(h:X≠[])(n:V3):∃v∈crG X,∀u∈X,dot n u<=dot n v:=by
 obtain⟨v,hv,hm⟩:=be1 n X h;obtain⟨f,hf⟩:=pe0 X v;obtain⟨M,hM,hb⟩:=big f (X.map λu=>⟨c9 u v,0⟩)
 refine⟨v,ga3.2 ⟨hv,⟨(M+1)*n.x+f.x,(M+1)*n.y+f.y,(M+1)*n.z+f.z⟩,λu hu hne=>?_⟩,λu hu=>?_⟩
 ·have e:∀t:V3,dot ⟨(M+1)*n.x+f.x,(M+1)*n.y+f.y,(M+1)*n.z+f.z⟩ t=(M+1)*dot n t+dot f t:=λt=>by simp only[dot];grind
  rw[e,e]
  rcases hm u hu with k|k|⟨k1,k2⟩
  ·exact absurd k hne
  ·have h1:=(hb _ (Qkb.2 ⟨u,hu,rfl⟩)).1;have h1:dot (c9 u v) f<=M:=h1;have h2:dot (c9 u v) f=dot f u-dot f v:=by simp only[dot,c9];grind
   have h3:(M+1)*dot n u<=(M+1)*(dot n v-1):=Qkq (by omega) (by omega)
   rw[Int.mul_sub,Int.mul_one] at h3;omega
  ·have:=hf u hu k2
   rw[k1];omega
 ·rcases hm u hu with k|k|⟨k1,_⟩
  ·rw[k];exact Qkl _
  ·omega
  ·omega
theorem xb7{X:List V3}{n:V3}{b:Int}(hv:∀v∈crG X,dot n v<=b):∀x∈X,dot n x<=b:=λx hx=>by
 obtain⟨v,h1,h2⟩:=Bd2 (X:=X) (by rintro rfl;cases hx) n
 have:=hv v h1
 have:=h2 x hx
 omega
theorem be2{X:List V3}(h4:Sol X):Sol (crG X):=by
 obtain⟨x0,hx0⟩:=h4.ne;obtain⟨a,ha,_⟩:=Bd2 (X:=X) (by rintro rfl;cases hx0) ⟨0,0,0⟩
 rcases mb5 ((crG X).map λv=>c9 v a) with⟨x,y,z,hx,hy,hz,hw⟩|⟨d,hd,h⟩
 ·obtain⟨u,hu,rfl⟩:=Qkb.1 hx;obtain⟨v,hv,rfl⟩:=Qkb.1 hy;obtain⟨w,hw',rfl⟩:=Qkb.1 hz;exact⟨a,v,w,u,ha,hv,hw',hu,λe=>hw (by rw[<- e];simp only[dot,c7,N3];grind)⟩
 ·exfalso;have e:∀v∈crG X,dot d v=dot d a:=λv hv=>by
   have:=h _ (Qkb.2 ⟨v,hv,rfl⟩)
   simp only[dot,c9] at this ⊢
   grind
  obtain⟨v,hv,hne⟩:=h4.off hd (dot d a);have h1:=xb7 (X:=X) (n:=d) (b:=dot d a) (λw hw=>by rw[e w hw];exact Qkl _) v hv
  have h2:=xb7 (X:=X) (n:=neg d) (b:=-dot d a) (λw hw=>by
   have:=e w hw
   have h3:dot (neg d) w=-dot d w:=by simp only[dot,neg];grind
   omega) v hv
  have h3:dot (neg d) v=-dot d v:=by simp only[dot,neg];grind
  omega
theorem Ub5{X:List V3}{p:Pln}(hp:FG X p):FG (crG X) p:=by
 refine⟨⟨λv hv=>hp.hd v (ga3.1 hv).1,?_⟩,hp.pr⟩
 obtain⟨u,w,x,hu,hw,hx,h3,t1,t2,t3⟩:=hp.on;obtain⟨a,ha,ta⟩:∃a∈crG X,dot p.n a=p.b:=by
  apply Qka;intro hno
  have:=xb7 (X:=X) (n:=p.n) (b:=p.b-1) (λv hv=>by
   have h1:=hp.hd v (ga3.1 hv).1;have h2:dot p.n v≠p.b:=λe=>hno ⟨v,hv,e⟩
   omega) u hu
  omega
 rcases mb5 (p.n::(((crG X).filter λv=>dot p.n v==p.b).map λv=>c9 v a)) with⟨n1,n2,n3,k1,k2,k3,hne⟩|⟨d,hd,hz⟩
 ·have on : ∀ {n}, n ∈ p.n :: (((crG X).filter fun v => dot p.n v == p.b).map fun v => c9 v a) → n = p.n ∨ ∃ v ∈ crG X, dot p.n v = p.b ∧ n = c9 v a := fun {n} hn => by
   rcases Qkc.1 hn with e|hn
   ·exact .inl e
   ·obtain⟨v,hv,rfl⟩:=Qkb.1 hn;obtain⟨h1,h2⟩:=Qkh.1 hv;exact .inr ⟨v,h1,beq_iff_eq.1 h2,rfl⟩
  have fin:∀{v1 v2:V3},v1∈crG X->v2∈crG X->dot p.n v1=p.b->dot p.n v2=p.b->dot p.n (c7 (c9 v1 a) (c9 v2 a))≠0->∃u w x,u∈crG X/\w∈crG X/\x∈crG X/\N3 u w x≠⟨0,0,0⟩/\dot p.n u=p.b/\dot p.n w=p.b/\dot p.n x=p.b:=λ{v1 v2} hv1 hv2 e1 e2 h=>⟨a,v1,v2,ha,hv1,hv2,cc7 h,ta,e1,e2⟩
  rcases on k1 with rfl|⟨v1,m1,e1,rfl⟩<;>rcases on k2 with rfl|⟨v2,m2,e2,rfl⟩<;>rcases on k3 with rfl|⟨v3,m3,e3,rfl⟩
  ·exact absurd (by simp only[dot,c7];grind) hne
  ·exact absurd (by simp only[dot,c7];grind) hne
  ·exact absurd (by simp only[dot,c7];grind) hne
  ·exact fin m2 m3 e2 e3 hne
  ·exact absurd (by simp only[dot,c7];grind) hne
  ·exact fin m3 m1 e3 e1 λe=>hne (by rw[<- e];simp only[dot,c7];grind)
  ·exact fin m1 m2 e1 e2 λe=>hne (by rw[<- e];simp only[dot,c7];grind)
  ·exfalso;have q:∀v:V3,dot p.n v=p.b->dot p.n (c9 v a)=0:=λv e=>by
    have:dot p.n (c9 v a)=dot p.n v-dot p.n a:=by simp only[dot,c9];grind
    omega
   have r1:=q v1 e1;have r2:=q v2 e2;have r3:=q v3 e3;have hw:mw ⟨c9 v1 a,0⟩ ⟨c9 v2 a,0⟩ ⟨c9 v3 a,0⟩≠0:=hne;refine prn hp.pr (Da6 hw ?_ ?_ ?_)
   ·rw[<- r1];simp only[dot];grind
   ·rw[<- r2];simp only[dot];grind
   ·rw[<- r3];simp only[dot];grind
 ·exfalso;have hdn:dot p.n d=0:=hz _ Qkah;have hdv:∀v∈crG X,dot p.n v=p.b->dot d v=dot d a:=λv hv e=>by
   have:=hz _ (Qkv _ (Qkb.2 ⟨v,Qkh.2 ⟨hv,beq_iff_eq.2 e⟩,rfl⟩))
   simp only[dot,c9] at this ⊢
   grind
  have hoff:¬ (dot d u=dot d a/\dot d w=dot d a/\dot d x=dot d a):=λ⟨g1,g2,g3'⟩=>by
   have hpar:c7 p.n (N3 u w x)=⟨0,0,0⟩:=I9 (by rw[G6];omega) (by rw[G6];omega)
   have hm:mw p ⟨c9 w u,0⟩ ⟨c9 x u,0⟩≠0:=by
    have hN:mw p ⟨c9 w u,0⟩ ⟨c9 x u,0⟩=dot p.n (N3 u w x):=rfl;rw[hN];intro e;have hd':=K7 (d:=p.n) hpar;rw[e,Qkr] at hd';have h1:=A9 h3;have h2:=A9 (prn hp.pr)
    rcases Qke.1 hd' with r|r<;>omega
   refine hd (Da6 hm hdn ?_ ?_)
   ·show dot (c9 w u) d=0
    have:dot (c9 w u) d=dot d w-dot d u:=by simp only[dot,c9];grind
    omega
   ·show dot (c9 x u) d=0
    have:dot (c9 x u) d=dot d x-dot d u:=by simp only[dot,c9];grind
    omega
  have main:∀(e:V3) (t:V3),t∈X->dot p.n t=p.b->(∀v∈crG X,dot p.n v=p.b->dot e v=dot e a)->dot e t<=dot e a:=λe t ht hte hev=>by
   obtain⟨N,hN,hbig⟩:=big e ((crG X).map λv=>⟨c9 v a,0⟩)
   have:=xb7 (X:=X) (n:=⟨e.x+N*p.n.x,e.y+N*p.n.y,e.z+N*p.n.z⟩) (b:=dot e a+N*p.b) (λv hv=>by
    have h1:dot ⟨e.x+N*p.n.x,e.y+N*p.n.y,e.z+N*p.n.z⟩ v=dot e v+N*dot p.n v:=by simp only[dot];grind
    rw[h1];by_cases hvp:dot p.n v=p.b
    ·rw[hvp,hev v hv hvp];exact Qkl _
    ·have h2:=hp.hd v (ga3.1 hv).1;have h3:=(hbig _ (Qkb.2 ⟨v,hv,rfl⟩)).1;have h4:dot (c9 v a) e=dot e v-dot e a:=by simp only[dot,c9];grind
     have h3:dot (c9 v a) e<=N:=h3;have h5:N*dot p.n v<=N*(p.b-1):=Qkq (by omega) (by omega)
     rw[Int.mul_sub,Int.mul_one] at h5
     omega) t ht
   have h1:dot ⟨e.x+N*p.n.x,e.y+N*p.n.y,e.z+N*p.n.z⟩ t=dot e t+N*dot p.n t:=by simp only[dot];grind
   rw[h1,hte] at this;omega
  have both:∀t,t∈X->dot p.n t=p.b->dot d t=dot d a:=λt ht hte=>by
   have g1:=main d t ht hte hdv;have g2:=main (neg d) t ht hte (λv hv e=>by
    have:=hdv v hv e
    have q1:∀z:V3,dot (neg d) z=-dot d z:=λz=>by simp only[dot,neg];grind
    rw[q1,q1];omega)
   have q1:∀z:V3,dot (neg d) z=-dot d z:=λz=>by simp only[dot,neg];grind
   rw[q1,q1] at g2;omega
  exact hoff ⟨both u hu t1,both w hw t2,both x hx t3⟩
theorem pe1{X:List V3}{p:Pln}:FG (crG X) p↔FG X p:=by
 refine⟨λh=>⟨⟨xb7 h.hd,?_⟩,h.pr⟩,Ub5⟩
 obtain⟨u,w,x,hu,hw,hx,hr⟩:=h.on;exact⟨u,w,x,(ga3.1 hu).1,(ga3.1 hw).1,(ga3.1 hx).1,hr⟩
end Go.Ev.Ce
