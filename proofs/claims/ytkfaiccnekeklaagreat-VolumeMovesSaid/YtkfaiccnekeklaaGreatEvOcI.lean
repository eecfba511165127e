/- Own work. -/
import Derived.Test.YtkfaiccnekeklaaGreatEvOaTE
import Derived.ChangeStays
import Derived.ChangeSame
import Derived.OpenShut
import Derived.RowKit
set_option linter.all false
def Qka:=@Classical.byContradiction
def Qkb:=@List.mem_map
def Qkc:=@Int.mul_zero
def Qkd:=@Int.mul_eq_zero
def Qke:=@Int.mul_pos
def Qkf:=@List.mem_cons
def Qkg:=@Int.mul_nonneg
def Qkh:=@List.mem_singleton
def Qki:=@Int.mul_neg_of_pos_of_neg
def Qkj:=@List.getElem?_eq_getElem
def Qkk:=@List.mem_append
def Qkl:=@Int.neg_mul
def Qkm:=@Int.zero_mul
def Qkn:=@Int.add_zero
def Qko:=@Option.bind_eq_some_iff
def Qkp:=@List.length_map
def Qkq:=@Int.mul_le_mul_of_nonneg_right
def Qkr:=@Int.le_refl
def Qks:=@List.length_filter_le
def Qkt:=@List.mem_cons_of_mem
def Qku:=@Nat.lt_irrefl
def Qkv:=@Int.mul_neg
def Qkw:=@Int.eq_of_mul_eq_mul_left
def Qkx:=@List.mem_filter
def Qky:=@Int.sub_self
def Qkz:=@Nat.zero_le
def Qkaa:=@List.not_mem_nil
def Qkab:=@List.append_nil
def Qkac:=@Nat.mul_le_mul_right
def Qkad:=@List.nodup_cons
def Qkae:=@List.getElem?_range
def Qkaf:=@Int.mul_lt_mul_of_pos_left
def Qkag:=@List.length_range
def Qkah:=@List.take_length
def Qkai:=@Nat.le_trans
def Qkaj:=@Classical.axiomOfChoice
def Qkak:=@Option.map_eq_some_iff
def Qkal:=@Int.one_mul
def Qkam:=@List.mem_range
def Qkan:=@Int.mul_assoc
def Qkao:=@List.map_cons
def Qkap:=@Go.Ev.Ce.V3.ext'
namespace Go.Ev.Ce
open Go Go.Ev Go.Ev.L Go.Proofs
theorem Pc3{l:List V3}(hl:l.all inV=true)(h4:Sol l){v:V3}(hv:v∈l):v∈ia0 (F0 l) l↔∃n,∀w∈l,w≠v->dot n w<dot n v:=by
 constructor
 ·intro h;obtain⟨p,q,s,hp,hq,hs,hm,e1,e2,e3⟩:=((Pc2 hl v).1 h).2;refine⟨⟨p.n.x+q.n.x+s.n.x,p.n.y+q.n.y+s.n.y,p.n.z+q.n.z+s.n.z⟩,λw hw hne=>?_⟩
  have hd:∀x:V3,dot ⟨p.n.x+q.n.x+s.n.x,p.n.y+q.n.y+s.n.y,p.n.z+q.n.z+s.n.z⟩ x=dot p.n x+dot q.n x+dot s.n x:=λx=>by simp only[dot];grind
  rw[hd,hd];have g1:=((F8 hl p).1 hp).hd w hw;have g2:=((F8 hl q).1 hq).hd w hw;have g3:=((F8 hl s).1 hs).hd w hw;apply Qka;intro hno;have z:=Ta0 hm (d:=d8 w v) (by rw[A3];omega) (by rw[A3];omega) (by rw[A3];omega)
  simp only[d8,V3.mk.injEq] at z;exact hne (Qkap (by omega) (by omega) (by omega))
 ·rintro⟨n,hn⟩;apply Qka;intro hno
  have:=ib5 hl h4 (n:=n) (b:=dot n v-1) (λw hw=>by
   have:=hn w (ia1 hl h4 hw) λe=>hno (e ▸ hw)
   omega) v hv
  omega
section
variable{l:List V3}{T:V3->V3}(h:Sim l T)
include h
theorem Sim.inj{u w:V3}(hu:u∈l)(hw:w∈l)(e:T u=T w):u=w:=by
 have key:∀n:V3,dot n u=dot n w:=λn=>by
  obtain⟨n',k,hk,hn⟩:=h.dn n;have e':=hn u hu w hw;rw[e,Qky] at e'
  have:=ka5 hk e'.symm
  omega
 have k1:=key ⟨1,0,0⟩;have k2:=key ⟨0,1,0⟩;have k3:=key ⟨0,0,1⟩;simp only[dot] at k1 k2 k3;exact Qkap (by omega) (by omega) (by omega)
theorem Qd3{u w x v n:V3}(h3:N3 u w x≠⟨0,0,0⟩)(e1:dot n w=dot n u)(e2:dot n x=dot n u)(hv:dot n v≠dot n u):dot (N3 u w x) (d8 v u)≠0:=λe=>by
 have hN:dot (N3 u w x) (N3 u w x)>0:=Z8 h3;have c1:c7 n (N3 u w x)=⟨0,0,0⟩:=pa2 (by rw[A3];omega) (by rw[A3];omega)
 have d1:=ma4 (d:=d8 v u) c1;rw[e,Qkc,A3] at d1
 have:=ka5 hN d1
 omega
omit h in
theorem sd1(u w x:V3):dot (N3 u w x) w=dot (N3 u w x) u/\dot (N3 u w x) x=dot (N3 u w x) u:=by
 constructor<;>simp only[N3,dot,c7,d8]<;>grind
theorem Sim.sol:Sol l↔Sol (l.map T):=by
 constructor
 ·rintro⟨a,c,k,v,ha,hc,hk,hv,hne⟩;have h3:N3 a c k≠⟨0,0,0⟩:=λe=>hne (by rw[e];simp[dot])
  obtain⟨n',m,hm,hn⟩:=h.dn (N3 a c k);obtain⟨p1,p2⟩:=sd1 a c k;refine⟨T a,T c,T k,T v,Qkb.2 ⟨a,ha,rfl⟩,Qkb.2 ⟨c,hc,rfl⟩,Qkb.2 ⟨k,hk,rfl⟩,Qkb.2 ⟨v,hv,rfl⟩,Qd3 h (n:=n') ((h.n3 a ha c hc k hk).1 h3) ?_ ?_ ?_⟩
  ·have e:=hn c hc a ha;rw[p1,Qky,Qkc] at e;omega
  ·have e:=hn k hk a ha;rw[p2,Qky,Qkc] at e;omega
  ·intro e';have e:=hn v hv a ha
   have:=ka5 hm (show m*(dot (N3 a c k) v-dot (N3 a c k) a)=0 by omega)
   rw[A3] at hne;omega
 ·rintro⟨a',c',k',v',ha',hc',hk',hv',hne⟩;obtain⟨a,ha,rfl⟩:=Qkb.1 ha';obtain⟨c,hc,rfl⟩:=Qkb.1 hc';obtain⟨k,hk,rfl⟩:=Qkb.1 hk';obtain⟨v,hv,rfl⟩:=Qkb.1 hv';have h3:N3 (T a) (T c) (T k)≠⟨0,0,0⟩:=λe=>hne (by rw[e];simp[dot])
  obtain⟨n,m,hm,hn⟩:=h.up (N3 (T a) (T c) (T k));obtain⟨p1,p2⟩:=sd1 (T a) (T c) (T k);refine⟨a,c,k,v,ha,hc,hk,hv,Qd3 h (n:=n) ((h.n3 a ha c hc k hk).2 h3) ?_ ?_ ?_⟩
  ·have e:=hn c hc a ha;rw[p1,Qky,Qkc] at e;omega
  ·have e:=hn k hk a ha;rw[p2,Qky,Qkc] at e;omega
  ·intro e';have e:=hn v hv a ha
   have:=ka5 hm (show m*(dot (N3 (T a) (T c) (T k)) (T v)-dot (N3 (T a) (T c) (T k)) (T a))=0 by omega)
   rw[A3] at hne;omega
theorem Sim.ext(hs:Sol l){v:V3}(hv:v∈l):v∈ia0 (F0 l) l↔T v∈ia0 (F0 (l.map T)) (l.map T):=by
 rw[Pc3 h.li hs hv,Pc3 h.mi ((Sim.sol h).1 hs) (Qkb.2 ⟨v,hv,rfl⟩)];constructor
 ·rintro⟨n,hn⟩;obtain⟨n',k,hk,hd⟩:=h.dn n;refine⟨n',λw' hw' hne=>?_⟩
  obtain⟨w,hw,rfl⟩:=Qkb.1 hw';have e:=hd w hw v hv
  have:=Qki hk (show dot n w-dot n v<0 by have:=hn w hw λe=>hne (by rw[e]);omega)
  omega
 ·rintro⟨n',hn⟩;obtain⟨n,k,hk,hd⟩:=h.up n';refine⟨n,λw hw hne=>?_⟩
  have e:=hd w hw v hv
  have:=Qki hk (show dot n' (T w)-dot n' (T v)<0 by have:=hn (T w) (Qkb.2 ⟨w,hw,rfl⟩) λe=>hne (Sim.inj h hw hv e);omega)
  omega
theorem Sim.ext_mem(hs:Sol l)(w:V3):w∈ia0 (F0 (l.map T)) (l.map T)↔∃v∈ia0 (F0 l) l,w=T v:=by
 constructor
 ·intro hw;obtain⟨v,hv,rfl⟩:=Qkb.1 (ia1 h.mi ((Sim.sol h).1 hs) hw);exact⟨v,(Sim.ext h hs hv).2 hw,rfl⟩
 ·rintro⟨v,hv,rfl⟩;exact (Sim.ext h hs (ia1 h.li hs hv)).1 hv
end
structure Mat(l:List V3)(T:V3->V3)(r0 r1 r2:V3)(D:Int):Prop where
 d:0<D
 det:0<dot r0 (c7 r1 r2)
 t:∀u∈l,∀w∈l,D*((T u).x-(T w).x)=dot r0 (d8 u w)/\D*((T u).y-(T w).y)=dot r1 (d8 u w)/\D*((T u).z-(T w).z)=dot r2 (d8 u w)
theorem uc2(r0 r1 r2 n d:V3):dot ⟨dot n (c7 r1 r2),dot n (c7 r2 r0),dot n (c7 r0 r1)⟩ ⟨dot r0 d,dot r1 d,dot r2 d⟩=dot r0 (c7 r1 r2)*dot n d:=by simp only[dot,c7];grind
theorem Fb2(r0 r1 r2 a c:V3):c7 ⟨dot r0 a,dot r1 a,dot r2 a⟩ ⟨dot r0 c,dot r1 c,dot r2 c⟩=⟨dot (c7 r1 r2) (c7 a c),dot (c7 r2 r0) (c7 a c),dot (c7 r0 r1) (c7 a c)⟩:=by
 refine Qkap ?_ ?_ ?_<;>simp only[dot,c7]<;>grind
theorem Gc2(r0 r1 r2 v:V3):(dot r0 (c7 r1 r2)*v.x=dot (c7 r1 r2) v*r0.x+dot (c7 r2 r0) v*r1.x+dot (c7 r0 r1) v*r2.x)/\(dot r0 (c7 r1 r2)*v.y=dot (c7 r1 r2) v*r0.y+dot (c7 r2 r0) v*r1.y+dot (c7 r0 r1) v*r2.y)/\(dot r0 (c7 r1 r2)*v.z=dot (c7 r1 r2) v*r0.z+dot (c7 r2 r0) v*r1.z+dot (c7 r0 r1) v*r2.z):=by
 refine⟨?_,?_,?_⟩<;>simp only[dot,c7]<;>grind
theorem da2{k x:Int}(hk:0<k)(h:k*x=0):x=0:=(Qkd.1 h).resolve_left (by omega)
theorem ee7{l:List V3}{T:V3->V3}{r0 r1 r2:V3}{D:Int}(h:Mat l T r0 r1 r2 D)(hl:l.all inV=true)(hm:(l.map T).all inV=true):Sim l T:=by
 refine⟨hl,hm,λn=>⟨⟨D*dot n (c7 r1 r2),D*dot n (c7 r2 r0),D*dot n (c7 r0 r1)⟩,dot r0 (c7 r1 r2),h.det,λu hu w hw=>?_⟩,λn'=>⟨⟨n'.x*r0.x+n'.y*r1.x+n'.z*r2.x,n'.x*r0.y+n'.y*r1.y+n'.z*r2.y,n'.x*r0.z+n'.y*r1.z+n'.z*r2.z⟩,D,h.d,λu hu w hw=>?_⟩,λu hu w hw x hx=>?_⟩
 ·obtain⟨t1,t2,t3⟩:=h.t u hu w hw;have e:=uc2 r0 r1 r2 n (d8 u w);rw[<- t1,<- t2,<- t3,A3 n u w] at e;rw[<- e];generalize dot n (c7 r1 r2)=A;generalize dot n (c7 r2 r0)=B;generalize dot n (c7 r0 r1)=C;simp only[dot]
  grind
 ·obtain⟨t1,t2,t3⟩:=h.t u hu w hw;have e:dot ⟨n'.x*r0.x+n'.y*r1.x+n'.z*r2.x,n'.x*r0.y+n'.y*r1.y+n'.z*r2.y,n'.x*r0.z+n'.y*r1.z+n'.z*r2.z⟩ u-dot ⟨n'.x*r0.x+n'.y*r1.x+n'.z*r2.x,n'.x*r0.y+n'.y*r1.y+n'.z*r2.y,n'.x*r0.z+n'.y*r1.z+n'.z*r2.z⟩ w=n'.x*dot r0 (d8 u w)+n'.y*dot r1 (d8 u w)+n'.z*dot r2 (d8 u w):=by simp only[dot,d8];grind
  rw[e,<- t1,<- t2,<- t3];simp only[dot]
  grind
 ·obtain⟨t1,t2,t3⟩:=h.t w hw u hu;obtain⟨s1,s2,s3⟩:=h.t x hx u hu;have e:=Fb2 r0 r1 r2 (d8 w u) (d8 x u);rw[<- t1,<- t2,<- t3,<- s1,<- s2,<- s3] at e;have eN:c7 (d8 w u) (d8 x u)=N3 u w x:=rfl;rw[eN] at e;have eT:c7 ⟨D*((T w).x-(T u).x),D*((T w).y-(T u).y),D*((T w).z-(T u).z)⟩ ⟨D*((T x).x-(T u).x),D*((T x).y-(T u).y),D*((T x).z-(T u).z)⟩=⟨D*(D*(N3 (T u) (T w) (T x)).x),D*(D*(N3 (T u) (T w) (T x)).y),D*(D*(N3 (T u) (T w) (T x)).z)⟩:=by
   refine Qkap ?_ ?_ ?_<;>simp only[N3,c7,d8]<;>grind
  rw[eT] at e;simp only[V3.mk.injEq] at e;obtain⟨e1,e2,e3⟩:=e;obtain⟨b1,b2,b3⟩:=Gc2 r0 r1 r2 (N3 u w x);have hd:=h.d;have hdet:=h.det;constructor
  ·intro hne h0;rw[h0] at e1 e2 e3;simp only[Qkc] at e1 e2 e3;rw[<- e1,<- e2,<- e3] at b1 b2 b3;simp only[Qkm,Qkn] at b1 b2 b3;exact hne (Qkap (da2 hdet b1) (da2 hdet b2) (da2 hdet b3))
  ·intro hne h0;rw[h0] at e1 e2 e3;have z:∀v:V3,dot v ⟨0,0,0⟩=0:=λv=>by simp[dot]
   rw[z] at e1 e2 e3;exact hne (Qkap (da2 hd (da2 hd e1)) (da2 hd (da2 hd e2)) (da2 hd (da2 hd e3)))
theorem Qd4 {r0 r1 r2 : V3} {D : Int} (h00 : dot r0 r0 = D * D) (h11 : dot r1 r1 = D * D) (h22 : dot r2 r2 = D * D) (h01 : dot r0 r1 = 0) (h02 : dot r0 r2 = 0) (h12 : dot r1 r2 = 0) (hdet : dot r0 (c7 r1 r2) ≠ 0) (d : V3) :
  dot r0 d*dot r0 d+dot r1 d*dot r1 d+dot r2 d*dot r2 d=D*D*dot d d:=by
 have key:(⟨D*D*d.x-(dot r0 d*r0.x+dot r1 d*r1.x+dot r2 d*r2.x),D*D*d.y-(dot r0 d*r0.y+dot r1 d*r1.y+dot r2 d*r2.y),D*D*d.z-(dot r0 d*r0.z+dot r1 d*r1.z+dot r2 d*r2.z)⟩:V3)=⟨0,0,0⟩:=by
  have ex:∀r:V3,dot r ⟨D*D*d.x-(dot r0 d*r0.x+dot r1 d*r1.x+dot r2 d*r2.x),D*D*d.y-(dot r0 d*r0.y+dot r1 d*r1.y+dot r2 d*r2.y),D*D*d.z-(dot r0 d*r0.z+dot r1 d*r1.z+dot r2 d*r2.z)⟩=D*D*dot r d-(dot r0 d*dot r r0+dot r1 d*dot r r1+dot r2 d*dot r r2):=λr=>by
   generalize dot r0 d=A;generalize dot r1 d=B;generalize dot r2 d=C;simp only[dot]
   grind
  have cm:∀a c:V3,dot a c=dot c a:=λa c=>by simp only[dot];grind
  refine Ta0 (p:=⟨r0,0⟩) (q:=⟨r1,0⟩) (s:=⟨r2,0⟩) hdet ?_ ?_ ?_
  ·rw[ex,h00,h01,h02];grind
  ·rw[ex,cm r1 r0,h01,h11,h12];grind
  ·rw[ex,cm r2 r0,cm r2 r1,h02,h12,h22];grind
 simp only[V3.mk.injEq] at key;obtain⟨k1,k2,k3⟩:=key;have e:D*D*dot d d-(dot r0 d*dot r0 d+dot r1 d*dot r1 d+dot r2 d*dot r2 d)=d.x*(D*D*d.x-(dot r0 d*r0.x+dot r1 d*r1.x+dot r2 d*r2.x))+d.y*(D*D*d.y-(dot r0 d*r0.y+dot r1 d*r1.y+dot r2 d*r2.y))+d.z*(D*D*d.z-(dot r0 d*r0.z+dot r1 d*r1.z+dot r2 d*r2.z)):=by
  simp only[dot]
  grind
 rw[k1,k2,k3] at e;simp only[Qkc,Qkn] at e;exact (Int.eq_of_sub_eq_zero e).symm
theorem bd8{l:List V3}(h48:l.length<=48)(hl:l.all inV=true):(Sol l->ea1 l=0)/\(¬ Sol l->ea1 l=11):=by
 refine⟨db9 h48 hl,λhn=>?_⟩
 by_cases h0:ea1 l=0
 ·exact (hn (ga1 h0).2.2).elim
 ·unfold ea1 at h0 ⊢;rw[if_neg (by omega),if_neg (by rw[<- List.not_all_eq_any_not,hl];simp)] at h0 ⊢
  split
  ·rfl
  ·rename_i h;rw[if_neg h] at h0;exact (h0 rfl).elim
section
variable{l:List V3}{T:V3->V3}(h:Sim l T)(h48:l.length<=48)
include h h48
theorem Sim.chk:ea1 (l.map T)=ea1 l:=by
 have h1:=bd8 h48 h.li;have h2:=bd8 (l:=l.map T) (by rw[Qkp];exact h48) h.mi
 by_cases hs:Sol l
 ·rw[h1.1 hs,h2.1 ((Sim.sol h).1 hs)]
 ·rw[h1.2 hs,h2.2 λk=>hs ((Sim.sol h).2 k)]
theorem Sim.plane{p p':Pln}(hp:p∈(ga2 l).1)(ok:okp p'=true)(hd:∀v∈l,dot p'.n (T v)<=p'.b)(on:∀v∈l,dot p.n v=p.b->dot p'.n (T v)=p'.b):p'∈(ga2 (l.map T)).1:=by
 have hc:=Sim.chk h h48;unfold ga2 at hp ⊢;rw[hc];by_cases h0:ea1 l=0
 ·rw[if_pos h0] at hp ⊢;have hs:=(ga1 h0).2.2;exact Sim.img h hs ((Sim.sol h).1 hs) hp ok hd on
 ·rw[if_neg h0] at hp;cases hp
end
theorem Qd5 {r0 r1 r2 : V3} {D : Int} (h00 : dot r0 r0 = D * D) (h11 : dot r1 r1 = D * D) (h22 : dot r2 r2 = D * D) (h01 : dot r0 r1 = 0) (h02 : dot r0 r2 = 0) (h12 : dot r1 r2 = 0) (hdet : dot r0 (c7 r1 r2) ≠ 0) (n d : V3) :
  dot r0 n*dot r0 d+dot r1 n*dot r1 d+dot r2 n*dot r2 d=D*D*dot n d:=by
 have l:=λv=>Qd4 h00 h11 h22 h01 h02 h12 hdet v
 have add:∀r:V3,dot r ⟨n.x+d.x,n.y+d.y,n.z+d.z⟩=dot r n+dot r d:=λr=>by simp only[dot];grind
 have e:=l ⟨n.x+d.x,n.y+d.y,n.z+d.z⟩;have e1:=l n;have e2:=l d;have sq:dot (⟨n.x+d.x,n.y+d.y,n.z+d.z⟩:V3) ⟨n.x+d.x,n.y+d.y,n.z+d.z⟩=dot n n+2*dot n d+dot d d:=by simp only[dot];grind
 rw[sq,add,add,add] at e;generalize dot r0 n=a0 at *
 generalize dot r1 n=a1 at *
 generalize dot r2 n=a2 at *
 generalize dot r0 d=c0 at *
 generalize dot r1 d=c1 at *
 generalize dot r2 d=c2 at *
 generalize dot n n=nn at *
 generalize dot d d=dd at *
 generalize dot n d=nd at *
 generalize D*D=DD at *
 have k:2*(a0*c0+a1*c1+a2*c2)=2*(DD*nd):=by grind
 omega
structure Rot(l:List V3)(T:V3->V3)(r0 r1 r2:V3)(D:Int):Prop extends Mat l T r0 r1 r2 D where
 h00:dot r0 r0=D*D
 h11:dot r1 r1=D*D
 h22:dot r2 r2=D*D
 h01:dot r0 r1=0
 h02:dot r0 r2=0
 h12:dot r1 r2=0
section
variable{l:List V3}{T:V3->V3}{r0 r1 r2:V3}{D:Int}(h:Rot l T r0 r1 r2 D)
include h
theorem Rot.dots(n d:V3):dot r0 n*dot r0 d+dot r1 n*dot r1 d+dot r2 n*dot r2 d=D*D*dot n d :=
 Qd5 h.h00 h.h11 h.h22 h.h01 h.h02 h.h12 (by have:=h.det;omega) n d
theorem Rot.same{u w:V3}(hu:u∈l)(hw:w∈l):dot (d8 (T u) (T w)) (d8 (T u) (T w))=dot (d8 u w) (d8 u w):=by
 obtain⟨t1,t2,t3⟩:=h.t u hu w hw;have e:=Rot.dots h (d8 u w) (d8 u w);rw[<- t1,<- t2,<- t3] at e;have f:D*((T u).x-(T w).x)*(D*((T u).x-(T w).x))+D*((T u).y-(T w).y)*(D*((T u).y-(T w).y))+D*((T u).z-(T w).z)*(D*((T u).z-(T w).z))=D*D*dot (d8 (T u) (T w)) (d8 (T u) (T w)):=by simp only[dot,d8];grind
 rw[f] at e;have hd:=Qke h.d h.d;exact Qkw (by omega) e
theorem Rot.nrm{n n':V3}{g:Int}(e1:g*n'.x=dot r0 n)(e2:g*n'.y=dot r1 n)(e3:g*n'.z=dot r2 n){u w:V3}(hu:u∈l)(hw:w∈l):g*(dot n' (T u)-dot n' (T w))=D*(dot n u-dot n w):=by
 obtain⟨t1,t2,t3⟩:=h.t u hu w hw;have e:=Rot.dots h n (d8 u w);rw[<- t1,<- t2,<- t3,<- e1,<- e2,<- e3,A3] at e;have f:g*n'.x*(D*((T u).x-(T w).x))+g*n'.y*(D*((T u).y-(T w).y))+g*n'.z*(D*((T u).z-(T w).z))=D*(g*(dot n' (T u)-dot n' (T w))):=by simp only[dot];grind
 rw[f,Qkan] at e;exact Qkw (by have:=h.d;omega) e
theorem Rot.plane (hl : l.all inV = true) (hm : (l.map T).all inV = true) (h48 : l.length ≤ 48) {p p' : Pln} {g : Int} (hp : p ∈ (ga2 l).1) (ok : okp p' = true) (hg : 0 < g) (e1 : g * p'.n.x = dot r0 p.n) (e2 : g * p'.n.y = dot r1 p.n) (e3 : g * p'.n.z = dot r2 p.n)
  {u:V3} (hu:u∈l) (on:dot p.n u=p.b) (on':dot p'.n (T u)=p'.b):p'∈(ga2 (l.map T)).1:=by
 have hs:=ee7 h.toMat hl hm;have hf:Ba4 l p:=by
  unfold ga2 at hp;by_cases h0:ea1 l=0
  ·rw[if_pos h0] at hp;exact (F8 hl p).1 hp
  ·rw[if_neg h0] at hp;cases hp
 have hd:=h.d;refine Sim.plane hs h48 hp ok (λv hv=>?_) λv hv hv'=>?_
 ·have e:=Rot.nrm h e1 e2 e3 hv hu;have k:=ld4 hd (show dot p.n v-dot p.n u<=0 by have:=hf.hd v hv;omega)
  apply Qka;intro hno
  have:=Qke hg (show 0<dot p'.n (T v)-dot p'.n (T u) by omega)
  omega
 ·have e:=Rot.nrm h e1 e2 e3 hv hu;rw[show dot p.n v-dot p.n u=0 by omega,Qkc] at e
  have:=ka5 hg e
  omega
end
section
variable{l:List V3}{T:V3->V3}{r0 r1 r2:V3}{D:Int}(h:Rot l T r0 r1 r2 D)
include h
theorem Rot.off{n n' sft:V3}{g:Int}(e1:g*n'.x=dot r0 n)(e2:g*n'.y=dot r1 n)(e3:g*n'.z=dot r2 n){u:V3}(t:D*((T u).x-sft.x)=dot r0 u/\D*((T u).y-sft.y)=dot r1 u/\D*((T u).z-sft.z)=dot r2 u):g*(dot n' (T u)-dot n' sft)=D*dot n u:=by
 obtain⟨t1,t2,t3⟩:=t;have e:=Rot.dots h n u;rw[<- t1,<- t2,<- t3,<- e1,<- e2,<- e3] at e;have f:g*n'.x*(D*((T u).x-sft.x))+g*n'.y*(D*((T u).y-sft.y))+g*n'.z*(D*((T u).z-sft.z))=D*(g*(dot n' (T u)-dot n' sft)):=by simp only[dot];grind
 rw[f,Qkan] at e;exact Qkw (by have:=h.d;omega) e
end
def crs(n a c:V3):Int:=dot n (c7 a c)
def orp(n a c v:V3):Int:=crs n (d8 c a) (d8 v a)
theorem uc3(n a c v:V3):orp n a v c=-orp n a c v:=by simp only[orp,crs,dot,c7,d8];grind
theorem ee8(n a c v:V3):orp n c v a=orp n a c v:=by simp only[orp,crs,dot,c7,d8];grind
theorem ld5(n a c v:V3):orp n a c v=crs n (d8 a v) (d8 c v):=by simp only[orp,crs,dot,c7,d8];grind
theorem ld6(n a c:V3):orp n a c c=0:=by simp only[orp,crs,dot,c7,d8];grind
theorem Qd6(n a c:V3):orp n a c a=0:=by simp only[orp,crs,dot,c7,d8];grind
theorem vb7(a c:V3):dot a c=dot c a:=by simp only[dot];grind
theorem ze5{n a c v:V3}(hn:n≠⟨0,0,0⟩)(h1:dot a n=0)(h2:dot c n=0)(h3:dot v n=0):dot a (c7 c v)=0:=by
 apply Qka;intro h;exact hn (Ta0 (p:=⟨a,0⟩) (q:=⟨c,0⟩) (s:=⟨v,0⟩) h h1 h2 h3)
theorem Gc3 {n m a c v : V3} (hn : n ≠ ⟨0, 0, 0⟩) (h1 : dot a n = 0) (h2 : dot c n = 0) (h3 : dot v n = 0) (m1 : dot m a < 0) (m2 : dot m c < 0) (m3 : dot m v < 0)
  (c1:0<crs n a c) (c2:0<crs n c v):0<crs n a v:=by
 have e:crs n c v*dot m a+crs n v a*dot m c+crs n a c*dot m v=dot a (c7 c v)*dot m n:=by simp only[crs,dot,c7];grind
 rw[ze5 hn h1 h2 h3,Qkm] at e;have k1:=Qki c2 m1;have k2:=Qki c1 m3;have k3:0<crs n v a*dot m c:=by omega
 have k4:crs n v a<0:=by
  apply Qka;intro hno
  have:=Qkg (show 0<=crs n v a by omega) (show 0<=-dot m c by omega)
  rw[Qkv] at this;omega
 have:crs n a v=-crs n v a:=by simp only[crs,dot,c7];grind
 omega
theorem ee9{n a c:V3}(hn:n≠⟨0,0,0⟩)(h1:dot n a=0)(h2:dot n c=0)(h:crs n a c=0):c7 a c=⟨0,0,0⟩:=by
 apply Qka;intro hne;have hp:=ma4 (d:=n) (pa2 h1 h2);rw[show dot n (c7 a c)=0 from h,Qkm] at hp
 rcases Qkd.1 hp with e|e
 ·have:=Z8 hne;omega
 ·have:=Z8 hn;omega
theorem Wb2{a c m:V3}(h:c7 a c=⟨0,0,0⟩)(m':V3):dot m c*dot m' a=dot m a*dot m' c:=by
 have e:dot m c*dot m' a-dot m a*dot m' c=-dot (c7 m m') (c7 a c):=by simp only[dot,c7];grind
 rw[h] at e;have z:dot (c7 m m') ⟨0,0,0⟩=0:=by simp[dot]
 rw[z] at e;omega
theorem ra3(m a c:V3):dot m (d8 a c)=dot m a-dot m c:=by simp only[dot,d8];grind
theorem ze6(n a c:V3):dot (d8 a c) n=dot n a-dot n c:=by simp only[dot,d8];grind
def Hi(X:List V3)(v m:V3):Prop:=∀w∈X,w≠v->dot m w<dot m v
theorem fe0 {X : List V3} (hX : ∀ v ∈ X, ∃ m, Hi X v m) {n a c v : V3} {k : Int} (hn : n ≠ ⟨0, 0, 0⟩) (ha : a ∈ X) (hc : c ∈ X) (hv : v ∈ X) (pa : dot n a = k) (pc : dot n c = k) (pv : dot n v = k)
  (h1:a≠c) (h2:a≠v) (h3:c≠v):orp n a c v≠0:=by
 intro h;have hz:=ee9 hn (by rw[ra3];omega) (by rw[ra3];omega) h
 obtain⟨m1,k1⟩:=hX a ha;obtain⟨m2,k2⟩:=hX c hc;obtain⟨m3,k3⟩:=hX v hv;have a1:=k1 c hc (Ne.symm h1);have a2:=k1 v hv (Ne.symm h2);have b1:=k2 a ha h1;have b2:=k2 v hv (Ne.symm h3);have c1:=k3 a ha h2;have c2:=k3 c hc h3;have e2:=Wb2 (m:=m1) hz m2;have e3:=Wb2 (m:=m1) hz m3;rw[ra3,ra3,ra3,ra3] at e2 e3;obtain⟨r,hr⟩:∃r,r=dot m1 a-dot m1 v:=⟨_,rfl⟩;obtain⟨s,hs⟩:∃s,s=dot m1 a-dot m1 c:=⟨_,rfl⟩;obtain⟨x2,hx2⟩:∃x,x=dot m2 c-dot m2 a:=⟨_,rfl⟩;obtain⟨y2,hy2⟩:∃x,x=dot m2 v-dot m2 a:=⟨_,rfl⟩;obtain⟨x3,hx3⟩:∃x,x=dot m3 c-dot m3 a:=⟨_,rfl⟩;obtain⟨y3,hy3⟩:∃x,x=dot m3 v-dot m3 a:=⟨_,rfl⟩;rw[show dot m1 v-dot m1 a=-r by omega,show dot m1 c-dot m1 a=-s by omega,<- hx2,<- hy2,Qkl,Qkl] at e2
 rw[show dot m1 v-dot m1 a=-r by omega,show dot m1 c-dot m1 a=-s by omega,<- hx3,<- hy3,Qkl,Qkl] at e3
 have r0:0<r:=by omega
 have s0:0<s:=by omega
 have p1:0<x2:=by omega
 have p2:y2<x2:=by omega
 have p3:0<y3:=by omega
 have p4:x3<y3:=by omega
 have q2:r*x2=s*y2:=by omega
 have q3:r*x3=s*y3:=by omega
 have hrs:r<s:=by
  apply Qka;intro hno;have t1:s*y2<s*x2:=Qkaf p2 s0;have t2:s*x2<=r*x2:=Qkq (by omega) (by omega)
  omega
 have t1:r*y3<s*y3:=Int.mul_lt_mul_of_pos_right hrs p3;have t2:r*x3<r*y3:=Qkaf p4 r0;omega
structure Rim(X C:List V3)(n:V3)(k:Int):Prop where
 n0:n≠⟨0,0,0⟩
 hx:∀v∈X,∃m,Hi X v m
 sub:∀c∈C,c∈X/\dot n c=k
 nd:C.Nodup
 two:2<=C.length
def Edg(C:List V3)(n a c:V3):Prop:=a∈C/\c∈C/\a≠c/\∀v∈C,v≠a->v≠c->0<orp n a c v
def nxF(n a:V3):List V3->V3->V3
 |[],best=>best
 |w::l,best=>if (!eqV w a&&(eqV best a||decide (orp n a best w<0)))=true then nxF n a l w else nxF n a l best
def nxt(C:List V3)(n a:V3):V3:=nxF n a C a
theorem Edg.out{C:List V3}{n a c d:V3}(h1:Edg C n a c)(h2:Edg C n a d):c=d:=by
 apply Qka;intro hne;have e1:=h1.2.2.2 d h2.2.1 (Ne.symm h2.2.2.1) (Ne.symm hne);have e2:=h2.2.2.2 c h1.2.1 (Ne.symm h1.2.2.1) hne;rw[uc3] at e2;omega
theorem Edg.inn{C:List V3}{n a c d:V3}(h1:Edg C n a c)(h2:Edg C n d c):a=d:=by
 apply Qka;intro hne;have e1:=h1.2.2.2 d h2.1 (Ne.symm hne) h2.2.2.1;have e2:=h2.2.2.2 a h1.1 hne h1.2.2.1;rw[ee8,uc3] at e2;omega
section
variable{X C:List V3}{n:V3}{k:Int}(h:Rim X C n k)
include h
theorem Rim.perp{a c:V3}(ha:a∈C)(hc:c∈C):dot (d8 a c) n=0:=by
 rw[ze6,(h.sub a ha).2,(h.sub c hc).2,Qky]
theorem Rim.orp_tr{a c v w:V3}(ha:a∈C)(hc:c∈C)(hv:v∈C)(hw:w∈C)(ca:c≠a)(va:v≠a)(wa:w≠a)(h1:0<orp n a c v)(h2:0<orp n a v w):0<orp n a c w:=by
 obtain⟨m,hm⟩:=h.hx a (h.sub a ha).1;have m1:=hm c (h.sub c hc).1 ca;have m2:=hm v (h.sub v hv).1 va;have m3:=hm w (h.sub w hw).1 wa;exact Gc3 (m:=m) h.n0 (h.perp hc ha) (h.perp hv ha) (h.perp hw ha) (by rw[ra3];omega) (by rw[ra3];omega) (by rw[ra3];omega) h1 h2
theorem Rim.ne0{a c v:V3}(ha:a∈C)(hc:c∈C)(hv:v∈C)(h1:a≠c)(h2:a≠v)(h3:c≠v):orp n a c v≠0 :=
 fe0 h.hx h.n0 (h.sub a ha).1 (h.sub c hc).1 (h.sub v hv).1 (h.sub a ha).2 (h.sub c hc).2 (h.sub v hv).2 h1 h2 h3
def Fnd(D:List V3)(n a best:V3):Prop:=(best=a/\∀c∈D,c=a)\/(best∈D/\best≠a/\∀c∈D,c≠a->c≠best->0<orp n a best c)
theorem Rim.fnd{a:V3}(ha:a∈C):∀(l D:List V3) (best:V3),(∀x∈D,x∈C)->(∀x∈l,x∈C)->Fnd D n a best->Fnd (D++l) n a (nxF n a l best)
 |[],D,best,_,_,hf=>by rw[Qkab];exact hf
 |w::l,D,best,hD,hl,hf=>by
  have hw:=hl w (by simp)
  have rec':=λb hb=>Rim.fnd ha l (D++[w]) b (λx hx=>(Qkk.1 hx).elim (hD x) λe=>by rw[Qkh.1 e];exact hw) (λx hx=>hl x (by simp[hx])) hb
  rw[List.append_assoc] at rec';unfold nxF;by_cases hwa:w=a
  ·rw[if_neg (by rw[show eqV w a=true from (hb6 _ _).2 hwa];simp)]
   refine rec' best ?_
   rcases hf with⟨e,hf⟩|⟨e1,e2,hf⟩
   ·exact .inl ⟨e,λc hc=>(Qkk.1 hc).elim (hf c) λe=>(Qkh.1 e).trans hwa⟩
   ·exact .inr ⟨List.mem_append_left _ e1,e2,λc hc h1 h2=>(Qkk.1 hc).elim (λk=>hf c k h1 h2) λe=>absurd ((Qkh.1 e).trans hwa) h1⟩
  ·have ew : eqV w a = false := by
    cases hq:eqV w a with
    |false=>rfl
    |true=>exact absurd ((hb6 _ _).1 hq) hwa
   rcases hf with⟨e,hf⟩|⟨e1,e2,hf⟩
   ·rw[if_pos (by rw[ew,(hb6 _ _).2 e];rfl)]
    refine rec' w (.inr ⟨by simp,hwa,λc hc h1 h2=>?_⟩)
    rcases Qkk.1 hc with k|k
    ·exact absurd (hf c k) h1
    ·exact absurd (Qkh.1 k) h2
   ·have eb : eqV best a = false := by
     cases hq:eqV best a with
     |false=>rfl
     |true=>exact absurd ((hb6 _ _).1 hq) e2
    have hb:=hD best e1;by_cases ho:orp n a best w<0
    ·rw[if_pos (by rw[ew,eb,decide_eq_true ho];rfl)]
     have o1:0<orp n a w best:=by rw[uc3];omega
     refine rec' w (.inr ⟨by simp,hwa,λc hc h1 h2=>?_⟩)
     rcases Qkk.1 hc with k|k
     ·by_cases hcb:c=best
      ·rw[hcb];exact o1
      ·exact h.orp_tr ha hw hb (hD c k) hwa e2 h1 o1 (hf c k h1 hcb)
     ·exact absurd (Qkh.1 k) h2
    ·rw[if_neg (by rw[ew,eb,decide_eq_false ho];simp)]
     refine rec' best (.inr ⟨List.mem_append_left _ e1,e2,λc hc h1 h2=>?_⟩)
     rcases Qkk.1 hc with k|k
     ·exact hf c k h1 h2
     ·rw[Qkh.1 k] at h2 ⊢
      have:=h.ne0 ha hb hw (Ne.symm e2) (Ne.symm hwa) (Ne.symm h2)
      omega
theorem Rim.other(a:V3):∃c∈C,c≠a:=by
 apply Qka;intro hno
 have:C.length<=[a].length:=List.Nodup.length_le_of_subset h.nd λc hc=>by
  have:c=a:=Qka λhne=>hno ⟨c,hc,hne⟩
  simp[this]
 have:=h.two
 simp only[List.length_singleton] at *
 omega
theorem Rim.nx{a:V3}(ha:a∈C):Edg C n a (nxt C n a):=by
 have hf:=h.fnd ha C [] a (λx hx=>by cases hx) (λx hx=>hx) (.inl ⟨rfl,λc hc=>by cases hc⟩)
 rw[List.nil_append] at hf;obtain⟨c,hc,hca⟩:=h.other a
 rcases hf with⟨_,hf⟩|⟨e1,e2,hf⟩
 ·exact absurd (hf c hc) hca
 ·exact⟨ha,e1,Ne.symm e2,hf⟩
theorem Rim.nx_mem{a:V3}(ha:a∈C):nxt C n a∈C:=(h.nx ha).2.1
theorem Rim.nx_inj{a c:V3}(ha:a∈C)(hc:c∈C)(e:nxt C n a=nxt C n c):a=c:=(h.nx ha).inn (e ▸ h.nx hc)
theorem Rim.edg_iff{a c:V3}(ha:a∈C):Edg C n a c↔c=nxt C n a:=⟨λhe=>he.out (h.nx ha),λe=>e ▸ h.nx ha⟩
def itr(C:List V3)(n a:V3):Nat->V3
 |0=>a
 |i+1=>nxt C n (itr C n a i)
theorem Rim.it_mem{a:V3}(ha:a∈C):∀i,itr C n a i∈C
 |0=>ha
 |i+1=>h.nx_mem (Rim.it_mem ha i)
theorem Rim.it_back{a:V3}(ha:a∈C):∀i j,itr C n a i=itr C n a (i+j)->a=itr C n a j
 |0,j,e=>by rw[Nat.zero_add] at e;exact e
 |i+1,j,e=>Rim.it_back ha i j (by
  rw[Nat.add_right_comm] at e;exact h.nx_inj (h.it_mem ha i) (h.it_mem ha (i+j)) e)
theorem Rim.it_ret{a:V3}(ha:a∈C){m:Nat}(hm:0<m)(e:itr C n a m=a):∀x∈C,∃i,i<m/\itr C n a i=x:=λx hx=>by
 apply Qka;intro hno;have hne:∀i,i<=m->itr C n a i≠x:=λi hi he=>by
  by_cases k:i<m
  ·exact hno ⟨i,k,he⟩
  ·have:i=m:=by omega
   subst this;exact hno ⟨0,hm,by rw[<- he,e];rfl⟩
 obtain⟨w,hw⟩:=h.hx x (h.sub x hx).1;have hlow:∀i,i<=m->dot w (d8 (itr C n a i) x)<0:=λi hi=>by
  have:=hw _ (h.sub _ (h.it_mem ha i)).1 (hne i hi)
  rw[ra3];omega
 have hstep:∀i,i+1<=m->0<crs n (d8 (itr C n a i) x) (d8 (itr C n a (i+1)) x):=λi hi=>by
  rw[<- ld5];exact (h.nx (h.it_mem ha i)).2.2.2 x hx (Ne.symm (hne i (by omega))) (Ne.symm (hne (i+1) hi))
 have key:∀j,j+1<=m->0<crs n (d8 (itr C n a 0) x) (d8 (itr C n a (j+1)) x):=λj=>by
  induction j with
  |zero=>exact hstep 0
  |succ j ih=>exact λhj=>Gc3 (m:=w) h.n0 (h.perp (h.it_mem ha _) hx) (h.perp (h.it_mem ha _) hx) (h.perp (h.it_mem ha _) hx) (hlow 0 (by omega)) (hlow (j+1) (by omega)) (hlow (j+2) hj) (ih (by omega)) (hstep (j+1) hj)
 have:=key (m-1) (by omega)
 rw[show m-1+1=m by omega,e] at this
 have z:crs n (d8 a x) (d8 a x)=0:=by simp only[crs,dot,c7,d8];grind
 have:0<crs n (d8 a x) (d8 a x):=this
 omega
theorem Rim.it_len{a:V3}(ha:a∈C){m:Nat}(hm:0<m)(e:itr C n a m=a):C.length<=m:=by
 have:=List.Nodup.length_le_of_subset h.nd (l₂:=(List.range m).map (itr C n a)) λx hx=>by
  obtain⟨i,hi,rfl⟩:=h.it_ret ha hm e x hx;exact Qkb.2 ⟨i,Qkam.2 hi,rfl⟩
 rw[Qkp,Qkag] at this;exact this
theorem Rim.it_nd{a:V3}(ha:a∈C):((List.range C.length).map (itr C n a)).Nodup:=by
 unfold List.Nodup;rw[List.pairwise_map];refine List.Pairwise.imp_of_mem (λ{i j} hi hj hij e=>?_) List.pairwise_lt_range
 have hj':=Qkam.1 hj
 have:=h.it_back ha i (j-i) (by rw[show i+(j-i)=j by omega];exact e)
 have:=h.it_len ha (m:=j-i) (by omega) this.symm
 omega
theorem Rim.it_perm{a:V3}(ha:a∈C):((List.range C.length).map (itr C n a)).Perm C:=by
 refine uc1 (h.it_nd ha) h.nd (λx hx=>?_) (by rw[Qkp,Qkag];exact Nat.le_refl _)
 obtain⟨i,_,rfl⟩:=Qkb.1 hx;exact h.it_mem ha i
theorem Rim.it_end{a:V3}(ha:a∈C):itr C n a C.length=a:=by
 have:=(h.it_perm ha).mem_iff.2 (h.it_mem ha C.length)
 obtain⟨i,hi,e⟩:=Qkb.1 this;have hi:=Qkam.1 hi;have hb:=h.it_back ha i (C.length-i) (by rw[show i+(C.length-i)=C.length by omega];exact e)
 have:=h.it_len ha (m:=C.length-i) (by omega) hb.symm
 have:i=0:=by omega
 subst this;exact e.symm
theorem Rim.nx_perm:(C.map (nxt C n)).Perm C:=by
 refine uc1 ?_ h.nd (λx hx=>?_) (by rw[Qkp];exact Nat.le_refl _)
 ·unfold List.Nodup;rw[List.pairwise_map];exact List.Pairwise.imp_of_mem (λ{a c} ha hc hne e=>hne (h.nx_inj ha hc e)) h.nd
 ·obtain⟨a,ha,rfl⟩:=Qkb.1 hx;exact h.nx_mem ha
theorem Rim.sig_nx(f:V3->Int):sig C (λa=>f (nxt C n a))=sig C f:=by rw[<- vb6 (nxt C n) f,Ob5 h.nx_perm]
theorem Rim.sig_it(f:V3->Int){a:V3}(ha:a∈C):sig C f=sig (List.range C.length) (λi=>f (itr C n a i)):=by rw[<- vb6 (itr C n a) f,Ob5 (h.it_perm ha)]
end
def AR(C:List V3)(n d:V3):Int:=sig C λa=>dot (c7 a (nxt C n a)) d
def D3(a c v:V3):Int:=dot (c7 a c) v
theorem uc4(C:List V3)(n d e:V3):AR C n (d8 d e)=AR C n d-AR C n e:=by
 unfold AR;rw[<- Ob3];exact K3 λa _=>ra3 _ _ _
theorem Qd7(C:List V3)(n d:V3)(k:Int):AR C n ⟨k*d.x,k*d.y,k*d.z⟩=k*AR C n d:=by
 unfold AR;rw[<- ic8];exact K3 λa _=>by simp only[dot];grind
section
variable{X C:List V3}{n:V3}{k:Int}(h:Rim X C n k)
include h
theorem Rim.ar_o(o d:V3):sig C (λa=>D3 (d8 a o) (d8 (nxt C n a) o) d)=AR C n d:=by
 have e:∀a c:V3,D3 (d8 a o) (d8 c o) d=dot (c7 a c) d-(dot (c7 o c) d-dot (c7 o a) d):=λa c=>by simp only[D3,dot,c7,d8];grind
 have h1:sig C (λa=>D3 (d8 a o) (d8 (nxt C n a) o) d)=sig C (λa=>dot (c7 a (nxt C n a)) d-(dot (c7 o (nxt C n a)) d-dot (c7 o a) d)):=K3 λa _=>e a _
 rw[h1,Ob3,Ob3,h.sig_nx (λc=>dot (c7 o c) d)]
 show AR C n d-_=_;omega
theorem Rim.ne:∃a,a∈C:=by
 obtain⟨c,hc,_⟩:=h.other ⟨0,0,0⟩;exact⟨c,hc⟩
theorem Rim.ar_perp{d:V3}(hd:dot d n=0):AR C n d=0:=by
 obtain⟨o,ho⟩:=h.ne;rw[<- h.ar_o o d];refine Ha6 λa ha=>?_
 have:=ze5 h.n0 hd (h.perp ha ho) (h.perp (h.nx_mem ha) ho)
 rw[show D3 (d8 a o) (d8 (nxt C n a) o) d=dot d (c7 (d8 a o) (d8 (nxt C n a) o)) from vb7 _ _]
 exact this
theorem Rim.ar_n(d:V3):dot n n*AR C n d=dot n d*AR C n n:=by
 have e:AR C n (d8 ⟨dot n n*d.x,dot n n*d.y,dot n n*d.z⟩ ⟨dot n d*n.x,dot n d*n.y,dot n d*n.z⟩)=0:=h.ar_perp (by simp only[dot,d8];grind)
 rw[uc4,Qd7,Qd7] at e;omega
theorem Rim.ar_pos(h3:3<=C.length):0<AR C n n:=by
 obtain⟨o,ho⟩:=h.ne;rw[<- h.ar_o o n];have term:∀a∈C,D3 (d8 a o) (d8 (nxt C n a) o) n=orp n a (nxt C n a) o:=λa _=>by rw[ld5];simp only[D3,crs];exact vb7 _ _
 have nn:∀a∈C,0<=D3 (d8 a o) (d8 (nxt C n a) o) n:=λa ha=>by
  rw[term a ha];by_cases e1:o=a
  ·rw[e1,Qd6];exact Qkr _
  ·by_cases e2:o=nxt C n a
   ·rw[<- e2,ld6];exact Qkr _
   ·have:=(h.nx ha).2.2.2 o ho e1 e2;omega
 -- the corner behind the next one
 have ha:=h.nx_mem ho;have hne:o≠nxt C n o:=(h.nx ho).2.2.1;have hne2:o≠nxt C n (nxt C n o):=λe=>by
  have:=h.it_len ho (m:=2) (by omega) e.symm
  omega
 have hp:0<D3 (d8 (nxt C n o) o) (d8 (nxt C n (nxt C n o)) o) n:=by
  rw[term _ ha];exact (h.nx ha).2.2.2 o ho hne hne2
 have hsum:∀(l:List V3),(∀a∈l,0<=D3 (d8 a o) (d8 (nxt C n a) o) n)->nxt C n o∈l->0<sig l (λa=>D3 (d8 a o) (d8 (nxt C n a) o) n):=λl=>by
  induction l with
  |nil=>intro _ hx;cases hx
  |cons x l ih =>
   intro hl hx;rw[n5];have h1:=hl x (by simp)
   have h2:0<=sig l (λa=>D3 (d8 a o) (d8 (nxt C n a) o) n):=ld3 λa ha=>hl a (by simp[ha])
   rcases Qkf.1 hx with e|hx
   ·rw[e] at hp;omega
   ·have:=ih (λa ha=>hl a (by simp[ha])) hx;omega
 exact hsum C nn ha
theorem Rim.cone(h3:3<=C.length){c:V3}(hc:dot n c=k)(o:V3):(dot n o<k->0<AR C n (d8 c o))/\(dot n o=k->AR C n (d8 c o)=0)/\(k<dot n o->AR C n (d8 c o)<0):=by
 have e:=h.ar_n (d8 c o);rw[ra3,hc] at e;have hp:=h.ar_pos h3;have hn:=Z8 h.n0;refine⟨λhk=>?_,λhk=>?_,λhk=>?_⟩
 ·have:=Qke (show 0<k-dot n o by omega) hp
  apply Qka;intro hno
  have:=Qkg (show 0<=dot n n by omega) (show 0<=-AR C n (d8 c o) by omega)
  rw[Qkv] at this;omega
 ·rw[show k-dot n o=0 by omega,Qkm] at e
  exact (Qkd.1 e).resolve_left (by omega)
 ·have:=Qke (show 0<dot n o-k by omega) hp
  apply Qka;intro hno;have h1:=Qkg (show 0<=dot n n by omega) (show 0<=AR C n (d8 c o) by omega)
  have:(dot n o-k)*AR C n n=-((k-dot n o)*AR C n n):=by rw[<- Qkl];congr 1;omega
  omega
theorem Rim.sum_edges(f:V3->V3->Int):sig C (λa=>sig C (λc=>@ite _ (Edg C n a c) (Classical.propDecidable _) (f a c) 0))=sig C (λa=>f a (nxt C n a)):=by
 refine K3 λa ha=>?_
 rw[Fb1 h.nd (h.nx_mem ha) λc hc hne=>?_]
 ·rw[if_pos (h.nx ha)]
 ·rw[if_neg λhe=>hne (he.out (h.nx ha))]
end
theorem Rim.fan{X C:List V3}{n:V3}{k:Int}(h:Rim X C n k){a:V3}(ha:a∈C):sig (List.range (C.length-2)) (λi=>D3 a (itr C n a (i+1)) (itr C n a (i+2)))=AR C n a:=by
 have e1:AR C n a=sig (List.range C.length) (λi=>dot (c7 (itr C n a i) (itr C n a (i+1))) a):=h.sig_it (λv=>dot (c7 v (nxt C n v)) a) ha
 rw[e1];have h2:=h.two;obtain⟨m,hm⟩:∃m,C.length=m+2:=⟨C.length-2,by omega⟩
 rw[hm,show m+2-2=m by omega]
 have hend:=h.it_end ha;rw[hm] at hend;have hr:List.range (m+2)=0::(List.range m).map (·+1)++[m+1]:=by
  rw[List.range_succ,List.range_succ_eq_map]
 rw[hr,List.cons_append,n5,ic7,vb6,n5,Wa8];have z1:dot (c7 (itr C n a 0) (itr C n a (0+1))) a=0:=by
  show dot (c7 a _) a=0;simp only[dot,c7];grind
 have z2:dot (c7 (itr C n a (m+1)) (itr C n a (m+1+1))) a=0:=by
  rw[show m+1+1=m+2 from rfl,hend]
  simp only[dot,c7];grind
 rw[z1,z2,Int.zero_add,Qkn,Qkn];exact K3 λi _=>by simp only[D3,dot,c7];grind
structure Pol(X:List V3):Prop where
 iv:X.all inV=true
 sol:Sol X
 nd:X.Nodup
 ex:∀v∈X,∃m,Hi X v m
def onF(p:Pln)(X:List V3):List V3:=X.filter λv=>decide (dot p.n v=p.b)
theorem C0{p:Pln}{X:List V3}{v:V3}:v∈onF p X↔v∈X/\dot p.n v=p.b:=by unfold onF;rw[Qkx,decide_eq_true_eq]
theorem se2(x:Int):0<=x*x:=by rw[<- Int.natAbs_mul_self];exact Int.natCast_nonneg _
theorem uc5{α:Type}(s h:α->Int):∀l:List α,l≠[]->(∀x∈l,0<h x)->∃x∈l,∀y∈l,s x*h y<=s y*h x
 |[],hn,_=>absurd rfl hn
 |[x],_,_=>⟨x,by simp,λy hy=>by rw[Qkh.1 hy];exact Qkr _⟩
 |x::y::l,_,hp=>by
  obtain⟨z,hz,hm⟩:=uc5 s h (y::l) (by simp) λa ha=>hp a (by simp only[Qkf] at ha ⊢;exact .inr ha)
  have px:=hp x (by simp)
  have pz:=hp z (by simp only[Qkf] at hz ⊢;exact .inr hz)
  by_cases hc:s z*h x<=s x*h z
  ·refine⟨z,by simp only[Qkf] at hz ⊢;exact .inr hz,λa ha=>?_⟩
   rcases Qkf.1 ha with rfl|ha
   ·exact hc
   ·exact hm a ha
  ·refine⟨x,by simp,λa ha=>?_⟩
   rcases Qkf.1 ha with rfl|ha
   ·exact Qkr _
   ·have h1:=hm a ha;have pa:=hp a (by simp only[Qkf] at ha ⊢;exact .inr ha)
    have k1:s x*h z*h a<=s z*h x*h a:=Qkq (by omega) (by omega)
    have k2:s z*h a*h x<=s a*h z*h x:=Qkq h1 (by omega)
    have k3:h z*(s x*h a)<=h z*(s a*h x):=by grind
    exact Int.le_of_mul_le_mul_left k3 pz
section
variable{X:List V3}(hX:Pol X)
include hX
theorem Pol.lens{p:Pln}(hp:Ba4 X p):3<=(onF p X).length:=by
 obtain⟨u,w,x,hu,hw,hx,h3,e1,e2,e3⟩:=hp.on;have n1:u≠w:=λe=>h3 (by subst e;refine Qkap ?_ ?_ ?_<;>simp only[N3,c7,d8]<;>grind)
 have n2:u≠x:=λe=>h3 (by subst e;refine Qkap ?_ ?_ ?_<;>simp only[N3,c7,d8]<;>grind)
 have n3:w≠x:=λe=>h3 (by subst e;refine Qkap ?_ ?_ ?_<;>simp only[N3,c7,d8]<;>grind)
 have hnd:[u,w,x].Nodup:=by simp[n1,n2,n3]
 exact List.Nodup.length_le_of_subset hnd λv hv=>by
  simp only[Qkf,Qkaa,or_false] at hv
  rcases hv with rfl|rfl|rfl
  ·exact C0.2 ⟨hu,e1⟩
  ·exact C0.2 ⟨hw,e2⟩
  ·exact C0.2 ⟨hx,e3⟩
theorem Pol.rim{p:Pln}(hp:Ba4 X p):Rim X (onF p X) p.n p.b :=
 ⟨Sa8 hp.ok,hX.ex,λc hc=>C0.1 hc,hX.nd.filter _,by have:=hX.lens hp;omega⟩
theorem Pol.third{p:Pln}(hp:Ba4 X p)(a c:V3):∃v∈onF p X,v≠a/\v≠c:=by
 apply Qka;intro hno
 have:(onF p X).length<=[a,c].length:=List.Nodup.length_le_of_subset (hX.nd.filter _) λv hv=>by
  simp only[Qkf,Qkaa,or_false];apply Qka;intro hne;exact hno ⟨v,hv,λe=>hne (.inl e),λe=>hne (.inr e)⟩
 have:=hX.lens hp
 simp only[List.length_cons,List.length_nil] at *
 omega
theorem Pol.uni{p q:Pln}(hp:Ba4 X p)(hq:Ba4 X q){a c:V3}(e1:Edg (onF p X) p.n a c)(e2:Edg (onF q X) q.n a c):p=q:=by
 obtain⟨b1,hb1,ba1,bc1⟩:=hX.third hp a c;obtain⟨b2,hb2,ba2,bc2⟩:=hX.third hq a c;have s1:=e1.2.2.2 b1 hb1 ba1 bc1;have s2:=e2.2.2.2 b2 hb2 ba2 bc2;have pa:=(C0.1 e1.1).2;have pc:=(C0.1 e1.2.1).2;have qa:=(C0.1 e2.1).2;have qc:=(C0.1 e2.2.1).2;obtain⟨x1,p1⟩:=C0.1 hb1;obtain⟨x2,q2⟩:=C0.1 hb2;have c1:=λe=>ma4 (d:=e) (pa2 (n:=p.n) (a:=d8 c a) (c:=d8 b1 a) (by rw[ra3];omega) (by rw[ra3];omega))
 have c2:=λe=>ma4 (d:=e) (pa2 (n:=q.n) (a:=d8 c a) (c:=d8 b2 a) (by rw[ra3];omega) (by rw[ra3];omega))
 have t1:0<dot p.n (c7 (d8 c a) (d8 b1 a)):=s1;have t2:0<dot q.n (c7 (d8 c a) (d8 b2 a)):=s2;have hd1:=hp.hd b2 x2;by_cases hon:dot p.n b2=p.b
 ·-- both planes go through the same mc4 corners
  have s3:0<dot p.n (c7 (d8 c a) (d8 b2 a)):=e1.2.2.2 b2 (C0.2 ⟨x2,hon⟩) ba2 bc2;have hN:(c7 (d8 c a) (d8 b2 a):V3)≠⟨0,0,0⟩:=λe=>by rw[e] at t2;simp[dot] at t2
  have c3:=λe=>ma4 (d:=e) (pa2 (n:=p.n) (a:=d8 c a) (c:=d8 b2 a) (by rw[ra3];omega) (by rw[ra3];omega))
  generalize c7 (d8 c a) (d8 b2 a)=N at *
  have hNN:=Z8 hN;have par:c7 p.n q.n=⟨0,0,0⟩:=by
   have d1:∀v:V3,dot v ⟨1,0,0⟩=v.x:=λv=>by simp[dot]
   have d2:∀v:V3,dot v ⟨0,1,0⟩=v.y:=λv=>by simp[dot]
   have d3:∀v:V3,dot v ⟨0,0,1⟩=v.z:=λv=>by simp[dot]
   have a1:=c3 ⟨1,0,0⟩;have a2:=c3 ⟨0,1,0⟩;have a3:=c3 ⟨0,0,1⟩;have f1:=c2 ⟨1,0,0⟩;have f2:=c2 ⟨0,1,0⟩;have f3:=c2 ⟨0,0,1⟩;rw[d1,d1] at a1 f1;rw[d2,d2] at a2 f2;rw[d3,d3] at a3 f3;have z:∀{t:Int},dot N N*t=0->t=0:=λe=>(Qkd.1 e).resolve_left (by omega)
   generalize dot N N=m at *
   generalize dot p.n N=x at *
   generalize dot q.n N=y at *
   refine Qkap (z (z ?_)) (z (z ?_)) (z (z ?_))
   ·have:m*(m*(c7 p.n q.n).x)=(m*p.n.y)*(m*q.n.z)-(m*p.n.z)*(m*q.n.y):=by simp only[c7];grind
    rw[this,a2,a3,f2,f3];grind
   ·have:m*(m*(c7 p.n q.n).y)=(m*p.n.z)*(m*q.n.x)-(m*p.n.x)*(m*q.n.z):=by simp only[c7];grind
    rw[this,a1,a3,f1,f3];grind
   ·have:m*(m*(c7 p.n q.n).z)=(m*p.n.x)*(m*q.n.y)-(m*p.n.y)*(m*q.n.x):=by simp only[c7];grind
    rw[this,a1,a2,f1,f2];grind
  have hn:q.n=p.n:=by
   rcases Zc6 (sc3 hp.ok) (sc3 hq.ok) par with e|e
   ·exact e
   ·rw[e] at t2
    have:dot (neg p.n) N=-dot p.n N:=by simp only[dot,neg];grind
    omega
  have hb:q.b=p.b:=by rw[<- qa,hn,pa]
  cases p;cases q
  simp only at hn hb
  rw[hn,hb]
 ·exfalso;have k1:=c1 (d8 b2 a);have h1:dot p.n (d8 b2 a)<0:=by rw[ra3];omega
  have hN1:0<dot (c7 (d8 c a) (d8 b1 a)) (c7 (d8 c a) (d8 b1 a)):=Z8 λe=>by rw[e] at t1;simp[dot] at t1
  have m1:=Qki hN1 h1;have r1:dot (c7 (d8 c a) (d8 b1 a)) (d8 b2 a)<0:=by
   apply Qka;intro hno
   have:=Qkg (show 0<=dot p.n (c7 (d8 c a) (d8 b1 a)) by omega) (show 0<=dot (c7 (d8 c a) (d8 b1 a)) (d8 b2 a) by omega)
   omega
  have k2:=c2 (d8 b1 a);have h2:dot q.n (d8 b1 a)<=0:=by rw[ra3];have:=hq.hd b1 x1;omega
  have hN2:0<dot (c7 (d8 c a) (d8 b2 a)) (c7 (d8 c a) (d8 b2 a)):=Z8 λe=>by rw[e] at t2;simp[dot] at t2
  have m2:=Qkg (show 0<=dot (c7 (d8 c a) (d8 b2 a)) (c7 (d8 c a) (d8 b2 a)) by omega) (show 0<=-dot q.n (d8 b1 a) by omega)
  rw[Qkv] at m2;have e3:dot (c7 (d8 c a) (d8 b2 a)) (d8 b1 a)=-dot (c7 (d8 c a) (d8 b1 a)) (d8 b2 a):=by simp only[dot,c7,d8];grind
  have m3:=Qke t2 (show 0<dot (c7 (d8 c a) (d8 b2 a)) (d8 b1 a) by omega)
  omega
end
section
variable{X:List V3}(hX:Pol X)
include hX
theorem Pol.rev{p:Pln}(hp:Ba4 X p){a c:V3}(he:Edg (onF p X) p.n a c):∃q,Ba4 X q/\Edg (onF q X) q.n c a:=by
 obtain⟨xa,pa⟩:=C0.1 he.1;obtain⟨xc,pc⟩:=C0.1 he.2.1;obtain⟨b1,hb1,ba1,bc1⟩:=hX.third hp a c;obtain⟨xb,pb⟩:=C0.1 hb1;have sb:=he.2.2.2 b1 hb1 ba1 bc1
 -- the points off the plane
 obtain⟨v0,hv0,hne⟩:=hX.sol.off (Sa8 hp.ok) p.b;have hle:=hp.hd;have hY:X.filter (λv=>decide (dot p.n v<p.b))≠[]:=λe=>by
  have:v0∈X.filter (λv=>decide (dot p.n v<p.b)):=Qkx.2 ⟨hv0,decide_eq_true (by have:=hle v0 hv0;omega)⟩
  rw[e] at this;cases this
 obtain⟨z,hz,hmin⟩:=uc5 (λv=>orp p.n a c v) (λv=>p.b-dot p.n v) _ hY λv hv=>by
  have:=of_decide_eq_true (Qkx.1 hv).2
  omega
 obtain⟨xz,hz'⟩:=Qkx.1 hz;have hzb:=of_decide_eq_true hz';have hmin':∀v∈X,dot p.n v<p.b->orp p.n a c z*(p.b-dot p.n v)<=orp p.n a c v*(p.b-dot p.n z):=λv hv hlt=>hmin v (Qkx.2 ⟨hv,decide_eq_true hlt⟩)
 clear hmin
 obtain⟨S,hS⟩:∃S,S=orp p.n a c z:=⟨_,rfl⟩;obtain⟨H,hH⟩:∃H,H=p.b-dot p.n z:=⟨_,rfl⟩;rw[<- hS,<- hH] at hmin';have hH0:0<H:=by omega
 -- how far a point pe2 within,and below
 have hs0:∀v∈X,dot p.n v=p.b->0<=orp p.n a c v:=λv hv on=>by
  by_cases e1:v=a
  ·rw[e1,Qd6];exact Qkr _
  ·by_cases e2:v=c
   ·rw[e2,ld6];exact Qkr _
   ·have:=he.2.2.2 v (C0.2 ⟨hv,on⟩) e1 e2;omega
 obtain⟨u,hu⟩:∃u:V3,u=c7 p.n (d8 c a):=⟨_,rfl⟩;obtain⟨m,hm⟩:∃m:V3,m=⟨-(H*u.x)-S*p.n.x,-(H*u.y)-S*p.n.y,-(H*u.z)-S*p.n.z⟩:=⟨_,rfl⟩;have hsv:∀v,orp p.n a c v=dot u (d8 v a):=λv=>by rw[hu];simp only[orp,crs,dot,c7,d8];grind
 have hmv:∀v,dot m v-dot m a=-(H*orp p.n a c v)+S*(p.b-dot p.n v):=λv=>by
  rw[hsv,hm,<- pa];simp only[dot,d8];grind
 have hma:∀v∈X,dot m v<=dot m a:=λv hv=>by
  have e:=hmv v;by_cases hlt:dot p.n v<p.b
  ·have:=hmin' v hv hlt
   have:orp p.n a c v*H=H*orp p.n a c v:=Int.mul_comm _ _
   omega
  ·have on:dot p.n v=p.b:=by have:=hle v hv;omega
   have:=Qkg (show 0<=H by omega) (hs0 v hv on)
   rw[show p.b-dot p.n v=0 by omega,Qkc] at e
   omega
 have hmc:dot m c=dot m a:=by
  have e:=hmv c;rw[ld6,Qkc,show p.b-dot p.n c=0 by omega,Qkc] at e
  omega
 have hmz:dot m z=dot m a:=by
  have e:=hmv z;rw[<- hS,<- hH,Int.mul_comm H S] at e;omega
 have hmb:dot m b1<dot m a:=by
  have e:=hmv b1
  have:=Qke hH0 sb
  rw[show p.b-dot p.n b1=0 by omega,Qkc] at e
  omega
 have hdne:d8 c a≠⟨0,0,0⟩:=λe=>he.2.2.1 (by
  simp only[d8,V3.mk.injEq] at e;obtain⟨k1,k2,k3⟩:=e;exact Qkap (by omega) (by omega) (by omega))
 have hdd:=Z8 hdne;have hN3:N3 a c z≠⟨0,0,0⟩:=λe=>by
  have:=Wb2 (m:=d8 c a) (show c7 (d8 c a) (d8 z a)=⟨0,0,0⟩ from e) p.n
  rw[ra3 p.n c a,show dot p.n c-dot p.n a=0 by omega,Qkc,ra3 p.n z a] at this
  have:=(Qkd.1 this.symm).resolve_left (by omega)
  omega
 obtain⟨q,hq,qa,qc,qz⟩:=Pc1 hX.iv (n:=m) xa xc xz hN3 hma hmc hmz ⟨b1,xb,by omega⟩
 -- the plane's normal pe2 along m
 have hmne:m≠⟨0,0,0⟩:=λe=>by rw[e] at hmb;simp[dot] at hmb
 have hmm:=Z8 hmne;have hpar:c7 q.n m=⟨0,0,0⟩:=by
  have k1:c7 q.n (N3 a c z)=⟨0,0,0⟩:=pa2 (by rw[ra3];omega) (by rw[ra3];omega)
  have k2:c7 m (N3 a c z)=⟨0,0,0⟩:=pa2 (by rw[ra3];omega) (by rw[ra3];omega)
  have c1:=λe=>ma4 (d:=e) k1
  have c2:=λe=>ma4 (d:=e) k2
  have hNN:=Z8 hN3;generalize N3 a c z=N at *
  have d1:∀v:V3,dot v ⟨1,0,0⟩=v.x:=λv=>by simp[dot]
  have d2:∀v:V3,dot v ⟨0,1,0⟩=v.y:=λv=>by simp[dot]
  have d3:∀v:V3,dot v ⟨0,0,1⟩=v.z:=λv=>by simp[dot]
  have a1:=c1 ⟨1,0,0⟩;have a2:=c1 ⟨0,1,0⟩;have a3:=c1 ⟨0,0,1⟩;have f1:=c2 ⟨1,0,0⟩;have f2:=c2 ⟨0,1,0⟩;have f3:=c2 ⟨0,0,1⟩;rw[d1,d1] at a1 f1;rw[d2,d2] at a2 f2;rw[d3,d3] at a3 f3;have w:∀{t:Int},dot N N*t=0->t=0:=λe=>(Qkd.1 e).resolve_left (by omega)
  clear hmv hm hu hsv
  generalize dot N N=g at *
  generalize dot q.n N=x at *
  generalize dot m N=y at *
  refine Qkap (w (w ?_)) (w (w ?_)) (w (w ?_))
  ·have:g*(g*(c7 q.n m).x)=(g*q.n.y)*(g*m.z)-(g*q.n.z)*(g*m.y):=by simp only[c7];grind
   rw[this,a2,a3,f2,f3];grind
  ·have:g*(g*(c7 q.n m).y)=(g*q.n.z)*(g*m.x)-(g*q.n.x)*(g*m.z):=by simp only[c7];grind
   rw[this,a1,a3,f1,f3];grind
  ·have:g*(g*(c7 q.n m).z)=(g*q.n.x)*(g*m.y)-(g*q.n.y)*(g*m.x):=by simp only[c7];grind
   rw[this,a1,a2,f1,f2];grind
 have hq2:=λe=>ma4 (d:=e) hpar
 have hk:0<dot q.n m:=by
  have e:=hq2 (d8 b1 a);rw[ra3,ra3] at e;have h1:dot q.n b1-dot q.n a<=0:=by have:=hq.hd b1 xb;omega
  apply Qka;intro hno;have t1:=Qkg (show 0<=dot m m by omega) (show 0<=-(dot q.n b1-dot q.n a) by omega)
  rw[Qkv] at t1;have t2:=Qkg (show 0<=-dot q.n m by omega) (show 0<=-(dot m b1-dot m a) by omega)
  rw[Int.neg_mul_neg] at t2;have t3:dot q.n m*(dot m b1-dot m a)=0:=by omega
  rcases Qkd.1 t3 with t3|t3
  ·have e':=hq2 q.n;rw[t3,Qkm] at e'
   have:=Z8 (Sa8 hq.ok)
   rcases Qkd.1 e' with r|r<;>omega
  ·omega
 refine⟨q,hq,C0.2 ⟨xc,qc⟩,C0.2 ⟨xa,qa⟩,Ne.symm he.2.2.1,λv hv n1 n2=>?_⟩
 obtain⟨xv,qv⟩:=C0.1 hv;have e:=hq2 (c7 (d8 a c) (d8 v c))
 -- how the mc4 points turn,seen along m
 have em:H*dot m (c7 (d8 a c) (d8 v c))=(p.b-dot p.n v)*(H*H*dot (d8 c a) (d8 c a)+S*S):=by
  have mv:dot m v=dot m a:=by
   have e':=hq2 (d8 v a);rw[ra3,ra3,show dot q.n v-dot q.n a=0 by omega,Qkc] at e'
   have:=(Qkd.1 e'.symm).resolve_left (by omega)
   omega
  have r1:H*orp p.n a c v=S*(p.b-dot p.n v):=by have:=hmv v;omega
  have r2:dot m (c7 (d8 a c) (d8 v c))=H*((p.b-dot p.n v)*dot (d8 c a) (d8 c a))+S*orp p.n a c v:=by
   have nd:dot p.n (d8 c a)=0:=by rw[ra3];omega
   have r3:dot m (c7 (d8 a c) (d8 v c))=H*(dot p.n (d8 c a)*dot (d8 c a) (d8 v a))-H*(dot p.n (d8 v a)*dot (d8 c a) (d8 c a))+S*orp p.n a c v:=by
    have q1:dot u (c7 (d8 c a) (d8 v a))=dot p.n (d8 c a)*dot (d8 c a) (d8 v a)-dot p.n (d8 v a)*dot (d8 c a) (d8 c a):=by rw[hu];simp only[dot,c7];grind
    have q2:c7 (d8 a c) (d8 v c)=⟨-(c7 (d8 c a) (d8 v a)).x,-(c7 (d8 c a) (d8 v a)).y,-(c7 (d8 c a) (d8 v a)).z⟩:=by refine Qkap ?_ ?_ ?_<;>simp only[c7,d8]<;>grind
    have q3:orp p.n a c v=dot p.n (c7 (d8 c a) (d8 v a)):=rfl;rw[q2,q3];have q4:dot m ⟨-(c7 (d8 c a) (d8 v a)).x,-(c7 (d8 c a) (d8 v a)).y,-(c7 (d8 c a) (d8 v a)).z⟩=H*dot u (c7 (d8 c a) (d8 v a))+S*dot p.n (c7 (d8 c a) (d8 v a)):=by
     rw[hm];generalize c7 (d8 c a) (d8 v a)=w;simp only[dot];grind
    rw[q4,q1]
    grind
   rw[r3,nd,Qkm,Qkc,ra3 p.n v a,show dot p.n v-dot p.n a=-(p.b-dot p.n v) by omega]
   grind
  rw[r2];generalize dot (d8 c a) (d8 c a)=D at *
  generalize orp p.n a c v=s at *
  generalize p.b-dot p.n v=t at *
  grind
 have hpos:0<H*H*dot (d8 c a) (d8 c a)+S*S:=by
  have:=Qke (Qke hH0 hH0) hdd
  have:=se2 S
  omega
 have hv0':0<p.b-dot p.n v:=by
  apply Qka;intro hno;have on:dot p.n v=p.b:=by have:=hle v xv;omega
  have s1:=he.2.2.2 v (C0.2 ⟨xv,on⟩) n2 n1;have e':=hq2 (d8 v a);rw[ra3,ra3,show dot q.n v-dot q.n a=0 by omega,Qkc] at e'
  have mv:=(Qkd.1 e'.symm).resolve_left (by omega)
  have e2:=hmv v;rw[show p.b-dot p.n v=0 by omega,Qkc] at e2
  have:=Qke hH0 s1
  omega
 have t1:=Qke hv0' hpos;rw[<- em] at t1;have t2:0<dot m (c7 (d8 a c) (d8 v c)):=by
  apply Qka;intro hno
  have:=Qkg (show 0<=H by omega) (show 0<=-dot m (c7 (d8 a c) (d8 v c)) by omega)
  rw[Qkv] at this;omega
 have t3:=Qke hk t2;rw[<- e] at t3;show 0<dot q.n (c7 (d8 a c) (d8 v c));apply Qka;intro hno
 have:=Qkg (show 0<=dot m m by omega) (show 0<=-dot q.n (c7 (d8 a c) (d8 v c)) by omega)
 rw[Qkv] at this;omega
end
open Classical in
noncomputable def atE(X:List V3)(p:Pln)(a c:V3)(t:Int):Int:=if Edg (onF p X) p.n a c then t else 0
def ptF(p:Pln)(X:List V3):V3:=(onF p X).headD ⟨0,0,0⟩
noncomputable def V6(X:List V3)(o:V3):Int:=sig (F0 X) λp=>AR (onF p X) p.n (d8 (ptF p X) o)
section
variable{X:List V3}(hX:Pol X)
include hX
theorem Pol.mem{p:Pln}:p∈F0 X↔Ba4 X p:=F8 hX.iv p
omit hX in
theorem Qd8(X:List V3):(F0 X).Nodup:=Vb5 (Vb4 X)
theorem Pol.pt{p:Pln}(hp:Ba4 X p):ptF p X∈onF p X:=by
 have:=hX.lens hp
 unfold ptF;cases h:onF p X with
 |nil=>rw[h] at this;simp at this
 |cons a l=>simp
theorem Pol.edges{p:Pln}(hp:Ba4 X p)(f:V3->V3->Int):sig X (λa=>sig X (λc=>atE X p a c (f a c)))=sig (onF p X) (λa=>f a (nxt (onF p X) p.n a)):=by
 rw[<- (hX.rim hp).sum_edges f];unfold onF;rw[ib4];refine K3 λa ha=>?_
 split
 ·rw[ib4];refine K3 λc hc=>?_
  split
  ·rfl
  ·rename_i hn;unfold atE;rw[if_neg λhe=>hn (decide_eq_true (C0.1 he.2.1).2)]
 ·rename_i hn;refine Ha6 λc _=>?_
  unfold atE;rw[if_neg λhe=>hn (decide_eq_true (C0.1 he.1).2)]
theorem Pol.anti(f:V3->V3->Int)(hf:∀a c,f a c=-f c a):sig (F0 X) (λp=>sig X (λa=>sig X (λc=>atE X p a c (f a c))))=0:=by
 rw[Ob4];have e:sig X (λa=>sig (F0 X) (λp=>sig X (λc=>atE X p a c (f a c))))=sig X (λa=>sig X (λc=>sig (F0 X) (λp=>atE X p a c (f a c)))):=K3 λa _=>Ob4 _ _ _
 rw[e];have one:∀a c t,(∃p,p∈F0 X/\Edg (onF p X) p.n a c)->sig (F0 X) (λp=>atE X p a c t)=t:=λa c t ⟨p,hp,he⟩=>by
  rw[Fb1 (Qd8 X) hp λq hq hne=>?_]
  ·unfold atE;rw[if_pos he]
  ·unfold atE;rw[if_neg λhe'=>hne (hX.uni (hX.mem.1 hq) (hX.mem.1 hp) he' he)]
 have none:∀a c t,¬ (∃p,p∈F0 X/\Edg (onF p X) p.n a c)->sig (F0 X) (λp=>atE X p a c t)=0:=λa c t hn=>Ha6 λp hp=>by
  unfold atE;rw[if_neg λhe=>hn ⟨p,hp,he⟩]
 have turn:∀a c,(∃p,p∈F0 X/\Edg (onF p X) p.n a c)->∃p,p∈F0 X/\Edg (onF p X) p.n c a:=λa c ⟨p,hp,he⟩=>by
  obtain⟨q,hq,h⟩:=hX.rev (hX.mem.1 hp) he;exact⟨q,hX.mem.2 hq,h⟩
 refine Qd2 λa _ c _=>?_
 by_cases h:∃p,p∈F0 X/\Edg (onF p X) p.n a c
 ·rw[one a c _ h,one c a _ (turn a c h)];exact hf a c
 ·rw[none a c _ h,none c a _ λk=>h (turn c a k)]
  rfl
theorem Pol.closed(w:V3):sig (F0 X) (λp=>AR (onF p X) p.n w)=0:=by
 rw[<- hX.anti (λa c=>dot (c7 a c) w) λa c=>by simp only[dot,c7];grind]
 refine K3 λp hp=>?_
 rw[hX.edges (hX.mem.1 hp)];rfl
theorem Pol.from'(o:V3):V6 X o=sig (F0 X) λp=>AR (onF p X) p.n (ptF p X):=by
 unfold V6;have e:sig (F0 X) (λp=>AR (onF p X) p.n (d8 (ptF p X) o))=sig (F0 X) (λp=>AR (onF p X) p.n (ptF p X)-AR (onF p X) p.n o):=K3 λp _=>uc4 _ _ _ _
 rw[e,Ob3,hX.closed o,Int.sub_zero]
theorem Pol.any(o o':V3):V6 X o=V6 X o':=by rw[hX.from',hX.from']
theorem Pol.cone{p:Pln}(hp:Ba4 X p)(o:V3):(dot p.n o<p.b->0<AR (onF p X) p.n (d8 (ptF p X) o))/\(dot p.n o=p.b->AR (onF p X) p.n (d8 (ptF p X) o)=0)/\(p.b<dot p.n o->AR (onF p X) p.n (d8 (ptF p X) o)<0) :=
 (hX.rim hp).cone (hX.lens hp) (C0.1 (hX.pt hp)).2 o
theorem Pol.pos:0<V6 X ⟨0,0,0⟩:=by
 obtain⟨o,ho⟩:=hX.sol.ne;rw[hX.any _ o]
 -- some facet does not have this corner
 have nn:∀p∈F0 X,0<=AR (onF p X) p.n (d8 (ptF p X) o):=λp hp=>by
  have h:=hX.mem.1 hp;obtain⟨k1,k2,_⟩:=hX.cone h o
  have:=h.hd o ho
  by_cases e:dot p.n o=p.b
  ·rw[k2 e];exact Qkr _
  ·have:=k1 (by omega);omega
 have hx:∃p∈F0 X,dot p.n o<p.b:=by
  apply Qka;intro hno;have hall:∀p∈F0 X,dot p.n o=p.b:=λp hp=>by
   have:=(hX.mem.1 hp).hd o ho
   apply Qka;intro hne;exact hno ⟨p,hp,by omega⟩
  have hz:V6 X o=0:=Ha6 λp hp=>(hX.cone (hX.mem.1 hp) o).2.1 (hall p hp)
  -- take another corner: all cones from there count nothing either
  have hne:=ie3 hX.iv hX.sol;cases hF:F0 X with
  |nil=>exact hne hF
  |cons p l =>
   have hp:p∈F0 X:=by rw[hF];simp
   have hf:=hX.mem.1 hp;obtain⟨v,hv,hoff⟩:=hX.sol.off (Sa8 hf.ok) p.b;have hpos:0<V6 X v:=by
    unfold V6;have nn':∀q∈F0 X,0<=AR (onF q X) q.n (d8 (ptF q X) v):=λq hq=>by
     have h:=hX.mem.1 hq;obtain⟨k1,k2,_⟩:=hX.cone h v
     have:=h.hd v hv
     by_cases e:dot q.n v=q.b
     ·rw[k2 e];exact Qkr _
     ·have:=k1 (by omega);omega
    rw[hF,n5];have h1:=(hX.cone hf v).1 (by have:=hf.hd v hv;omega)
    have h2:0<=sig l λq=>AR (onF q X) q.n (d8 (ptF q X) v):=ld3 λq hq=>nn' q (by rw[hF];simp[hq])
    omega
   rw[hX.any v o,hz] at hpos;omega
 obtain⟨p,hp,hlt⟩:=hx;unfold V6;have hs:∀l:List Pln,(∀q∈l,q∈F0 X)->p∈l->0<sig l λq=>AR (onF q X) q.n (d8 (ptF q X) o):=λl=>by
  induction l with
  |nil=>intro _ h;cases h
  |cons q l ih =>
   intro hl hm;rw[n5];have h1:=nn q (hl q (by simp))
   have h2:0<=sig l λq=>AR (onF q X) q.n (d8 (ptF q X) o):=ld3 λr hr=>nn r (hl r (by simp[hr]))
   rcases Qkf.1 hm with e|hm
   ·subst e
    have:=(hX.cone (hX.mem.1 hp) o).1 hlt
    omega
   ·have:=ih (λr hr=>hl r (by simp[hr])) hm;omega
 exact hs _ (λq h=>h) hp
end
set_option maxRecDepth 100000
theorem ze7{a c:Nat}{x y:Int}(h1:Sm a x)(h2:Sm c y):Sm ((a*c:Nat):Int) (x*y):=by
 have k1:x.natAbs<=a:=by obtain⟨p,q⟩:=h1;omega
 have k2:y.natAbs<=c:=by obtain⟨p,q⟩:=h2;omega
 have k:(x*y).natAbs<=a*c:=by rw[Int.natAbs_mul];exact Nat.mul_le_mul k1 k2
 constructor<;>omega
def Sm3(n:Int)(v:V3):Prop:=Sm n v.x/\Sm n v.y/\Sm n v.z
theorem ld7{v:V3}:inV v=true↔Sm3 24 v:=ua6 v
theorem sd2{u w:V3}(hu:inV u=true)(hw:inV w=true):J8 u w=d8 u w/\Sm3 48 (d8 u w):=by
 obtain⟨⟨a1,a2⟩,⟨a3,a4⟩,a5,a6⟩:=(ua6 _).1 hu;obtain⟨⟨c1,c2⟩,⟨c3,c4⟩,c5,c6⟩:=(ua6 _).1 hw;refine⟨?_,⟨by simp only[d8];omega,by simp only[d8];omega⟩,⟨by simp only[d8];omega,by simp only[d8];omega⟩,by simp only[d8];omega,by simp only[d8];omega⟩
 unfold J8 d8;rw[J9 (by omega) (by omega),J9 (by omega) (by omega),J9 (by omega) (by omega)]
theorem bd9{a c:V3}(ha:Sm3 48 a)(hc:Sm3 48 c):A6 a c=c7 a c/\Sm3 4608 (c7 a c):=by
 have m:∀{x y:Int},Sm 48 x->Sm 48 y->-2304<=x*y/\x*y<=2304:=λh1 h2=>ze7 (a:=48) (c:=48) h1 h2
 obtain⟨a1,a2,a3⟩:=ha;obtain⟨c1,c2,c3⟩:=hc;have p1:=m a2 c3;have p2:=m a3 c2;have p3:=m a3 c1;have p4:=m a1 c3;have p5:=m a1 c2;have p6:=m a2 c1;have hs:Sm3 4608 (c7 a c):=⟨⟨by simp only[c7];omega,by simp only[c7];omega⟩,⟨by simp only[c7];omega,by simp only[c7];omega⟩,by simp only[c7];omega,by simp only[c7];omega⟩
 refine⟨?_,hs⟩;unfold A6;simp only[Mc6,jd7];obtain⟨s1,s2,s3⟩:=hs;show (⟨W (c7 a c).x,W (c7 a c).y,W (c7 a c).z⟩:V3)=c7 a c;rw[lb5 (s1.mono (by omega)),lb5 (s2.mono (by omega)),lb5 (s3.mono (by omega))]
theorem cd0{a c:V3}(ha:Sm3 4608 a)(hc:Sm3 4608 c):y5 a c=dot a c/\Sm 63700992 (dot a c):=by
 have m:∀{x y:Int},Sm 4608 x->Sm 4608 y->-21233664<=x*y/\x*y<=21233664:=λh1 h2=>ze7 (a:=4608) (c:=4608) h1 h2
 have p1:=m ha.1 hc.1;have p2:=m ha.2.1 hc.2.1;have p3:=m ha.2.2 hc.2.2;have hs:Sm 63700992 (dot a c):=by unfold dot;constructor<;>omega
 refine⟨?_,hs⟩;unfold y5;simp only[Eb3,Tb0];exact lb5 (hs.mono (by omega))
theorem Sm3.mono{n m:Int}{v:V3}(h:Sm3 n v)(hn:n<=m):Sm3 m v:=⟨Sm.mono h.1 hn,Sm.mono h.2.1 hn,Sm.mono h.2.2 hn⟩
theorem Qd9{a c v:V3}(ha:inV a=true)(hc:inV c=true)(hv:inV v=true):y5 (A6 a c) v=D3 a c v/\Sm 63700992 (D3 a c v):=by
 obtain⟨e1,e2⟩:=bd9 ((ld7.1 ha).mono (by omega)) ((ld7.1 hc).mono (by omega))
 rw[e1];exact cd0 e2 ((ld7.1 hv).mono (by omega))
theorem se3{n a c v:V3}(hn:Sm3 4608 n)(ha:inV a=true)(hc:inV c=true)(hv:inV v=true):y5 n (A6 (J8 c a) (J8 v a))=orp n a c v:=by
 obtain⟨e1,e2⟩:=sd2 hc ha;obtain⟨e3,e4⟩:=sd2 hv ha;obtain⟨e5,e6⟩:=bd9 e2 e4;rw[e1,e3,e5];exact (cd0 hn e6).1
def Rd0(C:List V3)(g:Nat->List b7):Prop:=∀k,k<C.length->g k=tV.row (gL tV C k)
section
variable{n:V3}{C:List V3}{g:Nat->List b7}(hn:Sm3 4608 n)(hg:Rd0 C g)(hC:∀c∈C,inV c=true)(hl:C.length<=1000)
include hn hg hC hl
theorem Bd2{v:V3}(hv:inV v=true):∃j,lp (M7 ⟨C.length,g,(C.length:Int),n.x,n.y,n.z,C.length,g,v.x,v.y,v.z⟩) ⟨0,v.x,v.y,v.z⟩=(1,⟨j,(nxt C n v).x,(nxt C n v).y,(nxt C n v).z⟩):=by
 suffices key:∃t s,lp (M7 ⟨C.length,g,(C.length:Int),n.x,n.y,n.z,C.length,g,v.x,v.y,v.z⟩) ⟨0,v.x,v.y,v.z⟩=(t,s)/\(t=1/\∃j,s=⟨j,(nxt C n v).x,(nxt C n v).y,(nxt C n v).z⟩) by
  obtain⟨t,s,h,rfl,j,rfl⟩:=key;exact⟨j,h⟩
 refine R2 (step:=M7 ⟨C.length,g,(C.length:Int),n.x,n.y,n.z,C.length,g,v.x,v.y,v.z⟩) (mk:=λj (b:V3)=>(⟨(j:Int),b.x,b.y,b.z⟩:n4)) C.length (λj b=>inV b=true/\nxF n v (C.drop j) b=nxt C n v) (λt s=>t=1/\∃j,s=⟨j,(nxt C n v).x,(nxt C n v).y,(nxt C n v).z⟩) (by omega)
  (λj b hj hi=>?_) (λj b hj hi=>?_) 0 v ⟨hv,rfl⟩
 ·obtain⟨hb,hi⟩:=hi;have hw:=hC _ (Ra9 tV hj);have hN:=C4 hj (show C.length<=4611686018427387904 by omega)
  have ho:=se3 (a:=v) (c:=b) (v:=gL tV C j) hn hv hb hw;have hd:C.drop j=gL tV C j::C.drop (j+1):=by
   rw[kb3 tV hj];exact List.drop_eq_getElem_cons hj
  rw[hd] at hi;unfold nxF at hi;have e1:((gL tV C j).x==v.x&&((gL tV C j).y==v.y&&((gL tV C j).z==v.z&&true)))=eqV (gL tV C j) v:=rfl;have e2:(b.x==v.x&&(b.y==v.y&&(b.z==v.z&&true)))=eqV b v:=rfl;have e3:∀u:V3,toI (hdA (tV.row u))=u.x/\toI (hdA (tlA (tV.row u)))=u.y/\toI (hdA (tlA (tlA (tV.row u))))=u.z/\(Nat.ble 3 (len (tV.row u))&&ma1 [CK.int .i64,CK.int .i64,CK.int .i64] (tV.row u))=true:=λ_=>⟨rfl,rfl,rfl,rfl⟩
  obtain⟨f1,f2,f3,f4⟩:=e3 (gL tV C j);show Nx (A2 Stp.next Stp.exit Stp.fail _ _) _ _;simp only[A2,Int.toNat_natCast,hg j hj,f1,f2,f3,f4,e1,e2,hN,i6 hj];rw[btD (o9 hj)];simp only[w6];rw[show (⟨(gL tV C j).x,(gL tV C j).y,(gL tV C j).z⟩:V3)=gL tV C j from rfl,show (⟨b.x,b.y,b.z⟩:V3)=b from rfl,show (⟨v.x,v.y,v.z⟩:V3)=v from rfl,show (⟨n.x,n.y,n.z⟩:V3)=n from rfl,ho]
  have take : ∀ c : V3, inV c = true → nxF n v (C.drop (j + 1)) c = nxt C n v → Nx (.next (⟨((j + 1 : Nat) : Int), c.x, c.y, c.z⟩ : n4)) (fun t => t = 1 ∧ ∃ j', (⟨(j : Int), b.x, b.y, b.z⟩ : n4) = ⟨j', (nxt C n v).x, (nxt C n v).y, (nxt C n v).z⟩)
    (λs=>∃c':V3,s=(⟨((j+1:Nat):Int),c'.x,c'.y,c'.z⟩:n4)/\(inV c'=true/\nxF n v (C.drop (j+1)) c'=nxt C n v)):=λc hc he=>.nx ⟨c,rfl,hc,he⟩
  cases h1:eqV (gL tV C j) v with
  |true =>
   rw[h1] at hi;exact take b hb (by simpa using hi)
  |false =>
   rw[h1] at hi;cases h2:eqV b v with
   |true =>
    rw[h2] at hi;exact take _ hw (by simpa using hi)
   |false =>
    rw[h2] at hi;by_cases h3:orp n v b (gL tV C j)<0
    ·rw[decide_eq_true h3] at hi ⊢;exact take _ hw (by simpa using hi)
    ·rw[decide_eq_false h3] at hi ⊢;exact take b hb (by simpa using hi)
 ·obtain⟨hb,hi⟩:=hi;rw[List.drop_eq_nil_of_le hj] at hi;have hi:b=nxt C n v:=hi;refine⟨1,?_,rfl,(j:Int),by rw[hi]⟩
  show A2 Stp.next Stp.exit Stp.fail _ _=_;simp only[A2];rw[bfD (A1 (by omega))]
theorem Rd1{v:V3}(hv:inV v=true):V9 ⟨n.x,n.y,n.z,C.length,g,v.x,v.y,v.z⟩=⟨1,(nxt C n v).x,(nxt C n v).y,(nxt C n v).z⟩:=by
 obtain⟨j,h⟩:=Bd2 hn hg hC hl hv;unfold V9 N6;simp only[h];rfl
end
theorem uc6(f:Nat->Int)(n:Nat):sig (List.range (n+1)) f=sig (List.range n) f+f n:=by
 rw[List.range_succ,ic7,n5,Wa8,Qkn]
theorem uc7{α:Type}{f:α->Int}{B:Nat}:∀{l:List α},(∀x∈l,Sm B (f x))->Sm ((l.length*B:Nat):Int) (sig l f)
 |[],_=>by rw[Wa8];exact⟨by simp,by simp⟩
 |x::l,h=>by
  obtain⟨h1,h2⟩:=h x (by simp)
  obtain⟨k1,k2⟩:=uc7 (l:=l) λy hy=>h y (by simp[hy])
  rw[n5,List.length_cons,Nat.succ_mul]
  constructor<;>omega
section
variable{X C:List V3}{n:V3}{k:Int}(h:Rim X C n k){g:Nat->List b7}(hn:Sm3 4608 n)(hg:Rd0 C g)(hC:∀c∈C,inV c=true)(hl:C.length<=48)
include h hn hg hC hl
theorem Rd2 {a : V3} (ha : a ∈ C) {s0 : Int} (hs : Sm 100000000000000000 s0) :
  ∃s,lp (ka2 ⟨n.x,n.y,n.z,C.length,g,((C.length-2:Nat):Int),a.x,a.y,a.z⟩) ⟨0,s0,(nxt C n a).x,(nxt C n a).y,(nxt C n a).z⟩=(1,s)/\s.e7=s0+AR C n a:=by
 rw[<- h.fan ha];have hterm:∀i,Sm 63700992 (D3 a (itr C n a (i+1)) (itr C n a (i+2))):=λi=>(Qd9 (hC a ha) (hC _ (h.it_mem ha _)) (hC _ (h.it_mem ha _))).2
 suffices key:∃t s,lp (ka2 ⟨n.x,n.y,n.z,C.length,g,((C.length-2:Nat):Int),a.x,a.y,a.z⟩) ⟨0,s0,(nxt C n a).x,(nxt C n a).y,(nxt C n a).z⟩=(t,s)/\(t=1/\s.e7=s0+sig (List.range (C.length-2)) (λi=>D3 a (itr C n a (i+1)) (itr C n a (i+2)))) by
  obtain⟨t,s,h,rfl,h2⟩:=key;exact⟨s,h,h2⟩
 refine R2 (step:=ka2 ⟨n.x,n.y,n.z,C.length,g,((C.length-2:Nat):Int),a.x,a.y,a.z⟩) (mk:=λj (q:Int×V3)=>(⟨(j:Int),q.1,q.2.x,q.2.y,q.2.z⟩:S4)) (C.length-2) (λj q=>j<=C.length-2/\q.1=s0+sig (List.range j) (λi=>D3 a (itr C n a (i+1)) (itr C n a (i+2)))/\q.2=itr C n a (j+1)) (λt s=>t=1/\s.e7=s0+sig (List.range (C.length-2)) (λi=>D3 a (itr C n a (i+1)) (itr C n a (i+2)))) (by omega)
  (λj q hj hi=>?_) (λj q hj hi=>?_) 0 (s0,nxt C n a) ⟨Qkz _,by rw[List.range_zero,Wa8,Qkn],rfl⟩
 ·obtain⟨s,v⟩:=q;obtain⟨hj',e1,e2⟩:=hi
  simp only at e1 e2
  subst e1 e2;have hN:=C4 hj (show C.length-2<=4611686018427387904 by omega)
  have hp:=Rd1 hn hg hC (by omega) (hC _ (h.it_mem ha (j+1)))
  obtain⟨hd,hdb⟩:=Qd9 (hC a ha) (hC _ (h.it_mem ha (j+1))) (hC _ (h.it_mem ha (j+2)));obtain⟨b1,b2⟩:=uc7 (l:=List.range j) (B:=63700992) λi _=>hterm i
  rw[Qkag] at b1 b2;have hsum:W (s0+sig (List.range j) (λi=>D3 a (itr C n a (i+1)) (itr C n a (i+2)))+D3 a (itr C n a (j+1)) (itr C n a (j+2)))=s0+sig (List.range (j+1)) (λi=>D3 a (itr C n a (i+1)) (itr C n a (i+2))):=by
   rw[uc6];obtain⟨d1,d2⟩:=hdb;obtain⟨c1,c2⟩:=hs;rw[J9 (by omega) (by omega)]
   omega
  show Nx (Q3 Stp.next Stp.exit Stp.fail _ _) _ _;simp only[Q3,hp,hN];rw[btD (o9 hj)];rw[show (⟨a.x,a.y,a.z⟩:V3)=a from rfl,show (⟨(itr C n a (j+1)).x,(itr C n a (j+1)).y,(itr C n a (j+1)).z⟩:V3)=itr C n a (j+1) from rfl,
   show (⟨(nxt C n (itr C n a (j+1))).x,(nxt C n (itr C n a (j+1))).y,(nxt C n (itr C n a (j+1))).z⟩:V3)=itr C n a (j+2) from rfl,hd,hsum]
  exact .nx ⟨(s0+sig (List.range (j+1)) (λi=>D3 a (itr C n a (i+1)) (itr C n a (i+2))),itr C n a (j+2)),rfl,by omega,rfl,rfl⟩
 ·obtain⟨s,v⟩:=q;obtain⟨hj',e1,e2⟩:=hi
  simp only at e1 e2
  have e:j=C.length-2:=by omega
  subst e;refine⟨1,?_,rfl,e1⟩;show Q3 Stp.next Stp.exit Stp.fail _ _=_;simp only[Q3];rw[bfD (A1 (Qku _))]
theorem ze8{a:V3}(ha:a∈C){s0:Int}(hs:Sm 100000000000000000 s0):Ma9 ⟨a.x,a.y,a.z,(C.length:Int),n.x,n.y,n.z,C.length,g,s0⟩=⟨1,s0+AR C n a⟩:=by
 obtain⟨s,h1,h2⟩:=Rd2 h hn hg hC hl ha hs;have hp:=Rd1 hn hg hC (by omega) (hC _ ha)
 have hW:W ((C.length:Int)-2)=((C.length-2:Nat):Int):=by
  have:=h.two
  rw[J9 (by omega) (by omega)];omega
 unfold Ma9 ra2;simp only[hp,hW,h1,<- h2];rfl
end
theorem ze9{p:Pln}{v:V3}(hp:okp p=true)(hv:inV v=true):(Z7 p v==0)=decide (dot p.n v=p.b):=by
 unfold Z7;rw[hp,hv];simp only[Bool.and_self,if_true];by_cases h1:dot p.n v-p.b<0
 ·rw[if_pos h1,decide_eq_false (by omega)];rfl
 ·rw[if_neg h1];by_cases h2:dot p.n v-p.b>0
  ·rw[if_pos h2,decide_eq_false (by omega)];rfl
  ·rw[if_neg h2,decide_eq_true (by omega)];rfl
theorem Bd3 (P : M8) (p : Pln) (X : List V3) (h1 : P.va8 = X) (h2 : P.md4 = (X.length : Int)) (h3 : P.n9 = p.n.x ∧ P.q8 = p.n.y ∧ P.q9 = p.n.z ∧ P.U3 = p.b) (hp : okp p = true) (hX : ∀ v ∈ X, inV v = true) (hl : X.length ≤ 1000000) :
  ∃j,lp (ka3 P) ⟨0,0,0,[]⟩=(phV (onF p X)+1,⟨phV (onF p X),j,(onF p X).length,bL tV (onF p X)⟩):=by
 suffices key:∃t s,lp (ka3 P) ⟨0,0,0,[]⟩=(t,s)/\(t=phV (onF p X)+1/\∃j,s=⟨phV (onF p X),j,(onF p X).length,bL tV (onF p X)⟩) by
  obtain⟨t,s,h,rfl,j,rfl⟩:=key;exact⟨j,h⟩
 refine R2 (step:=ka3 P) (mk:=λj (o:List V3)=>(⟨phV o,(j:Int),o.length,bL tV o⟩:o6)) X.length (λj o=>j<=X.length/\o=onF p (X.take j)) (λt s=>t=phV (onF p X)+1/\∃j,s=⟨phV (onF p X),j,(onF p X).length,bL tV (onF p X)⟩) (by omega)
  (λj o hj hi=>?_) (λj o hj hi=>?_) 0 [] ⟨Qkz _,by simp[onF]⟩
 ·obtain⟨_,hi⟩:=hi;have hN:=C4 hj (show X.length<=4611686018427387904 by omega)
  have hv:=hX _ (Ra9 tV hj);have hlen:o.length<=1000000:=by
   rw[hi];have a1:=Qks (λv=>decide (dot p.n v=p.b)) (X.take j)
   have a2:=List.length_take_le j X;unfold onF;omega
  have hT:onF p (X.take (j+1))=if dot p.n (gL tV X j)=p.b then o++[gL tV X j] else o:=by
   rw[Ma5 tV hj,hi];unfold onF;rw[List.filter_append];by_cases hc:dot p.n (gL tV X j)=p.b
   ·rw[if_pos hc,List.filter_cons,if_pos (decide_eq_true hc)];rfl
   ·rw[if_neg hc,List.filter_cons,if_neg (by rw[decide_eq_true_eq];exact hc),List.filter_nil,Qkab]
  have hside:(L4 ⟨⟨P.n9,P.q8,P.q9⟩,P.U3⟩ (gL tV X j)==0)=decide (dot p.n (gL tV X j)=p.b):=by
   rw[h3.1,h3.2.1,h3.2.2.1,h3.2.2.2];show (L4 p (gL tV X j)==0)=_;rw[Nb9,ze9 hp hv]
  clear hi
  cases o with
  |nil =>
   show Nx (Q4 Stp.next Stp.exit Stp.fail _ _) _ _;simp only[Q4,Int.toNat_natCast,h1,h2,hside,vb4,hN,i6 hj];rw[btD (o9 hj)];by_cases hc:dot p.n (gL tV X j)=p.b
   ·rw[if_pos hc] at hT;rw[decide_eq_true hc];exact Nx.nx (s:=(⟨1,((j+1:Nat):Int),1,bL tV ([]++[gL tV X j])⟩:o6)) (N:=λs=>∃o',s=(⟨phV o',((j+1:Nat):Int),o'.length,bL tV o'⟩:o6)/\(j+1<=X.length/\o'=onF p (X.take (j+1)))) ⟨[]++[gL tV X j],rfl,by omega,hT.symm⟩
   ·rw[if_neg hc] at hT;rw[decide_eq_false hc];exact Nx.nx (s:=(⟨0,((j+1:Nat):Int),0,[]⟩:o6)) ⟨[],rfl,by omega,hT.symm⟩
  |cons q o =>
   have rr:(Nat.beq (q::o).length (len (bL tV (q::o)))&&Nat.ble (((q::o).length+1)*24) room)=true:=Yc6 rfl (by omega)
   show Nx (Q5 Stp.next Stp.exit Stp.fail _ _) _ _;simp only[Q5,Int.toNat_natCast,h1,h2,hside,vb4,hN,i6 hj,rr,Ge6];rw[btD (o9 hj)];by_cases hc:dot p.n (gL tV X j)=p.b
   ·rw[if_pos hc] at hT;rw[decide_eq_true hc];exact Nx.nx (s:=(⟨1,((j+1:Nat):Int),(q::o).length+1,bL tV ((q::o)++[gL tV X j])⟩:o6)) ⟨(q::o)++[gL tV X j],by rw[ic0,List.length_append];rfl,by omega,hT.symm⟩
   ·rw[if_neg hc] at hT;rw[decide_eq_false hc];exact Nx.nx (s:=(⟨1,((j+1:Nat):Int),(q::o).length,bL tV (q::o)⟩:o6)) ⟨q::o,rfl,by omega,hT.symm⟩
 ·obtain⟨h4,hi⟩:=hi;have e:j=X.length:=by omega
  subst e;rw[Qkah] at hi;rw[<- hi];cases o with
  |nil =>
   refine⟨1,?_,rfl,_,rfl⟩;show Q4 Stp.next Stp.exit Stp.fail _ _=_;simp only[Q4,h2];rw[bfD (A1 (Qku _))]
  |cons q o =>
   refine⟨2,?_,rfl,_,rfl⟩;show Q5 Stp.next Stp.exit Stp.fail _ _=_;simp only[Q5,h2];rw[bfD (A1 (Qku _))]
theorem sd3{l:List V3}(hl:l.all inV=true)(h4:Sol l):Pol (ia0 (F0 l) l):=by
 refine⟨sd0 hl h4,ee6 hl h4,(Fc2 l).filter _,λv hv=>?_⟩
 obtain⟨m,hm⟩:=(Pc3 hl h4 (ia1 hl h4 hv)).1 hv;exact⟨m,λw hw hne=>hm w (ia1 hl h4 hw) hne⟩
theorem sd4{l:List V3}:(ia0 (F0 l) l).length<=l.length:=Qkai (Qks _ _) (Nc7 l)
noncomputable def V6l(X:List V3):Int:=sig (F0 X) λp=>AR (onF p X) p.n (ptF p X)
theorem Pol.v6l{X:List V3}(hX:Pol X)(o:V3):V6 X o=V6l X:=hX.from' o
section
variable{X:List V3}(hX:Pol X)(h48:X.length<=48)
include hX h48
theorem Pol.ar_bd{p:Pln}(hp:Ba4 X p):Sm 3057647616 (AR (onF p X) p.n (ptF p X)):=by
 have hR:=hX.rim hp;have hi:=List.all_eq_true.1 hX.iv;have hC:∀c∈onF p X,inV c=true:=λc hc=>hi c (C0.1 hc).1
 have hpt:=hX.pt hp;have hb:=uc7 (l:=onF p X) (B:=63700992) (f:=λa=>dot (c7 a (nxt (onF p X) p.n a)) (ptF p X)) λa ha=>(Qd9 (hC a ha) (hC _ (hR.nx_mem ha)) (hC _ hpt)).2
 have hlen:(onF p X).length<=48:=Qkai (Qks _ _) h48
 have:(onF p X).length*63700992<=48*63700992:=Qkac _ hlen
 exact hb.mono (by omega)
theorem Rd3:∃s,lp (ka4 ⟨((F0 X).length:Int)⟩) ⟨X,F0 X,0,0⟩=(1,s)/\s.e7=V6l X:=by
 have hF:(F0 X).length<=1000000:=tc2 h48 hX.iv;have hi:=List.all_eq_true.1 hX.iv
 suffices key:∃t s,lp (ka4 ⟨((F0 X).length:Int)⟩) ⟨X,F0 X,0,0⟩=(t,s)/\(t=1/\s.e7=V6l X) by
  obtain⟨t,s,h,rfl,h2⟩:=key;exact⟨s,h,h2⟩
 refine R2 (step:=ka4 ⟨((F0 X).length:Int)⟩) (mk:=λj (q:Int)=>(⟨X,F0 X,(j:Int),q⟩:I8)) (F0 X).length (λj q=>j<=(F0 X).length/\q=sig ((F0 X).take j) λp=>AR (onF p X) p.n (ptF p X)) (λt s=>t=1/\s.e7=V6l X) (by omega)
  (λj q hj hq=>?_) (λj q hj hq=>?_) 0 0 ⟨Qkz _,by simp[sig]⟩
 ·obtain⟨hj',rfl⟩:=hq;have hN:=C4 hj (show (F0 X).length<=4611686018427387904 by omega)
  have hpm:gL tP (F0 X) j∈F0 X:=Ra9 tP hj;have hp:=hX.mem.1 hpm;have hR:=hX.rim hp;have hC:∀c∈onF (gL tP (F0 X) j) X,inV c=true:=λc hc=>hi c (C0.1 hc).1
  have hlen:=hX.lens hp;have hl48:(onF (gL tP (F0 X) j) X).length<=48:=Qkai (Qks _ _) h48;have bp:=Eb7 hp.ok;have np:Sm3 4608 (gL tP (F0 X) j).n:=⟨⟨bp.x1,bp.x2⟩,⟨bp.y1,bp.y2⟩,bp.z1,bp.z2⟩;have hT:(F0 X).take (j+1)=(F0 X).take j++[gL tP (F0 X) j]:=Ma5 tP hj;have hbs:=uc7 (l:=(F0 X).take j) (B:=3057647616) (f:=λp=>AR (onF p X) p.n (ptF p X)) λp hp=>hX.ar_bd h48 (hX.mem.1 (List.mem_of_mem_take hp))
  have hlt:((F0 X).take j).length*3057647616<=1000000*3057647616:=Qkac _ (by have:=List.length_take_le j (F0 X);omega)
  have hsm:Sm 100000000000000000 (sig ((F0 X).take j) λp=>AR (onF p X) p.n (ptF p X)):=hbs.mono (by omega)
  have hpt:ptF (gL tP (F0 X) j) X=gL tV (onF (gL tP (F0 X) j) X) 0:=by
   unfold ptF;cases onF (gL tP (F0 X) j) X<;>rfl
  have hg:Rd0 (onF (gL tP (F0 X) j) X) (λk=>i7 (bL tV (onF (gL tP (F0 X) j) X)) (0+k)):=λk hk=>by
   show i7 _ (0+k)=_;rw[Nat.zero_add,N5 tV hk]
  have h0:0<(onF (gL tP (F0 X) j) X).length:=by omega
  have hfan:=ze8 hR np hg hC hl48 (hX.pt hp) hsm;rw[hpt] at hfan;have r0:rdR tV (bL tV (onF (gL tP (F0 X) j) X)) 0=gL tV (onF (gL tP (F0 X) j) X) 0:=sb0 h0;have l0:ldR tV (bL tV (onF (gL tP (F0 X) j) X)) 0=true:=Eb8 h0;have hi0:inB 0 (onF (gL tP (F0 X) j) X).length=true:=i6 h0;have hph:phV (onF (gL tP (F0 X) j) X)=1:=by
   cases hO:onF (gL tP (F0 X) j) X with
   |nil=>rw[hO] at h0;simp at h0
   |cons a l=>rfl
  have hgt:decide (((onF (gL tP (F0 X) j) X).length:Int)>2)=true:=decide_eq_true (by omega)
  have hnext:sig ((F0 X).take j) (λp=>AR (onF p X) p.n (ptF p X))+AR (onF (gL tP (F0 X) j) X) (gL tP (F0 X) j).n (gL tV (onF (gL tP (F0 X) j) X) 0)=sig ((F0 X).take (j+1)) λp=>AR (onF p X) p.n (ptF p X):=by
   rw[hT,ic7,n5,Wa8,Qkn,hpt]
  show Nx (Q6 Stp.next Stp.exit Stp.fail _ _) _ _;obtain⟨jj,hlp⟩:=Bd3 ⟨X,F0 X,((F0 X).length:Int),(j:Int),X,(X.length:Int),sig ((F0 X).take j) (λp=>AR (onF p X) p.n (ptF p X)),(gL tP (F0 X) j).n.x,(gL tP (F0 X) j).n.y,(gL tP (F0 X) j).n.z,(gL tP (F0 X) j).b,(gL tP (F0 X) j).n.x,(gL tP (F0 X) j).n.y,(gL tP (F0 X) j).n.z⟩ (gL tP (F0 X) j) X rfl rfl ⟨rfl,rfl,rfl,rfl⟩ hp.ok hi (by omega)
  rw[hph] at hlp;simp only[Q6,Int.toNat_natCast,r5,m9,hlp,r0,l0,hi0,hgt,hfan,hnext,hN,i6 hj];rw[btD (o9 hj)];exact Nx.nx (s:=(⟨X,F0 X,((j+1:Nat):Int),sig ((F0 X).take (j+1)) λp=>AR (onF p X) p.n (ptF p X)⟩:I8)) (N:=λs=>∃q',s=(⟨X,F0 X,((j+1:Nat):Int),q'⟩:I8)/\(j+1<=(F0 X).length/\q'=sig ((F0 X).take (j+1)) λp=>AR (onF p X) p.n (ptF p X))) ⟨_,rfl,by omega,rfl⟩
 ·obtain⟨hj',rfl⟩:=hq;have e:j=(F0 X).length:=by omega
  subst e;refine⟨1,?_,rfl,by rw[Qkah];rfl⟩
  show Q6 Stp.next Stp.exit Stp.fail _ _=_;simp only[Q6];rw[bfD (A1 (Qku _))]
end
noncomputable def aa9(l:List V3):Int×Int:=if ea1 l=0 then (V6l (ia0 (F0 l) l),0) else (0,ea1 l)
theorem je0(l:List V3)(hl:l.length<=900000):Aa5 l=some (.tup [i (aa9 l).1,i (aa9 l).2],[]):=by
 have c1:∀z:List V3,ab3 z=ga2 z:=λ_=>rfl
 have c2:∀z:List V3,Ka1 z=ec6 z:=λ_=>rfl
 have g1:Ka2 l=true:=decide_eq_true hl;unfold Aa5 aa9;simp only[r5,ra6,m9,c1,c2,g1];by_cases h:ea1 l=0
 ·obtain⟨h48,hin,hs⟩:=ga1 h;have hX:=sd3 hin hs;have hXl:=sd4 (l:=l);have e1:ec6 l=(ia0 (F0 l) l,0):=by unfold ec6;rw[if_pos h]
  have hc:ea1 (ia0 (F0 l) l)=0:=db9 (by omega) hX.iv hX.sol
  have e2:ga2 (ia0 (F0 l) l)=(F0 (ia0 (F0 l) l),0):=by unfold ga2;rw[if_pos hc]
  have g2:ab4 (ia0 (F0 l) l)=true:=decide_eq_true (by omega)
  obtain⟨s,h1,h2⟩:=Rd3 hX (by omega)
  rw[if_pos h];simp only[e1,e2,g2,h1,h2];rfl
 ·have e1:ec6 l=([],ea1 l):=by unfold ec6;rw[if_neg h]
  have hne:(ea1 l != 0)=true:=bne_iff_ne.2 h;rw[if_neg h];simp only[e1,hne];rfl
theorem cd1(l:List V3)(hl:l.length<=900000):M9 l=aa9 l:=by unfold M9;rw[je0 l hl];rfl
theorem cd2(l:List V3)(hl:l.length<=900000):N0 l=true:=by unfold N0;rw[je0 l hl];rfl
noncomputable def R3(x:List Int):V3×List V3:=match o7 x with
 |[]=>(⟨0,0,0⟩,[])
 |a::l=>(a,l)
noncomputable def Ab9:Sum:=K9 (ya3 tI) λx=>.guard (La0 x) (.guard (Nat.ble 1 (List.length (o7 x))) (.ret (eL tV ((R3 x).1::(R3 x).2),[])))
theorem Rd4{α:Type}{c:Cod α}{k k':α->DT (b7×List c8)}(h:∀a r,(k a).run=some r->(k' a).run=some r){args:List b7}{blks:List c8}{r:b7×List c8}(hr:(K9 c k args blks).run=some r):(K9 c k' args blks).run=some r:=by
 unfold K9 at hr ⊢
 split at hr
 ·rename_i x;cases hd:c.dec x with
  |none=>rw[hd] at hr;cases hr
  |some a =>
   rw[hd] at hr;obtain⟨h1,h2⟩:=DT.run_guard_some (show (DT.guard (c.grd x) (k a)).run=some r from hr)
   show (DT.guard (c.grd x) (k' a)).run=some r;rw[h1];exact h a r h2
 ·cases hr
theorem uc8:i4 prog G 33 Ab9:=λargs blks r out he=>xc8 args blks r out (Rd4 (λx r hr=>by
 obtain⟨h1,hr⟩:=DT.run_guard_some hr;obtain⟨h2,hr⟩:=DT.run_guard_some hr;rw[h1];have e:(R3 x).1::(R3 x).2=o7 x:=by
  unfold R3;cases h:o7 x with
  |nil=>rw[h] at h2;cases h2
  |cons a l=>rfl
 rw[e] at hr;exact hr) he)
end Go.Ev.Ce
namespace Go.Ev
open Go Go.ChangeShapes Go.RowKit
structure uc9(w w':World):Prop where
 os:w'.os=w.os
 output:w'.output=w.output
 size:w.heap.size<=w'.heap.size
 block:∀k,k<w.heap.size->w'.heap[k]?=w.heap[k]?
theorem uc9.kept{w w':World}(h:uc9 w w')(may:MemPlace->Prop):w.keptBut w' may:=by
 refine⟨h.os,h.output,λi hi=>?_⟩
 rw[h.block i hi];cases w.heap[i]? with
 |none=>rfl
 |some o=>cases o<;>first | exact⟨rfl,rfl,rfl,λ_ _=>rfl⟩ | exact .inr ⟨rfl,rfl⟩ | rfl
theorem uc9.frozen{w w':World}(h:uc9 w w')(b off:Nat)(hb:b<w.heap.size):w'.frozen? ⟨b,off,none⟩=w.frozen? ⟨b,off,none⟩:=by
 simp only[World.frozen?,h.block b hb]
theorem uc9.cell{w w':World}(h:uc9 w w')(b off:Nat)(hb:b<w.heap.size):w'.cell? ⟨b,off,none⟩=w.cell? ⟨b,off,none⟩:=by
 simp only[World.cell?,h.block b hb]
theorem uc9.same{w w':World}(h:uc9 w w')(p:MemPlace)(hp:p.block<w.heap.size):w.sameAt w' p:=by
 cases p with
 |cell b off=>exact h.cell b off hp
 |map b=>exact h.block b hp
theorem sb2{α β:Type}{f:α->Option β}:∀{l:List α} {r:List β},l.mapM f=some r->r.length=l.length/\∀(j:Nat) y,r[j]?=some y->∃x,l[j]?=some x/\f x=some y
 |[],r,h=>by
  have:r=[]:=by simpa using h.symm
  subst this;simp
 |x::l,r,h=>by
  rw[List.mapM_cons] at h;obtain⟨y,h1,h2⟩:=Qko.1 h;obtain⟨r',h3,h4⟩:=Qko.1 h2
  have:r=y::r':=by simpa using h4.symm
  subst this;obtain⟨g1,g2⟩:=sb2 h3;refine⟨by simp[g1],λj z hz=>?_⟩
  cases j with
  |zero=>simp at hz;subst hz;exact⟨x,rfl,h1⟩
  |succ j=>simpa using g2 j z (by simpa using hz)
section
variable{D:Type}{enc:TypeId×Value->D}{P:Program}
theorem Bb0 {T : TypeId → Prop} (K : Kids P T) (hsz : ∀ {t e : TypeId}, T t → P.underlying t = some (.slice e) → 0 < P.cellsOf e) {w w' : World} {sp : Nat → Bool} (hs : uc9 w w') :
  ∀{ts:List TypeId} {vs:List Value} {ds:List (DataW D)} {ps:List MemPlace},(∀t∈ts,T t)->DataW.TrodAll enc P w 0 (λ_=>true) true ts vs ds ps->(∀p∈ps,p.block<w.heap.size)->(∀p∈ps,sp p.block=true)->DataW.TrodAll enc P w' 0 sp true ts vs ds ps
 |[],[],[],_,_,h,_,_=>h
 |t::ts,v::vs,d::ds,ps,ht,h,hlt,hsp=>by
  obtain⟨p,q,⟨fuel,h1⟩,h2,rfl⟩:=h;refine⟨p,q,⟨fuel,?_⟩,Bb0 K hsz hs (λt h=>ht t (by simp[h])) h2 (λx hx=>hlt x (by simp[hx])) (λx hx=>hsp x (by simp[hx])),rfl⟩
  exact DataW.trod_stays K hsz (λh=>by cases h) (ht t (by simp)) h1 (λx hx=>hs.same x (hlt x (by simp at hx ⊢;exact .inl hx))) (λx hx=>hsp x (by simp at hx ⊢;exact .inl hx))
 |[],_::_,_,_,_,h,_,_=>h.elim
 |[],[],_::_,_,_,h,_,_=>h.elim
 |_::_,[],_,_,_,h,_,_=>h.elim
 |_::_,_::_,[],_,_,h,_,_=>h.elim
theorem Rd5 {T : TypeId → Prop} (K : Kids P T) (hsz : ∀ {t e : TypeId}, T t → P.underlying t = some (.slice e) → 0 < P.cellsOf e) {f : Func} {s : ChangeSpec} {apart fresh handsOn again : Bool} {W W' : World} {args : Array Value} {ds gs : List (DataW D)} {before : List MemPlace} {tb : TypeId}
  (hT:∀t∈f.params.toList,T t) (hW:DataW.Whole enc P f.params.toList s.vars apart W args.toList ds gs before) (hv:s.vars=[]) (hr:f.resultTypes=#[tb]) (hb:P.underlying tb=some .bool)
  (h1:(s.fn D ds).results=[.lit (.bool true)]) (h2:(s.fn D ds).args=ds) (h3:(s.fn D ds).vars=[]) (hs:uc9 W W') :
  s.post enc P f apart fresh handsOn again W args (.bool true) W':=by
 have hlt:=hW.lt;obtain⟨pa,pv,hA,hV,hps,hz,hn⟩:=id hW;rw[hv] at hV;have hpv:gs=[]/\pv=[]:=by
  cases gs with
  |nil=>exact⟨rfl,hV⟩
  |cons=>exact hV.elim
 obtain⟨rfl,rfl⟩:=hpv;rw[<- Qkab ds] at h1 h3;have h2:(s.fn D (ds++[])).args=ds:=by rw[Qkab];exact h2
 have hpa:before=pa:=by rw[hps];simp
 subst hpa;have hagain:∀sp:Nat->Bool,(∀p∈before,sp p.block=true)->DataW.TrodAll enc P W' 0 sp true f.params.toList args.toList ds before:=λsp h=>Bb0 K hsz hs hT hA hlt h
 have hres:∀(b:Nat) (sp:Nat->Bool) (hd:Bool),DataW.TrodAll enc P W' b sp hd f.resultTypes.toList ((Value.bool true).resultList f.resultTypes.size) [.lit (.bool true)] []:=λb sp hd=>by
  rw[hr];exact⟨[],[],⟨1,by simp[DataW.trod,hb,Value.cells,Value.resultList]⟩,rfl,rfl⟩
 have hvars:∀sp:Nat->Bool,DataW.TrodVars enc P W' sp s.vars ([]:List (DataW D)) []:=λsp=>by rw[hv];exact rfl
 have hok:∀(j:Nat) (t:TypeId) (r:Value),f.resultTypes[j]?=some t->((Value.bool true).resultList f.resultTypes.size)[j]?=some r->Value.okWide P W' .any 0 t r:=by
  rw[hr];intro j t r h4 h5;cases j with
  |zero =>
   simp at h4
   subst h4
   have:r=.bool true:=by simpa [Value.resultList] using h5.symm
   subst this;exact okWide_bool_mk hb _
  |succ j=>simp at h4
 have hag:DataW.TrodAll enc P W' 0 (λ_=>true) true (f.resultTypes.toList++f.params.toList) ((Value.bool true).resultList f.resultTypes.size++args.toList) (.lit (.bool true)::ds) before:=by
  have:=hagain (λ_=>true) (λ_ _=>rfl)
  rw[hr];exact⟨[],before,⟨1,by simp[DataW.trod,hb,Value.cells,Value.resultList]⟩,this,rfl⟩
 refine⟨ds,[],before,[],before,[],hW,?_,?_,?_,hs.kept _,λ_=>?_⟩
 ·rw[h1];exact hres _ _ _
 ·rw[h2];exact hagain _ λp hp=>by simpa using hlt p hp
 ·rw[h3];exact hvars _
 ·refine⟨hok,.lit (.bool true)::ds,[],before,⟨before,[],hag,hvars _,by simp,?_,?_⟩,?_⟩
  ·intro b off hp;rw[hs.frozen b off (hlt _ hp)];exact hz b off (by simpa using hp)
  ·intro ha;simpa using hn ha
  ·intro p hp _;exact hp
variable{w:World}{base:Nat}{spare:Nat->Bool}{held:Bool}
def Pc4(w:World):Fz:=λb o=>(w.cell? ⟨b,o,none⟩).isSome
theorem se4 {fuel : Nat} {t : TypeId} {k : IntKind} {cs : List Value} {x : DataW D × List MemPlace} (ht : P.underlying t = some (.int k)) (h : DataW.trod enc P w base spare held fuel t cs = some x) :
  ∃n,cs=[.int k n]/\(Lit.int k n).wf=true/\x.1=.lit (.int k n):=by
 cases fuel with
 |zero=>cases h
 |succ fuel =>
  match cs,h with
  |[],h=>simp[DataW.trod,ht] at h
  |[v],h =>
   cases v with
   |int k' n =>
    simp only[DataW.trod,ht] at h
    split at h
    ·rename_i hk;obtain⟨rfl,hw⟩:=hk;injection h with h;subst h
     exact⟨n,rfl,hw,rfl⟩
    ·cases h
   |_=>simp[DataW.trod,ht] at h
  |a::b::r,h=>simp[DataW.trod,ht] at h
theorem fe1 {fuel : Nat} {t : TypeId} {cs : List Value} {x : DataW D × List MemPlace} (ht : P.underlying t = some .bool) (h : DataW.trod enc P w base spare held fuel t cs = some x) :
  ∃n,cs=[.bool n]/\x.1=.lit (.bool n):=by
 cases fuel with
 |zero=>cases h
 |succ fuel =>
  match cs,h with
  |[],h=>simp[DataW.trod,ht] at h
  |[v],h =>
   cases v with
   |bool n =>
    simp only[DataW.trod,ht] at h;injection h with h;subst h
    exact⟨n,rfl,rfl⟩
   |_=>simp[DataW.trod,ht] at h
  |a::b::r,h=>simp[DataW.trod,ht] at h
theorem Rd6 {fuel : Nat} {t e : TypeId} {n : Nat} {cs : List Value} {x : DataW D × List MemPlace} (ht : P.underlying t = some (.array n e)) (h : DataW.trod enc P w base spare held fuel t cs = some x) :
  cs.length=P.cellsOf t/\∃(fuel':Nat) (xs:List (DataW D×List MemPlace)),xs.length=n/\x.1=.agg (xs.map (·.1))/\∀(j:Nat) y,xs[j]?=some y->DataW.trod enc P w base spare held fuel' e ((cs.drop (j*P.cellsOf e)).take (P.cellsOf e))=some y:=by
 cases fuel with
 |zero=>cases h
 |succ fuel =>
  unfold DataW.trod at h;rw[ht] at h
  simp only at h
  split at h
  ·rename_i hl;obtain⟨xs,h1,h2⟩:=Qkak.1 h;have hx:=sb2 h1;exact⟨hl,fuel,xs,by simpa using hx.1,by rw[<- h2],λj y hy=>by
    obtain⟨a,ha,hb⟩:=hx.2 j y hy
    have:j<n:=by
     have:=(List.getElem?_eq_some_iff.1 hy).1
     rw[hx.1] at this;simpa using this
    rw[Qkae this] at ha;injection ha with ha;subst ha;exact hb⟩
  ·cases h
theorem Bd4 {fuel : Nat} {t : TypeId} {fs : Array Field} {cs : List Value} {x : DataW D × List MemPlace} (ht : P.underlying t = some (.struct fs)) (h : DataW.trod enc P w base spare held fuel t cs = some x) :
  cs.length=P.cellsOf t/\∃(fuel':Nat) (xs:List (DataW D×List MemPlace)),xs.length=fs.size/\x.1=.agg (xs.map (·.1))/\∀(j:Nat) f,fs[j]?=some f->∃y,xs[j]?=some y/\DataW.trod enc P w base spare held fuel' f.type ((cs.drop f.offset).take (P.cellsOf f.type))=some y:=by
 cases fuel with
 |zero=>cases h
 |succ fuel =>
  unfold DataW.trod at h;rw[ht] at h
  simp only at h
  split at h
  ·rename_i hl;obtain⟨xs,h1,h2⟩:=Qkak.1 h;have hx:=sb2 h1;refine⟨hl,fuel,xs,by simpa using hx.1,by rw[<- h2],λj f hf=>?_⟩
   have hj:j<xs.length:=by
    rw[hx.1];simpa using (Array.getElem?_eq_some_iff.1 hf).1
   obtain⟨a,ha,hb⟩:=hx.2 j _ (Qkj hj)
   have:a=f:=by
    have:fs.toList[j]?=some f:=by simpa using hf
    exact Option.some.inj (ha.symm.trans this)
   subst this;exact⟨_,Qkj hj,hb⟩
  ·cases h
theorem Rd7 {fuel : Nat} {t e : TypeId} {cs : List Value} {x : DataW D × List MemPlace} (ht : P.underlying t = some (.slice e)) (h : DataW.trod enc P w base spare held fuel t cs = some x) :
  cs=[.slice none 0 0]\/∃(a:Addr) (n cap fuel':Nat),cs=[.slice (some a) n cap]/\n<=cap/\cap<=maxLen/\∀j,j<n->∃row y,w.cells? base (a.add (j*P.cellsOf e)) (P.cellsOf e)=some row/\DataW.trod enc P w base spare held fuel' e row=some y:=by
 cases fuel with
 |zero=>cases h
 |succ fuel =>
  match cs,h with
  |[],h=>simp[DataW.trod,ht] at h
  |[v],h =>
   cases v with
   |slice a len cap =>
    cases a with
    |none =>
     simp only[DataW.trod,ht] at h
     split at h<;>first | (rename_i e1;cases e1;done) | skip
     all_goals first | exact .inl rfl | (simp_all;done) | skip
    |some a =>
     refine .inr ?_;simp only[DataW.trod,ht] at h
     split at h
     ·rename_i hc;obtain⟨elems,h1,h2⟩:=Qko.1 h;have hx:=sb2 h1;refine⟨a,len,cap,fuel,rfl,hc.2.1,hc.2.2,λj hj=>?_⟩
      have hj':j<elems.length:=by rw[hx.1];simpa using hj
      obtain⟨i,hi,hb⟩:=hx.2 j _ (Qkj hj');rw[Qkae hj] at hi;injection hi with hi;subst hi;obtain⟨row,r1,r2⟩:=Qko.1 hb;exact⟨row,_,r1,r2⟩
     ·cases h
   |_=>simp[DataW.trod,ht] at h
  |a::b::r,h=>simp[DataW.trod,ht] at h
theorem sd5:∀(d:Nat) (t:TypeId) (l:List (Nat×CK)),Q7 P d t=some l->∀(fuel:Nat) (cs:List Value) (x:DataW D×List MemPlace),DataW.trod enc P w base spare held fuel t cs=some x->∀p∈l,pa8 cs.toArray p
 |0,_,_,h,_,_,_,_=>by cases h
 |d+1,t,l,h,fuel,cs,x,hx=>by
  have hpart:∀{off n:Nat} {e:TypeId} {l':List (Nat×CK)} {fuel':Nat} {y:DataW D×List MemPlace},mb8 off n (Q7 P d e)=some l'->DataW.trod enc P w base spare held fuel' e ((cs.drop off).take n)=some y->∀p∈l',pa8 cs.toArray p:=λ{off n e l' fuel' y} h1 h2 p hp=>by
   obtain⟨l2,g1,g2,rfl⟩:=va9 h1;obtain⟨q,hq,rfl⟩:=Qkb.1 hp
   have:=sd5 d e l2 g1 fuel' _ y h2 q hq
   have hlt:=g2 q hq;unfold pa8 at this ⊢;simp only[List.getElem?_toArray,List.getElem?_take,hlt,if_true,List.getElem?_drop] at this ⊢;exact this
  have hcat:∀{α:Type} (f:α->Option (List (Nat×CK))) (xs:List α) (l:List (Nat×CK)),da3 (xs.map f)=some l->∀p∈l,∃a∈xs,∃l',f a=some l'/\p∈l':=λ{α} f xs=>by
   induction xs with
   |nil=>intro l h;simp only[List.map_nil,da3] at h;injection h with h;subst h;simp
   |cons a xs ih =>
    intro l h p hp;simp only[Qkao,da3] at h;cases h1:f a with
    |none=>simp[h1] at h
    |some l1 =>
    cases h2:da3 (xs.map f) with
    |none=>simp[h1,h2] at h
    |some l2 =>
    simp only[h1,h2] at h;injection h with h;subst h
    rcases Qkk.1 hp with hp|hp
    ·exact⟨a,by simp,l1,h1,hp⟩
    ·obtain⟨b,hb,r⟩:=ih l2 h2 p hp;exact⟨b,by simp[hb],r⟩
  unfold Q7 at h;cases hu:P.underlying t with
  |none=>simp[hu] at h
  |some u =>
  cases u with
  |int k =>
   simp only[hu] at h;injection h with h;subst h
   obtain⟨n,rfl,_,_⟩:=se4 hu hx;intro p hp;simp at hp;subst hp;exact⟨n,rfl⟩
  |bool =>
   simp only[hu] at h;injection h with h;subst h
   obtain⟨n,rfl,_⟩:=fe1 hu hx;intro p hp;simp at hp;subst hp;exact⟨n,rfl⟩
  |struct fs =>
   simp only[hu] at h
   split at h
   ·cases h
   obtain⟨_,fuel',xs,_,_,hxs⟩:=Bd4 hu hx;intro p hp;obtain⟨f,hf,l',h1,h2⟩:=hcat _ _ _ h p hp
   split at h1
   ·cases h1
   obtain⟨j,hj⟩:=List.getElem?_of_mem hf;obtain⟨y,_,hy⟩:=hxs j f (by simpa using hj)
   have hc:P.cellsOf f.type=szT P f.type:=by
    unfold Program.cellsOf szT;cases P.info? f.type<;>rfl
   rw[hc] at hy;exact hpart h1 hy p h2
  |array n e =>
   simp only[hu] at h
   split at h
   case isFalse=>cases h
   obtain⟨_,fuel',xs,hn,_,hxs⟩:=Rd6 hu hx;intro p hp;obtain⟨j,hj,l',h1,h2⟩:=hcat _ _ _ h p hp;have hj':j<xs.length:=by rw[hn];simpa using hj
   have hy:=hxs j _ (Qkj hj');have hc:P.cellsOf e=szT P e:=by
    unfold Program.cellsOf szT;cases P.info? e<;>rfl
   rw[hc] at hy;exact hpart h1 hy p h2
  |_=>simp[hu] at h
def V4(k:IntKind)(es:Nat)(g:Nat->Int):List b7:=(List.range es).map λc=>.v (.int k (g c))
def ra7(k:IntKind)(es:Nat):List (Nat×CK):=(List.range es).map λc=>(c,.int k)
theorem sd6 {d : Nat} {t : TypeId} {k : IntKind} {es : Nat} (hf : Q7 P d t = some (ra7 k es)) {fuel : Nat} {cs : List Value} {x : DataW D × List MemPlace} (hx : DataW.trod enc P w base spare held fuel t cs = some x) (hl : cs.length = es) :
  ∃g:Nat->Int,∀c,c<es->cs[c]?=some (.int k (g c)):=by
 have h:=sd5 d t _ hf fuel cs x hx;have h':∀c,∃n:Int,c<es->cs[c]?=some (.int k n):=λc=>by
  by_cases hc:c<es
  ·have:=h (c,.int k) (Qkb.2 ⟨c,by simpa using hc,rfl⟩)
   obtain⟨n,hn⟩:=this;exact⟨n,λ_=>by simpa using hn⟩
  ·exact⟨0,λh=>absurd h hc⟩
 exact⟨λc=>Classical.choose (h' c),λc hc=>Classical.choose_spec (h' c) hc⟩
theorem Rd8{F:Fz}{w:World}(k:IntKind)(n:Int):U4 F w (.v (.int k n)) (.int k n):=.v _ rfl
theorem vc0{k:IntKind}{es:Nat}{g:Nat->Int}{c:Nat}{x:b7}(h:(V4 k es g)[c]?=some x):c<es/\x=.v (.int k (g c)):=by
 unfold V4 at h;obtain⟨h1,h2⟩:=xa9 h;exact⟨h1,h2.symm⟩
theorem zc7 {t e : TypeId} {k : IntKind} {es d : Nat} (ht : P.underlying t = some (.slice e)) (hf : Q7 P d e = some (ra7 k es)) (hes : P.cellsOf e = es) (h0 : 0 < es) {fuel : Nat} {cs : List Value} {x : DataW D × List MemPlace} (hx : DataW.trod enc P w 0 spare held fuel t cs = some x) :
  ∃(v:Value) (n:Nat) (g:Nat->Nat->Int),cs=[v]/\n<=maxLen/\U4 (Pc4 w) w (.tree es n λj=>V4 k es (g j)) v:=by
 rcases Rd7 ht hx with rfl|⟨a,n,cap,fuel',rfl,hn,hc,hel⟩
 ·exact⟨_,0,λ_ _=>0,rfl,Qkz _,.nil _ _⟩
 ·rw[hes] at hel;have hcell:∀j,j<n->∃g:Nat->Int,∀c,c<es->w.cell? ((a.add (j*es)).add c)=some (.int k (g c)):=λj hj=>by
   obtain⟨row,y,h1,h2⟩:=hel j hj;unfold World.cells? at h1
   split at h1
   ·obtain⟨l1,l2⟩:=sb2 h1;have hl:row.length=es:=by simpa using l1
    obtain⟨g,hg⟩:=sd6 hf h2 hl;refine⟨g,λc hc=>?_⟩
    obtain⟨i,hi,hi2⟩:=l2 c _ (hg c hc);rw[Qkae hc] at hi;injection hi with hi;subst hi;exact hi2
   ·cases h1
  have hg:∀j,∃g:Nat->Int,j<n->∀c,c<es->w.cell? ((a.add (j*es)).add c)=some (.int k (g c)):=λj=>by
   by_cases hj:j<n
   ·obtain⟨g,hg⟩:=hcell j hj;exact⟨g,λ_=>hg⟩
   ·exact⟨λ_=>0,λh=>absurd h hj⟩
  obtain⟨g,hg⟩:=Qkaj hg;have hspot:0<n->a.spot=none:=λhn=>by
   have:=hg 0 hn 0 h0
   simpa [Addr.add] using World.cell?_spot this
  have hw:∀j c,j<n->c<es->w.cell? ⟨a.block,a.off+(j*es+c),none⟩=some (.int k (g j c)):=λj c hj hc=>by
   have:=hg j hj c hc
   rw[R5 (hspot (by omega)),R5 rfl] at this
   simpa [Nat.add_assoc] using this
  refine⟨_,n,g,rfl,Qkai hn hc,.tree es n _ a cap (λj c=>.int k (g j c)) hspot hn (λi hi=>by simp[V4]) (λi c hi hc=>?_) hw λi c hi hc=>?_⟩
  ·unfold Pc4;rw[hw i c hi hc];rfl
  ·have:=(vc0 (Qkj hc)).2
   rw[this];exact Rd8 _ _
theorem Bd5(w:World):s6 (λk=>w.heap.size<=k) (λ_=>⟨0,0,0⟩) [] (Pc4 w) w :=
 ⟨λid b h=>by simp at h,λid id' b b' h=>by simp at h,λ_ _ h=>h,λ_ h=>h⟩
theorem Bd6 {G : Nat → List Value} {f : FuncId} {S : Sum} (hS : i4 P G f S) {aargs : List b7} {args : List Value} (hrun : ∃ out, (S aargs []).run = some (b true, out)) (hl : aargs.length = args.length)
  (ha:∀(i:Nat) x x',aargs[i]?=some x->args[i]?=some x'->U6 (λ_=>⟨0,0,0⟩) [] (Pc4 w) w x x') (hG:∀g (c:Nat) x,(G g)[c]?=some x->x.oneCell'=true/\w.cell? ⟨g,c,none⟩=some x) :
  Calls P f args.toArray w λe w'=>e=.returned (.bool true)/\uc9 w w':=by
 obtain⟨out,hrun⟩:=hrun;obtain⟨_,hc⟩:=hS aargs [] (b true) out hrun (λk=>w.heap.size<=k) (λ_=>⟨0,0,0⟩) (Pc4 w) w args (Bd5 w) hl (λi x x' h1 h2=>.val (ha i x x' h1 h2)) (λg c x hx=>by
  obtain⟨h1,h2⟩:=hG g c x hx;exact⟨h1,by unfold Pc4;rw[h2];rfl,h2⟩)
 refine hc.mono λe w' ⟨r',he,ρ',F',hA,hH,hW⟩=>?_
 have:=V5 hW
 subst this;exact⟨he,hA.ext.os,hA.ext.output,hA.ext.size,λk hk=>hA.ext.block k hk (by omega)⟩
theorem sd7 {ρ : Rho} {H : List c8} {F : Fz} {t : TypeId} {k : IntKind} {es d : Nat} {v : Value} {dd : DataW D} {pp : List MemPlace} {bs : Nat} {r : Reach} (hag : agT P t = true) (hf : Q7 P d t = some (ra7 k es)) (hes : P.cellsOf t = es)
  (hok:Value.okWide P w r bs t v) (h:DataW.Trod enc P w base spare held t v dd pp):∃g:Nat->Int,U6 ρ H F w (.agg (V4 k es g)) v:=by
 have hv:∃cs:Array Value,v=.agg cs/\cs.size=P.cellsOf t:=by
  unfold agT at hag;unfold Value.okWide at hok
  split at hag
  ·rename_i fs hu;rw[hu] at hok;obtain⟨cs,h1,h2,_⟩:=hok;exact⟨cs,h1,h2⟩
  ·rename_i n e hu;rw[hu] at hok;obtain⟨cs,h1,h2,_⟩:=hok;exact⟨cs,h1,h2⟩
  ·cases hag
 obtain⟨cs,rfl,hsz⟩:=hv;obtain⟨fuel,hx⟩:=h;have hx:DataW.trod enc P w base spare held fuel t cs.toList=some (dd,pp):=hx;obtain⟨g,hg⟩:=sd6 hf hx (by simpa [hes] using hsz)
 refine⟨g,.agg _ _ (by simp[V4,hsz,hes]) λc x x' h1 h2=>?_⟩
 obtain⟨hc,rfl⟩:=vc0 h1
 have:=hg c hc
 have h3:some x'=some (.int k (g c)):=by rw[<- h2];simpa using this
 injection h3 with h3;subst h3;exact .v _
theorem Bd7 {ρ : Rho} {H : List c8} {t e : TypeId} {k : IntKind} {es d : Nat} {v : Value} {dd : DataW D} {pp : List MemPlace} {bs : Nat} {r : Reach} (ht : P.underlying t = some (.slice e)) (hf : Q7 P d e = some (ra7 k es)) (hes : P.cellsOf e = es) (h0 : 0 < es)
  (hok:Value.okWide P w r bs t v) (h:DataW.Trod enc P w 0 spare held t v dd pp):∃(n:Nat) (g:Nat->Nat->Int),n<=maxLen/\U6 ρ H (Pc4 w) w (.tree es n λj=>V4 k es (g j)) v:=by
 obtain⟨fuel,hx⟩:=h;obtain⟨v',n,g,h1,h2,h3⟩:=zc7 ht hf hes h0 hx;have hv:v.cells=#[v]:=by
  unfold Value.okWide at hok;rw[ht] at hok;cases v with
  |agg cs=>exfalso;simp[Cell.okWide,Cell.ok,ht] at hok
  |_=>rfl
 rw[hv] at h1
 have:v=v':=by simpa using h1
 subst this;exact⟨n,g,h2,.cell (.mem h3)⟩
end
end Go.Ev
namespace Go.Ev.L
open Go Go.Ev
theorem Rd9 {α : Type} (t : Ty α) (n : Nat) (g : Nat → Nat → Int) (f : (Nat → Int) → α) (h : ∀ j, V4 .i64 t.es (g j) = t.row (f (g j))) :
  ∃l,(ya3 t).dec (.tree t.es n λj=>V4 .i64 t.es (g j))=some l/\(ya3 t).grd (.tree t.es n λj=>V4 .i64 t.es (g j))=true:=by
 refine⟨lsL t n λj=>V4 .i64 t.es (g j),?_,Xa9 t (f:=λk=>f (g k)) λk _=>h k⟩
 show Bool.rec (motive:=λ_=>Option (List α)) none (some (lsL t n λj=>V4 .i64 t.es (g j))) (Nat.beq t.es t.es)=_
 rw[Nat.beq_refl]
def Rdg{α:Type}(c:Cod α)(x:b7)(a:α):Prop:=c.dec x=some a/\c.grd x=true
theorem Sd0{α:Type}(t:Ty α)(n:Nat)(g:Nat->Nat->Int)(f:(Nat->Int)->α)(h:∀j,V4 .i64 t.es (g j)=t.row (f (g j))):∃l,Rdg (ya3 t) (.tree t.es n λj=>V4 .i64 t.es (g j)) l:=Rd9 t n g f h
theorem Sd1(n:Nat)(g:Nat->Nat->Int):∃l,Rdg (ya3 tI) (.tree 1 n λj=>V4 .i64 1 (g j)) l:=Sd0 tI n g (λg=>g 0) λ_=>rfl
section
variable{α β γ δ ε:Type}{c:Cod α}{d:Cod β}{e:Cod γ}{f:Cod δ}{c5:Cod ε}{x y z w v:b7}{a:α}{b':β}{g:γ}{j:δ}{m:ε}{r:b7×List c8}
theorem Ge7{k:α->β->γ->DT (b7×List c8)}(h1:Rdg c x a)(h2:Rdg d y b')(h3:Rdg e z g)(h:(k a b' g).run=some r):(Ib8 c d e k [x,y,z] []).run=some r:=by
 unfold Ib8;simp only[h1.1,h1.2,h2.1,h2.2,h3.1,h3.2];exact h
end
theorem se5{g p:Bool}(hg:g=true)(hp:p=true):(DT.guard g (.ret ((one r1B).enc p,([]:List c8)))).run=some (b true,([]:List c8)):=by subst hg;subst hp;rfl
end Go.Ev.L
namespace Go.Ev.Ce
open Go Go.Ev Go.Ev.L Go.Proofs
structure B3 where
 b0:Int
 b1:Int
 b2:Int
def okB:List b7->Bool
 |[.v (.int .u8 _),.v (.int .u8 _),.v (.int .u8 _)]=>true
 |_=>false
def rdB:List b7->B3
 |[.v (.int .u8 x),.v (.int .u8 y),.v (.int .u8 z)]=>⟨x,y,z⟩
 |_=>⟨0,0,0⟩
noncomputable def tW:Ty B3 where
 es:=3
 row x:=[.v (.int .u8 x.b0),.v (.int .u8 x.b1),.v (.int .u8 x.b2)]
 rd:=rdB
 ok:=okB
 cks:=List.replicate 3 (.int .u8)
 d:=⟨0,0,0⟩
 h0 _:=rfl
 h1 _:=rfl
 h2 _:=rfl
 h3 r h:=by
  unfold okB at h
  split at h
  ·exact .refl _
  ·cases h
 h4 _:=rfl
 h5 _:=rfl
structure B2 where
 d0:Int
 d1:Int
structure LL where
 u:List Int
 v:List Int
def dU:b7->Option Int
 |.v (.int .u8 n)=>some n
 |_=>none
theorem Ae0{x:b7}{n:Int}(h:dU x=some n):x=.v (.int .u8 n):=by
 unfold dU at h
 split at h
 ·cases h;rfl
 ·cases h
def cU:Cod Int:=⟨λn=>.v (.int .u8 n),dU,λ_=>true,λ_ _ h _=>.of (Ae0 h)⟩
set_option maxRecDepth 100000
noncomputable def zc8:List (Nat×Sum):=[]
theorem vc1:k8 prog G zc8:=trivial
noncomputable def Aa7(x:V3)(y:V3):Option (b7×List c8):=(sl (decide (y.x<=x.x)) (some (i 0,[])) (sl (decide (y.y<=x.y)) (some (i 0,[])) (sl (decide (y.z<=x.z)) (some (i 0,[])) (some (i (W ((W ((W (y.x-x.x))*(W (y.y-x.y))))*(W (y.z-x.z)))),[])))))
noncomputable def J3(x:V3)(y:V3):Int:=U8 (one r1I) (Aa7 x y)
noncomputable def R4(x:V3)(y:V3):Bool:=okO (one r1I) (Aa7 x y)
noncomputable def ib6:Sum:=Ca2 (U7 tV) (U7 tV) (λx y=>.guard (R4 x y) (.ret ((one r1I).enc (J3 x y),[])))
theorem Bb1:i4 prog G 15 ib6:=Qb4 (bd b15 vc1) (one r1I) (o:=Aa7) λx y=>B7 (by kernel_rfl)
noncomputable def vc2:List (Nat×Sum):=[(11,Aa6),(25,tc4),(15,ib6)]
theorem fc6:k8 prog G vc2:=⟨Fa9,bd6,Bb1,trivial⟩
noncomputable def ta4(x:List V3)(y:V3)(z:V3):Option (b7×List c8):=let t1:=(M9 (rt tV x));let t2:=(ib0 (rt tV x));let t3:=(J3 (⟨(if t2.1.x>y.x then t2.1.x else y.x),(if t2.1.y>y.y then t2.1.y else y.y),(if t2.1.z>y.z then t2.1.z else y.z)⟩:V3) (⟨(if t2.2.1.x<z.x then t2.2.1.x else z.x),(if t2.2.1.y<z.y then t2.2.1.y else z.y),(if t2.2.1.z<z.z then t2.2.1.z else z.z)⟩:V3));(sl (okE tV x) (sl (N0 (rt tV x)) (sl (t1.2 != 0) (some (.tup [i 0,i t1.2],[])) (sl (okE tV x) (sl (ib1 (rt tV x)) (sl (R4 (⟨(if t2.1.x>y.x then t2.1.x else y.x),(if t2.1.y>y.y then t2.1.y else y.y),(if t2.1.z>y.z then t2.1.z else y.z)⟩:V3) (⟨(if t2.2.1.x<z.x then t2.2.1.x else z.x),(if t2.2.1.y<z.y then t2.2.1.y else z.y),(if t2.2.1.z<z.z then t2.2.1.z else z.z)⟩:V3)) (some ((.tup [(i (if (W (6*t3))<t1.1 then (W (6*t3)) else t1.1)),i 0]),[])) none) none) none)) none) none)
noncomputable def Ga0(x:List V3)(y:V3)(z:V3):Int×Int:=U8 (two r1I r1I) (ta4 x y z)
noncomputable def Ga1(x:List V3)(y:V3)(z:V3):Bool:=okO (two r1I r1I) (ta4 x y z)
noncomputable def Bb2:Sum:=Ib8 (ya3 tV) (U7 tV) (U7 tV) (λx y z=>.guard (Ga1 x y z) (.ret ((two r1I r1I).enc (Ga0 x y z),[])))
theorem vc3:i4 prog G 13 Bb2:=Wd8 (bd b13 fc6) (two r1I r1I) (o:=ta4) λx y z=>B7 (by kernel_rfl)
noncomputable def Pc5:List (Nat×Sum):=[]
theorem zc9:k8 prog G Pc5:=trivial
noncomputable def u9(x:Int)(y:Int)(z:Int):V3:=(⟨x,y,z⟩:V3)
noncomputable def Wa9:Sum:=Ib8 cI cI cI (λx y z=>.ret ((one r1V).enc (u9 x y z),[]))
theorem ib7:i4 prog G 17 Wa9:=nd6 (bd b17 zc9) λx y z=>B7 (by kernel_rfl)
noncomputable def fc7:List (Nat×Sum):=[(33,Ab9)]
theorem Wb3:k8 prog G fc7:=⟨uc8,trivial⟩
noncomputable def pa3(x:List Int):Option (b7×List c8):=let t1:=(R3 (lsL tI ((if 40<(↑(List.length x):Int) then 40 else (↑(List.length x):Int)).toNat-0) (λk=>(λk=>(tI).row (gL tI x k)) (0+k))));(sl (inB (if 40<(↑(List.length x):Int) then 40 else (↑(List.length x):Int)) ((List.length x)+1)) (sl (okL tI ((if 40<(↑(List.length x):Int) then 40 else (↑(List.length x):Int)).toNat-0) (λk=>(λk=>(tI).row (gL tI x k)) (0+k))) (sl (La0 (lsL tI ((if 40<(↑(List.length x):Int) then 40 else (↑(List.length x):Int)).toNat-0) (λk=>(λk=>(tI).row (gL tI x k)) (0+k)))) (sl (Nat.ble 1 (List.length (o7 (lsL tI ((if 40<(↑(List.length x):Int) then 40 else (↑(List.length x):Int)).toNat-0) (λk=>(λk=>(tI).row (gL tI x k)) (0+k)))))) (some (eL tV (t1.1::t1.2),[])) none) none) none) none)
noncomputable def Aa8(x:List Int):List V3:=U8 (one (r1L tV)) (pa3 x)
noncomputable def Aa9(x:List Int):Bool:=okO (one (r1L tV)) (pa3 x)
noncomputable def sb3:Sum:=K9 (ya3 tI) (λx=>.guard (Aa9 x) (.ret ((one (r1L tV)).enc (Aa8 x),[])))
theorem fc8:i4 prog G 9 sb3:=Ca3 (bd b9 Wb3) (one (r1L tV)) (o:=pa3) λx=>B7 (by kernel_rfl)
noncomputable def Pc6:List (Nat×Sum):=[(11,Aa6)]
theorem Ac0:k8 prog G Pc6:=⟨Fa9,trivial⟩
noncomputable def Ha7(x:List V3)(y:Int):Option (b7×List c8):=let t1:=(M9 (rt tV x));(sl (okE tV x) (sl (N0 (rt tV x)) (sl (t1.2==0) (some (b (t1.1==y),[])) (some (b false,[]))) none) none)
noncomputable def K4(x:List V3)(y:Int):Bool:=U8 (one r1B) (Ha7 x y)
noncomputable def K5(x:List V3)(y:Int):Bool:=okO (one r1B) (Ha7 x y)
noncomputable def sb4:Sum:=Ca2 (ya3 tV) cI (λx y=>.guard (K5 x y) (.ret ((one r1B).enc (K4 x y),[])))
theorem Ob8:i4 prog G 21 sb4:=Qb4 (bd b21 Ac0) (one r1B) (o:=Ha7) λx y=>B7 (by kernel_rfl)
noncomputable def Ac1:List (Nat×Sum):=[(13,Bb2)]
theorem vc4:k8 prog G Ac1:=⟨vc3,trivial⟩
noncomputable def Ba0(x:List V3)(y:V3)(z:V3)(w:Int):Option (b7×List c8):=let t1:=(Ga0 (rt tV x) y z);(sl (okE tV x) (sl (Ga1 (rt tV x) y z) (sl (t1.2==0) (some (b (t1.1==w),[])) (some (b false,[]))) none) none)
noncomputable def X4(x:List V3)(y:V3)(z:V3)(w:Int):Bool:=U8 (one r1B) (Ba0 x y z w)
noncomputable def ia2(x:List V3)(y:V3)(z:V3)(w:Int):Bool:=okO (one r1B) (Ba0 x y z w)
noncomputable def Ob9:Sum:=wd0 (ya3 tV) (U7 tV) (U7 tV) cI (λx y z w=>.guard (ia2 x y z w) (.ret ((one r1B).enc (X4 x y z w),[])))
theorem Ac2:i4 prog G 26 Ob9:=Be2 (bd b26 vc4) (one r1B) (o:=Ba0) λx y z w=>B7 (by kernel_rfl)
noncomputable def fc9:List (Nat×Sum):=[(17,Wa9),(11,Aa6),(21,sb4),(24,Ab4),(15,ib6),(26,Ob9)]
theorem Wb4:k8 prog G fc9:=⟨ib7,Fa9,Ob8,tc6,Bb1,Ac2,trivial⟩
noncomputable def pa4  : Option (b7×List c8):=let t1:=(u9 0 0 0);let t2:=(u9 5 5 5);let t3:=(u9 2 0 0);let t4:=(u9 0 2 0);let t5:=(u9 0 0 2);let t6:=(u9 1 0 0);let t7:=(u9 0 1 0);let t8:=(u9 1 1 0);let t9:=(M9 [t1,t6,t7,t8]);let t10:=(M9 [(⟨0,0,0⟩:V3),(⟨0,0,0⟩:V3),(⟨0,0,0⟩:V3),(⟨0,0,0⟩:V3),(⟨0,0,0⟩:V3),(⟨0,0,0⟩:V3),(⟨0,0,0⟩:V3),(⟨0,0,0⟩:V3),(⟨0,0,0⟩:V3),(⟨0,0,0⟩:V3),(⟨0,0,0⟩:V3),(⟨0,0,0⟩:V3),(⟨0,0,0⟩:V3),(⟨0,0,0⟩:V3),(⟨0,0,0⟩:V3),(⟨0,0,0⟩:V3),(⟨0,0,0⟩:V3),(⟨0,0,0⟩:V3),(⟨0,0,0⟩:V3),(⟨0,0,0⟩:V3),(⟨0,0,0⟩:V3),(⟨0,0,0⟩:V3),(⟨0,0,0⟩:V3),(⟨0,0,0⟩:V3),(⟨0,0,0⟩:V3),(⟨0,0,0⟩:V3),(⟨0,0,0⟩:V3),(⟨0,0,0⟩:V3),(⟨0,0,0⟩:V3),(⟨0,0,0⟩:V3),(⟨0,0,0⟩:V3),(⟨0,0,0⟩:V3),(⟨0,0,0⟩:V3),(⟨0,0,0⟩:V3),(⟨0,0,0⟩:V3),(⟨0,0,0⟩:V3),(⟨0,0,0⟩:V3),(⟨0,0,0⟩:V3),(⟨0,0,0⟩:V3),(⟨0,0,0⟩:V3),(⟨0,0,0⟩:V3),(⟨0,0,0⟩:V3),(⟨0,0,0⟩:V3),(⟨0,0,0⟩:V3),(⟨0,0,0⟩:V3),(⟨0,0,0⟩:V3),(⟨0,0,0⟩:V3),(⟨0,0,0⟩:V3),(⟨0,0,0⟩:V3)]);let t11:=(K4 [t1,t3,t4,t5] 8);let t12:=(u9 1 2 3);let t13:=(ab0 t1 t12);let t14:=(K4 (rt tV t13) 36);let t15:=(J3 t1 t12);let t16:=(u9 1 0 3);let t17:=(J3 t1 t16);let t18:=(u9 (-1) (-1) 3);let t19:=(J3 t1 t18);let t20:=(u9 1 1 1);let t21:=(X4 [t1,t3,t4,t5] t1 t20 6);let t22:=(X4 [t1,t3,t4,t5] t1 t2 8);let t23:=(u9 3 0 0);let t24:=(u9 4 4 4);let t25:=(X4 [t1,t3,t4,t5] t23 t24 0);let w0:Option (b7×List c8):=(sl (R4 t1 t12) (sl (t15==6) (sl (R4 t1 t16) (sl (t17==0) (sl (R4 t1 t18) (some (b false,[])) none) (some (b false,[]))) none) (some (b false,[]))) none);(sl (N0 [t1,t6,t7,t8]) (sl (N0 [(⟨0,0,0⟩:V3),(⟨0,0,0⟩:V3),(⟨0,0,0⟩:V3),(⟨0,0,0⟩:V3),(⟨0,0,0⟩:V3),(⟨0,0,0⟩:V3),(⟨0,0,0⟩:V3),(⟨0,0,0⟩:V3),(⟨0,0,0⟩:V3),(⟨0,0,0⟩:V3),(⟨0,0,0⟩:V3),(⟨0,0,0⟩:V3),(⟨0,0,0⟩:V3),(⟨0,0,0⟩:V3),(⟨0,0,0⟩:V3),(⟨0,0,0⟩:V3),(⟨0,0,0⟩:V3),(⟨0,0,0⟩:V3),(⟨0,0,0⟩:V3),(⟨0,0,0⟩:V3),(⟨0,0,0⟩:V3),(⟨0,0,0⟩:V3),(⟨0,0,0⟩:V3),(⟨0,0,0⟩:V3),(⟨0,0,0⟩:V3),(⟨0,0,0⟩:V3),(⟨0,0,0⟩:V3),(⟨0,0,0⟩:V3),(⟨0,0,0⟩:V3),(⟨0,0,0⟩:V3),(⟨0,0,0⟩:V3),(⟨0,0,0⟩:V3),(⟨0,0,0⟩:V3),(⟨0,0,0⟩:V3),(⟨0,0,0⟩:V3),(⟨0,0,0⟩:V3),(⟨0,0,0⟩:V3),(⟨0,0,0⟩:V3),(⟨0,0,0⟩:V3),(⟨0,0,0⟩:V3),(⟨0,0,0⟩:V3),(⟨0,0,0⟩:V3),(⟨0,0,0⟩:V3),(⟨0,0,0⟩:V3),(⟨0,0,0⟩:V3),(⟨0,0,0⟩:V3),(⟨0,0,0⟩:V3),(⟨0,0,0⟩:V3),(⟨0,0,0⟩:V3)]) (sl (K5 [t1,t3,t4,t5] 8) (sl t11 (sl (ab1 t1 t12) (sl (okE tV t13) (sl (K5 (rt tV t13) 36) (sl t14 (sl (t9.2==11) (sl (R4 t1 t12) (sl (t15==6) (sl (R4 t1 t16) (sl (t17==0) (sl (R4 t1 t18) (sl (t10.2==2) (sl (t19==0) (sl (ia2 [t1,t3,t4,t5] t1 t20 6) (sl t21 (sl (ia2 [t1,t3,t4,t5] t1 t2 8) (sl t22 (sl (ia2 [t1,t3,t4,t5] t23 t24 0) (some (b t25,[])) none) (some (b false,[]))) none) (some (b false,[]))) none) (some (b false,[]))) (some (b false,[]))) none) (sl (t10.2==2) (some (b false,[])) (some (b false,[])))) none) (sl (t10.2==2) (some (b false,[])) (some (b false,[])))) none) w0) w0) none) none) none) w0) none) none) none)
noncomputable def Ba1  : Bool:=U8 (one r1B) pa4
noncomputable def Ba2  : Bool:=okO (one r1B) pa4
noncomputable def sb5:Sum:=gd2  (.guard Ba2 (.ret ((one r1B).enc Ba1,[])))
theorem gc0:i4 prog G 8 sb5:=Be1 (bd b8 Wb4) (one r1B) (o:=pa4) (B7 (by kernel_rfl))
structure Bd8 where
 vc6:List V3
 Be0:List Pln
 (v7 Td6:Int)
 He0:List V3
 (Ua2 e7 d9 f7 l6:Int)
structure Bd9 where
 H4:Int
structure Cd0 where
 v7:Int
structure Cd1 where
 vc6:List V3
 Be0:List Pln
 Td6:Int
noncomputable def bxS(s:V3×V3)(v:V3):V3×V3:=(⟨if v.x<s.1.x then v.x else s.1.x,if v.y<s.1.y then v.y else s.1.y,if v.z<s.1.z then v.z else s.1.z⟩,⟨if v.x>s.2.x then v.x else s.2.x,if v.y>s.2.y then v.y else s.2.y,if v.z>s.2.z then v.z else s.2.z⟩)
noncomputable def bxL:List V3->V3×V3×Bool
 |[]=>(⟨0,0,0⟩,⟨0,0,0⟩,false)
 |v::l=>(((v::l).foldl bxS (v,v)).1,((v::l).foldl bxS (v,v)).2,true)
noncomputable def bxT(l:List V3)(j:Nat):V3×V3:=(l.take j).foldl bxS (gL tV l 0,gL tV l 0)
theorem Sd2{l:List V3}{j:Nat}(hj:j<l.length):bxT l (j+1)=bxS (bxT l j) (gL tV l j):=by
 unfold bxT;rw[Ma5 tV hj,List.foldl_append];rfl
theorem Ae1{l:List V3}(h:l≠[]):bxL l=((bxT l l.length).1,(bxT l l.length).2,true):=by
 cases l with
 |nil=>exact absurd rfl h
 |cons v l =>
  unfold bxT;rw[Qkah];rfl
theorem je1(l:List V3)(hl:l.length<=1000000):Ta1 l=some (.tup [.agg [i (bxL l).1.x,i (bxL l).1.y,i (bxL l).1.z],.agg [i (bxL l).2.1.x,i (bxL l).2.1.y,i (bxL l).2.1.z],b (bxL l).2.2],[]):=by
 by_cases hne:l=[]
 ·subst hne;rfl
 have hp:0<l.length:=List.length_pos_iff.2 hne;obtain⟨t,s,h,rfl,k,rfl⟩:=R2 (step:=la2 ⟨l,(l.length:Int)⟩) (mk:=λj (q:V3×V3)=>(⟨(j:Int),q.1.x,q.1.y,q.1.z,q.2.x,q.2.y,q.2.z⟩:da1)) l.length (λj q=>j<=l.length/\q=bxT l j) (λt s=>t=1/\∃k:Int,s=⟨k,(bxT l l.length).1.x,(bxT l l.length).1.y,(bxT l l.length).1.z,(bxT l l.length).2.x,(bxT l l.length).2.y,(bxT l l.length).2.z⟩) (by omega)
  (λj q hj hi=>by
   obtain⟨_,rfl⟩:=hi;have hn:=C4 hj (show l.length<=4611686018427387904 by omega)
   simp only[la2,oa8,Int.toNat_natCast,hn];rw[btD (o9 hj),bt (i6 hj)];exact .nx ⟨bxT l (j+1),by rw[Sd2 hj];rfl,by omega,rfl⟩)
  (λj q hj hi=>by
   obtain⟨hje,rfl⟩:=hi;have hje:j=l.length:=by omega
   subst hje;refine⟨1,?_,rfl,_,rfl⟩;simp only[la2,oa8];rw[bfD (A1 (Qku _))]) 0 (bxT l 0) ⟨Qkz _,rfl⟩
 have h:lp (la2 ⟨l,(l.length:Int)⟩) ⟨0,(gL tV l 0).x,(gL tV l 0).y,(gL tV l 0).z,(gL tV l 0).x,(gL tV l 0).y,(gL tV l 0).z⟩=_:=h;unfold Ta1;simp only[r5,m9,h];rw[bf (show ((l.length:Int)==0)=false from by rw[beq_eq_false_iff_ne];omega),bt (show inB 0 l.length=true from i6 (j:=0) hp),Ae1 hne,bt (show inB 0 l.length=true from i6 (j:=0) hp)]
 rfl
theorem Ae2(l:List V3)(hl:l.length<=1000000):ib0 l=bxL l:=by unfold ib0;rw[je1 l hl];rfl
theorem Ae3(l:List V3)(hl:l.length<=1000000):ib1 l=true:=by unfold ib1;rw[je1 l hl];rfl
theorem se6(x y:V3):∃n,Aa7 x y=some (i n,[]):=by
 unfold Aa7 sl;cases decide (y.x<=x.x)<;>cases decide (y.y<=x.y)<;>cases decide (y.z<=x.z)<;>exact⟨_,rfl⟩
theorem Sd3(x y:V3):R4 x y=true:=by
 obtain⟨n,h⟩:=se6 x y;unfold R4;rw[h];rfl
noncomputable def fe2(s:V3×V3×Bool)(y:V3):V3:=⟨if s.1.x>y.x then s.1.x else y.x,if s.1.y>y.y then s.1.y else y.y,if s.1.z>y.z then s.1.z else y.z⟩
noncomputable def sd8(s:V3×V3×Bool)(z:V3):V3:=⟨if s.2.1.x<z.x then s.2.1.x else z.x,if s.2.1.y<z.y then s.2.1.y else z.y,if s.2.1.z<z.z then s.2.1.z else z.z⟩
noncomputable def lb1(l:List V3)(y z:V3):Int×Int:=if (aa9 l).2=0 then ((if W (6*J3 (fe2 (bxL l) y) (sd8 (bxL l) z))<(aa9 l).1 then W (6*J3 (fe2 (bxL l) y) (sd8 (bxL l) z)) else (aa9 l).1),0) else (0,(aa9 l).2)
theorem Sd4(l:List V3)(y z:V3)(hl:l.length<=900000):ta4 l y z=some (.tup [i (lb1 l y z).1,i (lb1 l y z).2],[]):=by
 unfold ta4 lb1;simp only[r5,ra6,m9,cd1 l hl,cd2 l hl,Ae2 l (by omega),Ae3 l (by omega),Sd3]
 by_cases h:(aa9 l).2=0
 ·rw[if_pos h,bf (show ((aa9 l).2 != 0)=false from by rw[bne_eq_false_iff_eq];exact h)]
  rfl
 ·rw[if_neg h,bt (show ((aa9 l).2 != 0)=true from bne_iff_ne.2 h)]
  rfl
theorem se7(l:List V3)(y z:V3)(hl:l.length<=900000):Ga0 l y z=lb1 l y z:=by unfold Ga0;rw[Sd4 l y z hl];rfl
theorem se8(l:List V3)(y z:V3)(hl:l.length<=900000):Ga1 l y z=true:=by unfold Ga1;rw[Sd4 l y z hl];rfl
theorem Sd5(l:List V3)(n:Int)(hl:l.length<=900000):Ha7 l n=some (b (decide ((aa9 l).2=0/\(aa9 l).1=n)),[]):=by
 unfold Ha7;simp only[r5,ra6,cd1 l hl,cd2 l hl];by_cases h:(aa9 l).2=0
 ·rw[bt rfl,bt rfl,bt (beq_iff_eq.2 h)];by_cases h2:(aa9 l).1=n
  ·rw[decide_eq_true ⟨h,h2⟩,beq_iff_eq.2 h2]
  ·rw[decide_eq_false (λk=>h2 k.2),beq_eq_false_iff_ne.2 h2]
 ·rw[bt rfl,bt rfl,bf (beq_eq_false_iff_ne.2 h),decide_eq_false (λk=>h k.1)]
theorem Pc7(l:List V3)(n:Int)(hl:l.length<=900000):K4 l n=decide ((aa9 l).2=0/\(aa9 l).1=n):=by unfold K4;rw[Sd5 l n hl];rfl
theorem Pc8(l:List V3)(n:Int)(hl:l.length<=900000):K5 l n=true:=by unfold K5;rw[Sd5 l n hl];rfl
theorem sd9(l:List V3)(y z:V3)(n:Int)(hl:l.length<=900000):Ba0 l y z n=some (b (decide ((lb1 l y z).2=0/\(lb1 l y z).1=n)),[]):=by
 unfold Ba0;simp only[r5,ra6,se7 l y z hl,se8 l y z hl];by_cases h:(lb1 l y z).2=0
 ·rw[bt rfl,bt rfl,bt (beq_iff_eq.2 h)];by_cases h2:(lb1 l y z).1=n
  ·rw[decide_eq_true ⟨h,h2⟩,beq_iff_eq.2 h2]
  ·rw[decide_eq_false (λk=>h2 k.2),beq_eq_false_iff_ne.2 h2]
 ·rw[bt rfl,bt rfl,bf (beq_eq_false_iff_ne.2 h),decide_eq_false (λk=>h k.1)]
theorem Pc9(l:List V3)(y z:V3)(n:Int)(hl:l.length<=900000):X4 l y z n=decide ((lb1 l y z).2=0/\(lb1 l y z).1=n):=by unfold X4;rw[sd9 l y z n hl];rfl
theorem fe3(l:List V3)(y z:V3)(n:Int)(hl:l.length<=900000):ia2 l y z n=true:=by unfold ia2;rw[sd9 l y z n hl];rfl
theorem Sd6{l d:List V3}{n:Int}(hc:ea1 l=0)(hd:d.Pairwise LtV)(hm:∀v,v∈l↔v∈d)(hn:V6l (d.filter (kv (F0 l)))=n):aa9 l=(n,0):=by
 have e:dis l=d:=Zb3 _ _ (Nd7 _) hd λv=>by rw[vb3];exact hm v
 unfold aa9 ia0;rw[if_pos hc,e,hn]
noncomputable def tt:List V3:=[⟨0,0,0⟩,⟨2,0,0⟩,⟨0,2,0⟩,⟨0,0,2⟩]
theorem Sd7:aa9 tt=(8,0):=by
 refine Sd6 (d:=[⟨0,0,0⟩,⟨0,0,2⟩,⟨0,2,0⟩,⟨2,0,0⟩]) (by kernel_rfl) (by simp[LtV]) (λv=>?_) (by kernel_rfl)
 unfold tt;simp only[Qkf,Qkaa,or_false]
 constructor<;>rintro (h | h | h | h)<;>simp[h]
noncomputable def qd:List V3:=[⟨0,0,0⟩,⟨1,0,0⟩,⟨0,2,0⟩,⟨1,2,0⟩,⟨0,0,3⟩,⟨1,0,3⟩,⟨0,2,3⟩,⟨1,2,3⟩]
theorem se9:aa9 qd=(36,0):=by
 refine Sd6 (d:=[⟨0,0,0⟩,⟨0,0,3⟩,⟨0,2,0⟩,⟨0,2,3⟩,⟨1,0,0⟩,⟨1,0,3⟩,⟨1,2,0⟩,⟨1,2,3⟩]) (by kernel_rfl) (by simp[LtV]) (λv=>?_) (by kernel_rfl)
 unfold qd;simp only[Qkf,Qkaa,or_false]
 constructor<;>rintro (h | h | h | h | h | h | h | h)<;>simp[h]
theorem te0:aa9 [⟨0,0,0⟩,⟨1,0,0⟩,⟨0,1,0⟩,⟨1,1,0⟩]=(0,11):=by
 have h:ea1 [⟨0,0,0⟩,⟨1,0,0⟩,⟨0,1,0⟩,⟨1,1,0⟩]=11:=by kernel_rfl
 unfold aa9;rw[h,if_neg (by omega)]
theorem Sd8:aa9 (List.replicate 49 ⟨0,0,0⟩)=(0,2):=by
 have h:ea1 (List.replicate 49 ⟨0,0,0⟩)=2:=by kernel_rfl
 unfold aa9;rw[h,if_neg (by omega)]
theorem te1:bxL tt=(⟨0,0,0⟩,⟨2,2,2⟩,true):=by kernel_rfl
theorem Qc0(y z:V3)(n:Int)(h:(if W (6*J3 (fe2 (⟨0,0,0⟩,⟨2,2,2⟩,true) y) (sd8 (⟨0,0,0⟩,⟨2,2,2⟩,true) z))<8 then W (6*J3 (fe2 (⟨0,0,0⟩,⟨2,2,2⟩,true) y) (sd8 (⟨0,0,0⟩,⟨2,2,2⟩,true) z)) else 8)=n):lb1 tt y z=(n,0):=by
 unfold lb1;rw[Sd7,te1,if_pos rfl];show (_,_)=_;rw[h]
theorem cd3:pa4=some (b true,[]):=by
 have e49:∀n m:V3,M9 (List.replicate 49 ⟨0,0,0⟩)=(0,2)/\N0 (List.replicate 49 ⟨0,0,0⟩)=true:=λ_ _=>⟨by rw[cd1 _ (by simp),Sd8],cd2 _ (by simp)⟩
 have v:∀x y z,u9 x y z=⟨x,y,z⟩:=λ_ _ _=>rfl
 have hc:ab0 ⟨0,0,0⟩ ⟨1,2,3⟩=qd:=by kernel_rfl
 have hcg:ab1 ⟨0,0,0⟩ ⟨1,2,3⟩=true:=by kernel_rfl
 have s1:K4 tt 8=true:=by rw[Pc7 _ _ (by simp[tt]),Sd7];rfl
 have s1g:K5 tt 8=true:=Pc8 _ _ (by simp[tt])
 have s2:K4 qd 36=true:=by rw[Pc7 _ _ (by simp[qd]),se9];rfl
 have s2g:K5 qd 36=true:=Pc8 _ _ (by simp[qd])
 have f1:M9 [⟨0,0,0⟩,⟨1,0,0⟩,⟨0,1,0⟩,⟨1,1,0⟩]=(0,11):=by rw[cd1 _ (by simp),te0]
 have f1g:N0 [⟨0,0,0⟩,⟨1,0,0⟩,⟨0,1,0⟩,⟨1,1,0⟩]=true:=cd2 _ (by simp)
 have m1:X4 tt ⟨0,0,0⟩ ⟨1,1,1⟩ 6=true:=by rw[Pc9 _ _ _ _ (by simp[tt]),Qc0 _ _ 6 (by kernel_rfl)];rfl
 have m2:X4 tt ⟨0,0,0⟩ ⟨5,5,5⟩ 8=true:=by rw[Pc9 _ _ _ _ (by simp[tt]),Qc0 _ _ 8 (by kernel_rfl)];rfl
 have m3:X4 tt ⟨3,0,0⟩ ⟨4,4,4⟩ 0=true:=by rw[Pc9 _ _ _ _ (by simp[tt]),Qc0 _ _ 0 (by kernel_rfl)];rfl
 have mg:∀y z n,ia2 tt y z n=true:=λy z n=>fe3 _ _ _ _ (by simp[tt])
 have b1:J3 ⟨0,0,0⟩ ⟨1,2,3⟩=6:=by kernel_rfl
 have b2:J3 ⟨0,0,0⟩ ⟨1,0,3⟩=0:=by kernel_rfl
 have b3:J3 ⟨0,0,0⟩ ⟨-1,-1,3⟩=0:=by kernel_rfl
 have t0:[(⟨0,0,0⟩:V3),⟨2,0,0⟩,⟨0,2,0⟩,⟨0,0,2⟩]=tt:=rfl;obtain⟨q1,q2⟩:=e49 ⟨0,0,0⟩ ⟨0,0,0⟩;simp only[List.replicate] at q1 q2;unfold pa4;simp only[v,r5,ra6,q1,q2,hc,hcg,t0,s1,s1g,s2,s2g,f1,f1g,m1,m2,m3,mg,b1,b2,b3,Sd3];rfl
theorem ld8:Ba1=true:=by unfold Ba1;rw[cd3];rfl
theorem ld9:Ba2=true:=by unfold Ba2;rw[cd3];rfl
noncomputable def N7(l:List V3):List V3:=ia0 (F0 l) l
noncomputable def CN(p:Pln)(X:List V3)(o:V3):Int:=AR (onF p X) p.n (d8 (ptF p X) o)
theorem Sol.same{l l':List V3}(h:Sol l)(hs:∀u∈l,u∈l'):Sol l':=by
 obtain⟨a,c,k,v,ha,hc,hk,hv,hne⟩:=h;exact⟨a,c,k,v,hs a ha,hs c hc,hs k hk,hs v hv,hne⟩
section
variable{l:List V3}(hc:ea1 l=0)
include hc
theorem ic9:Pol (N7 l):=by
 obtain⟨_,hl,h4⟩:=ga1 hc;exact sd3 hl h4
theorem cd4(o:V3):aa9 l=(sig (F0 l) λp=>CN p (N7 l) o,0):=by
 obtain⟨_,hl,h4⟩:=ga1 hc;have h:=(ic9 hc).v6l o;unfold aa9;rw[if_pos hc];show (V6l (N7 l),(0:Int))=_;rw[<- h];unfold V6;rw[show F0 (N7 l)=F0 l from se1 hl h4]
 rfl
end
structure Lin(T:V3->V3)(r0 r1 r2:V3):Prop where
 det:dot r0 (c7 r1 r2)≠0
 t:∀u w,d8 (T u) (T w)=⟨dot r0 (d8 u w),dot r1 (d8 u w),dot r2 (d8 u w)⟩
def dt3(a c v o:V3):Int:=D3 (d8 a o) (d8 c o) (d8 v o)
def sgn(d:Int):Int:=if 0<d then 1 else -1
theorem fe4{d:Int}(h:d≠0):0<sgn d*d:=by unfold sgn;split<;>omega
section
variable{T:V3->V3}{r0 r1 r2:V3}(h:Lin T r0 r1 r2)
include h
theorem Lin.det3(a c v o:V3):dt3 (T a) (T c) (T v) (T o)=dot r0 (c7 r1 r2)*dt3 a c v o:=by
 unfold dt3 D3;rw[h.t,h.t,h.t,Fb2,<- uc2,vb7 (c7 r1 r2),vb7 (c7 r2 r0),vb7 (c7 r0 r1)]
theorem Lin.n3(u w x:V3):N3 (T u) (T w) (T x)=⟨dot (c7 r1 r2) (N3 u w x),dot (c7 r2 r0) (N3 u w x),dot (c7 r0 r1) (N3 u w x)⟩:=by
 show c7 (d8 (T w) (T u)) (d8 (T x) (T u))=_;rw[h.t,h.t,Fb2];rfl
theorem Lin.sim{l:List V3}(hl:l.all inV=true)(hm:(l.map T).all inV=true):Sim l T:=by
 have hd:=h.det;refine⟨hl,hm,λn=>⟨⟨sgn (dot r0 (c7 r1 r2))*dot n (c7 r1 r2),sgn (dot r0 (c7 r1 r2))*dot n (c7 r2 r0),sgn (dot r0 (c7 r1 r2))*dot n (c7 r0 r1)⟩,sgn (dot r0 (c7 r1 r2))*dot r0 (c7 r1 r2),fe4 hd,λu hu w hw=>?_⟩,λn'=>⟨⟨n'.x*r0.x+n'.y*r1.x+n'.z*r2.x,n'.x*r0.y+n'.y*r1.y+n'.z*r2.y,n'.x*r0.z+n'.y*r1.z+n'.z*r2.z⟩,1,by omega,λu hu w hw=>?_⟩,λu hu w hw x hx=>?_⟩
 ·rw[<- A3,<- A3,h.t,Qkan,<- uc2];generalize sgn (dot r0 (c7 r1 r2))=s;simp only[dot]
  grind
 ·rw[<- A3,<- A3,h.t];simp only[dot]
  grind
 ·rw[h.n3];constructor
  ·intro hne h0;simp only[V3.mk.injEq] at h0;obtain⟨e1,e2,e3⟩:=h0;obtain⟨b1,b2,b3⟩:=Gc2 r0 r1 r2 (N3 u w x);rw[e1,e2,e3] at b1 b2 b3;simp only[Qkm,Qkn] at b1 b2 b3;exact hne (Qkap ((Qkd.1 b1).resolve_left hd) ((Qkd.1 b2).resolve_left hd) ((Qkd.1 b3).resolve_left hd))
  ·intro hne h0;rw[h0] at hne;have z:∀v:V3,dot v ⟨0,0,0⟩=0:=λv=>by simp[dot]
   rw[z,z,z] at hne;exact hne rfl
end
theorem td0{n a c v:V3}(h1:dot n a=dot n v)(h2:dot n c=dot n v)(o:V3):dot n n*dt3 a c v o=orp n a c v*(dot n v-dot n o):=by
 have e:dt3 a c v o=dot (c7 (d8 a v) (d8 c v)) (d8 v o):=by simp only[dt3,D3,dot,c7,d8];grind
 have hp:=pa2 (n:=n) (a:=d8 a v) (c:=d8 c v) (by rw[A3];omega) (by rw[A3];omega)
 have hp':c7 (c7 (d8 a v) (d8 c v)) n=⟨0,0,0⟩:=by
  have:∀x y:V3,c7 x y=⟨-(c7 y x).x,-(c7 y x).y,-(c7 y x).z⟩:=λx y=>by simp only[c7,V3.mk.injEq];refine⟨?_,?_,?_⟩<;>grind
  rw[this,hp];rfl
 have d1:=ma4 (d:=d8 v o) hp';have d2:dot (c7 (d8 a v) (d8 c v)) n=orp n a c v:=by rw[ld5];exact vb7 _ _
 rw[d2,A3 n v o] at d1;rw[e];exact d1
theorem cd5{k x m y:Int}(hk:0<k)(hy:0<y)(e:k*x=m*y):0<x↔0<m:=by
 constructor
 ·intro hx
  have:=Qke hk hx
  apply Qka;intro hno
  have:=Int.mul_nonpos_of_nonpos_of_nonneg (show m<=0 by omega) (show 0<=y by omega)
  omega
 ·intro hm
  have:=Qke hm hy
  apply Qka;intro hno
  have:=Int.mul_nonpos_of_nonneg_of_nonpos (show 0<=k by omega) (show x<=0 by omega)
  omega
section
variable{l:List V3}{T:V3->V3}{r0 r1 r2:V3}(h:Lin T r0 r1 r2)(hc:ea1 l=0)(hm:(l.map T).all inV=true)
include h hc hm
theorem Lin.chk:ea1 (l.map T)=0:=by
 obtain⟨h48,hl,hs⟩:=ga1 hc;have hS:=h.sim hl hm;exact db9 (by rw[Qkp];omega) hm (hS.sol.1 hs)
theorem Lin.cone{p q:Pln}(hp:p∈F0 l)(hq:q∈F0 (l.map T))(hcar:Car l T p q)(o:V3):CN q (N7 (l.map T)) (T o)=sgn (dot r0 (c7 r1 r2))*dot r0 (c7 r1 r2)*CN p (N7 l) o:=by
 obtain⟨h48,hl,hs⟩:=ga1 hc;have hS:=h.sim hl hm;have hs':=hS.sol.1 hs;have hc':=Lin.chk h hc hm;have hX:=ic9 hc;have hX':=ic9 hc';have hpS:=(F8 hl p).1 hp;have hqS:=(F8 hm q).1 hq;have hR:=hX.rim (Ob7 hl hs hpS);have hR':=hX'.rim (Ob7 hm hs' hqS);obtain⟨_,_,_,_,_,_,_,_,_,_,_,hall⟩:=hcar;have mem:∀w,w∈onF q (N7 (l.map T))↔∃v∈onF p (N7 l),w=T v:=λw=>by
  rw[C0];unfold N7;rw[hS.ext_mem hs];constructor
  ·rintro⟨⟨v,hv,rfl⟩,e⟩;exact⟨v,C0.2 ⟨hv,(hall v (ia1 hl hs hv)).2 e⟩,rfl⟩
  ·rintro⟨v,hv,rfl⟩;obtain⟨h1,h2⟩:=C0.1 hv;exact⟨⟨v,h1,rfl⟩,(hall v (ia1 hl hs h1)).1 h2⟩
 have mT:∀v∈onF p (N7 l),T v∈onF q (N7 (l.map T)):=λv hv=>(mem _).2 ⟨v,hv,rfl⟩
 have inl:∀v∈onF p (N7 l),v∈l:=λv hv=>ia1 hl hs (C0.1 hv).1
 -- a point behind the facet
 obtain⟨b,hb,hoff⟩:=hs.off (Sa8 hpS.ok) p.b;have hblt:dot p.n b<p.b:=by have:=hpS.hd b hb;omega
 have hblt':dot q.n (T b)<q.b:=by
  have h1:=hqS.hd (T b) (Qkb.2 ⟨b,hb,rfl⟩);have h2:dot q.n (T b)≠q.b:=λe=>hoff ((hall b hb).2 e)
  omega
 have nn:=Z8 hR.n0;have nn':=Z8 hR'.n0;have on:=λv hv=>(C0 (p:=p) (X:=N7 l) (v:=v)).1 hv |>.2
 have on':=λv hv=>(C0 (p:=q) (X:=N7 (l.map T)) (v:=v)).1 hv |>.2
 have s1:∀a c v,a∈onF p (N7 l)->c∈onF p (N7 l)->v∈onF p (N7 l)->(0<dt3 a c v b↔0<orp p.n a c v):=λa c v ha hc hv =>
  cd5 nn (show 0<dot p.n v-dot p.n b by rw[on v hv];omega) (td0 (by rw[on a ha,on v hv]) (by rw[on c hc,on v hv]) b)
 have s2:∀a c v,a∈onF p (N7 l)->c∈onF p (N7 l)->v∈onF p (N7 l)->(0<dt3 (T a) (T c) (T v) (T b)↔0<orp q.n (T a) (T c) (T v)):=λa c v ha hc hv =>
  cd5 nn' (show 0<dot q.n (T v)-dot q.n (T b) by rw[on' _ (mT v hv)];omega) (td0 (by rw[on' _ (mT a ha),on' _ (mT v hv)]) (by rw[on' _ (mT c hc),on' _ (mT v hv)]) (T b))
 have hinj:∀a∈onF p (N7 l),∀c∈onF p (N7 l),T a=T c->a=c:=λa ha c hc e=>hS.inj (inl a ha) (inl c hc) e
 -- the parts of the sum
 obtain⟨c0,hc0⟩:∃c0,ptF p (N7 l)=c0:=⟨_,rfl⟩;have mc0:c0∈onF p (N7 l):=hc0 ▸ hX.pt (Ob7 hl hs hpS);have md:=hX'.pt (Ob7 hm hs' hqS);have k0:CN q (N7 (l.map T)) (T o)=AR (onF q (N7 (l.map T))) q.n (d8 (T c0) (T o)):=by
  have z:=hR'.ar_perp (d:=d8 (ptF q (N7 (l.map T))) (T c0)) (hR'.perp md (mT c0 mc0));unfold CN;rw[uc4] at z;rw[uc4,uc4];have z:AR (onF q (N7 (l.map T))) q.n (ptF q (N7 (l.map T)))-AR (onF q (N7 (l.map T))) q.n (T c0)=0:=z;omega
 have hperm:(onF q (N7 (l.map T))).Perm ((onF p (N7 l)).map T):=by
  refine rd9 hR'.nd ?_ λw=>?_
  ·have key : ∀ L : List V3, L.Nodup → (∀ v ∈ L, v ∈ onF p (N7 l)) → (L.map T).Nodup := fun L => by
    induction L with
    |nil=>intro _ _;simp
    |cons a L ih =>
     intro hnd hsub;rw[Qkad] at hnd;rw[Qkao,Qkad];refine⟨λhmem=>?_,ih hnd.2 λv hv=>hsub v (Qkt _ hv)⟩
     obtain⟨c,hcL,e⟩:=Qkb.1 hmem
     have:=hinj c (hsub c (Qkt _ hcL)) a (hsub a List.mem_cons_self) e
     subst this;exact hnd.1 hcL
   exact key _ hR.nd λv hv=>hv
  ·rw[mem,Qkb];constructor
   ·rintro⟨v,hv,rfl⟩;exact⟨v,hv,rfl⟩
   ·rintro⟨v,hv,rfl⟩;exact⟨v,hv,rfl⟩
 have k1:CN q (N7 (l.map T)) (T o)=sig (onF p (N7 l)) λa=>D3 (d8 (T a) (T o)) (d8 (nxt (onF q (N7 (l.map T))) q.n (T a)) (T o)) (d8 (T c0) (T o)):=by
  rw[k0,<- hR'.ar_o (T o),Ob5 hperm,vb6]
 have k2:CN p (N7 l) o=sig (onF p (N7 l)) λa=>D3 (d8 a o) (d8 (nxt (onF p (N7 l)) p.n a) o) (d8 c0 o):=by
  unfold CN;rw[hc0,<- hR.ar_o o]
 rw[k1,k2,<- ic8];have hd:=h.det;by_cases hpos:0<dot r0 (c7 r1 r2)
 ·have e1:sgn (dot r0 (c7 r1 r2))=1:=by unfold sgn;rw[if_pos hpos]
  rw[e1,Qkal];refine K3 λa ha=>?_
  have hedge:Edg (onF q (N7 (l.map T))) q.n (T a) (T (nxt (onF p (N7 l)) p.n a)):=by
   obtain⟨x1,x2,x3,x4⟩:=hR.nx ha;refine⟨mT a ha,mT _ x2,λe=>x3 (hinj a ha _ x2 e),λw hw wa wc=>?_⟩
   obtain⟨v,hv,rfl⟩:=(mem w).1 hw;refine (s2 a _ v ha x2 hv).1 ?_;rw[h.det3];exact Qke hpos ((s1 a _ v ha x2 hv).2 (x4 v hv (λe=>wa (by rw[e])) λe=>wc (by rw[e])))
  rw[<- (hR'.edg_iff (mT a ha)).1 hedge];exact h.det3 a _ c0 o
 ·have e1:sgn (dot r0 (c7 r1 r2))=-1:=by unfold sgn;rw[if_neg hpos]
  rw[e1];rw[<- hR.sig_nx λa=>D3 (d8 (T a) (T o)) (d8 (nxt (onF q (N7 (l.map T))) q.n (T a)) (T o)) (d8 (T c0) (T o))]
  refine K3 λa ha=>?_
  obtain⟨x1,x2,x3,x4⟩:=hR.nx ha;have hedge:Edg (onF q (N7 (l.map T))) q.n (T (nxt (onF p (N7 l)) p.n a)) (T a):=by
   refine⟨mT _ x2,mT a ha,λe=>x3 (hinj a ha _ x2 e.symm),λw hw wc wa=>?_⟩
   obtain⟨v,hv,rfl⟩:=(mem w).1 hw;refine (s2 _ a v x2 ha hv).1 ?_;rw[h.det3];have h3:=x4 v hv (λe=>wa (by rw[e])) λe=>wc (by rw[e])
   have h4:=(s1 a _ v ha x2 hv).2 h3;have h5:dt3 (nxt (onF p (N7 l)) p.n a) a v b=-dt3 a (nxt (onF p (N7 l)) p.n a) v b:=by simp only[dt3,D3,dot,c7,d8];grind
   rw[h5]
   have:=Qke (show 0 < -dot r0 (c7 r1 r2) by omega) h4
   rw[Qkl] at this;rw[Qkv];exact this
  rw[<- (hR'.edg_iff (mT _ x2)).1 hedge];have h6:=h.det3 a (nxt (onF p (N7 l)) p.n a) c0 o;have h7:D3 (d8 (T (nxt (onF p (N7 l)) p.n a)) (T o)) (d8 (T a) (T o)) (d8 (T c0) (T o))=-dt3 (T a) (T (nxt (onF p (N7 l)) p.n a)) (T c0) (T o):=by simp only[dt3,D3,dot,c7];grind
  rw[h7,h6];show -(dot r0 (c7 r1 r2)*dt3 a (nxt (onF p (N7 l)) p.n a) c0 o)=-1*dot r0 (c7 r1 r2)*dt3 a (nxt (onF p (N7 l)) p.n a) c0 o;rw[Qkl,Qkal,Qkl]
open Classical in
theorem Lin.six:aa9 (l.map T)=(sgn (dot r0 (c7 r1 r2))*dot r0 (c7 r1 r2)*(aa9 l).1,0):=by
 obtain⟨h48,hl,hs⟩:=ga1 hc;have hS:=h.sim hl hm;have hs':=hS.sol.1 hs;have hc':=Lin.chk h hc hm;rw[cd4 hc' (T ⟨0,0,0⟩),cd4 hc ⟨0,0,0⟩];congr 1;have hex:∀p:Pln,∃q:Pln,p∈F0 l->q∈F0 (l.map T)/\Car l T p q:=λp=>by
  by_cases hp:p∈F0 l
  ·obtain⟨q,hq,hcar⟩:=Sim.upf hS hs hs' hp;exact⟨q,λ_=>⟨hq,hcar⟩⟩
  ·exact⟨p,λk=>absurd k hp⟩
 obtain⟨f,hf⟩:=Qkaj hex;have hnd:((F0 l).map f).Nodup:=by
  have key:∀L:List Pln,L.Nodup->(∀v∈L,v∈F0 l)->(L.map f).Nodup:=λL=>by
   induction L with
   |nil=>intro _ _;simp
   |cons a L ih =>
    intro hnd hsub;rw[Qkad] at hnd;rw[Qkao,Qkad];refine⟨λhmem=>?_,ih hnd.2 λv hv=>hsub v (Qkt _ hv)⟩
    obtain⟨c,hcL,e⟩:=Qkb.1 hmem;have ma:=hsub a List.mem_cons_self;have mc:=hsub c (Qkt _ hcL);obtain⟨u,w,x,hu,hw,hx,h3,⟨p1,p2,p3⟩,q1,q2,q3,_⟩:=(hf a ma).2;obtain⟨_,_,_,_,_,_,_,_,_,_,_,hall⟩:=(hf c mc).2
    have:a=c:=Ob6 hl hs ((F8 hl a).1 ma) ((F8 hl c).1 mc) hu hw hx h3 p1 p2 p3 ((hall u hu).2 (by rw[e];exact q1)) ((hall w hw).2 (by rw[e];exact q2)) ((hall x hx).2 (by rw[e];exact q3))
    subst this;exact hnd.1 hcL
  exact key _ (Qd8 l) λv hv=>hv
 have hperm:((F0 l).map f).Perm (F0 (l.map T)):=uc1 hnd (Qd8 _) (λq hq=>by
  obtain⟨p,hp,rfl⟩:=Qkb.1 hq;exact (hf p hp).1) (by rw[Qkp,Sim.len hS hs hs'];exact Nat.le_refl _)
 rw[<- Ob5 hperm,vb6,<- ic8];exact K3 λp hp=>Lin.cone h hc hm hp (hf p hp).1 (hf p hp).2 _
end
theorem pcE(x:List Int):(R3 x).1::(R3 x).2=o7 x:=by
 have h:=Yc7 x;unfold R3;cases hL:o7 x with
 |nil=>rw[hL] at h;simp at h
 |cons a l=>rfl
theorem vc5(x:List Int):pa3 x=some (eL tV (o7 (x.take 40)),[]):=by
 have hwl:((if (40:Int)<(↑(List.length x):Int) then (40:Int) else (↑(List.length x):Int)).toNat-0)=(x.take 40).length:=by
  rw[List.length_take];split<;>omega
 have hin:inB (if (40:Int)<(↑(List.length x):Int) then (40:Int) else (↑(List.length x):Int)) (x.length+1)=true:=by
  split
  ·exact i6 (j:=40) (by omega)
  ·exact i6 (by omega)
 have hg:∀k,k<(x.take 40).length->(λk=>(λk=>tI.row (gL tI x k)) (0+k)) k=tI.row (gL tI (x.take 40) k):=λk hk=>by
  show tI.row (gL tI x (0+k))=_;have hk8:k<40:=by rw[List.length_take] at hk;omega
  rw[Nat.zero_add,sc7 tI x hk8]
 have h4:Nat.ble 1 (o7 (x.take 40)).length=true:=by
  have:=(Yc7 (x.take 40)).1
  rw[Nat.ble_eq];omega
 unfold pa3;rw[hin,hwl,Qb3 tI rfl hg,Xa9 tI (f:=λk=>gL tI (x.take 40) k) hg]
 simp only[Ld3,h4,pcE];rfl
theorem md0(x:List Int):Aa8 x=o7 (x.take 40):=by
 unfold Aa8;rw[vc5];exact Ec6 _ (by
  show (r1L tV).rd [] (eL tV _)=_;show Bool.rec (motive:=λ_=>Option (List V3)) none (some (rL tV (eL tV (o7 (x.take 40))))) (okE tV (o7 (x.take 40)))=_
  rw[ra6];exact congrArg some (r5 tV _))
theorem md1(x:List Int):Aa9 x=true:=by
 unfold Aa9;rw[vc5];exact Yc1 (one (r1L tV)) (r:=o7 (x.take 40)) (by
  show Bool.rec (motive:=λ_=>Option (List V3)) none (some (rL tV (eL tV (o7 (x.take 40))))) (okE tV (o7 (x.take 40)))=_
  rw[ra6];exact congrArg some (r5 tV _))
theorem Mp.chk{l:List V3}(h:Mp l):ea1 l=0:=db9 (by have:=h.l8;omega) h.inV (qe8 h.nf)
structure B4 where
 e0:Int
 e1:Int
 e2:Int
 e3:Int
def Ae4:List b7->Bool
 |[.v (.int .u8 _),.v (.int .u8 _),.v (.int .u8 _),.v (.int .u8 _)]=>true
 |_=>false
def Ge8:List b7->B4
 |[.v (.int .u8 x),.v (.int .u8 y),.v (.int .u8 z),.v (.int .u8 u)]=>⟨x,y,z,u⟩
 |_=>⟨0,0,0,0⟩
noncomputable def tE:Ty B4 where
 es:=4
 row x:=[.v (.int .u8 x.e0),.v (.int .u8 x.e1),.v (.int .u8 x.e2),.v (.int .u8 x.e3)]
 rd:=Ge8
 ok:=Ae4
 cks:=List.replicate 4 (.int .u8)
 d:=⟨0,0,0,0⟩
 h0 _:=rfl
 h1 _:=rfl
 h2 _:=rfl
 h3 r h:=by
  unfold Ae4 at h
  split at h
  ·exact .refl _
  ·cases h
 h4 _:=rfl
 h5 _:=rfl
structure I4 where
 o0:Int
 o1:Int
 o2:Int
 o3:Int
def Ae5:List b7->Bool
 |[.v (.int .i64 _),.v (.int .i64 _),.v (.int .i64 _),.v (.int .i64 _)]=>true
 |_=>false
def Ge9:List b7->I4
 |[.v (.int .i64 x),.v (.int .i64 y),.v (.int .i64 z),.v (.int .i64 u)]=>⟨x,y,z,u⟩
 |_=>⟨0,0,0,0⟩
noncomputable def tK:Ty I4 where
 es:=4
 row x:=[i x.o0,i x.o1,i x.o2,i x.o3]
 rd:=Ge9
 ok:=Ae5
 cks:=List.replicate 4 (.int .i64)
 d:=⟨0,0,0,0⟩
 h0 _:=rfl
 h1 _:=rfl
 h2 _:=rfl
 h3 r h:=by
  unfold Ae5 at h
  split at h
  ·exact .refl _
  ·cases h
 h4 _:=rfl
 h5 _:=rfl
noncomputable def lb2:List (Nat×Sum):=[(17,Wa9)]
theorem Wb5:k8 prog G lb2:=⟨ib7,trivial⟩
structure Y6 where
 (n9 q8 q9 U3:Int)
structure C3 where
 (is5 e7 d9 f7:Int)
noncomputable def Xa0(p:Y6)(s:C3):St:=⟨.unk::.unk::.ptr 0 0 0 0::.ptr 1 0 0 0::.ptr 2 0 0 0::i s.is5::ra 39 [],[⟨0,3,[[i s.e7,i s.d9,i s.f7]],true,false,0⟩,⟨0,4,[[i p.n9,i p.q8,i p.q9,i p.U3]],true,false,0⟩,⟨0,3,[[i 0,i 0,i 0]],true,false,0⟩]⟩
noncomputable def J6{α:Type}(k:C3->α)(e:Nat->α)(z:α)(p:Y6)(s:C3):α:=let t1:=(u9 s.d9 s.f7 s.e7);(sl (decide (s.is5<p.n9)) (k ⟨W (s.is5+1),t1.x,t1.y,t1.z⟩) (e 1))
noncomputable def ma5(p:Y6)(s:C3):Stp C3:=J6 .next .exit .fail p s
noncomputable def Da7:Lo Y6 C3:=⟨En lb2,0,ve8,[1,0,1,4,4],[2,3,4,5],.p,[⟨sUq::sUq::sPq 0::sPq 1::sPq 2::sIq::ru2 39 [],[⟨0,3,true,some [kLq 3]⟩,⟨0,4,true,some [kLq 4]⟩,⟨0,3,true,some [[.o (.lit .i64 0),.o (.lit .i64 0),.o (.lit .i64 0)]]⟩],λa H=>(⟨hIq H 1 0 0,hIq H 1 0 1,hIq H 1 0 2,hIq H 1 0 3⟩,⟨aIq a 5,hIq H 0 0 0,hIq H 0 0 1,hIq H 0 0 2⟩)⟩],ma5,[(some 0,λp s=>upq (Xa0 p s) [(6,i s.is5),(7,.ptr 1 0 0 0),(8,i p.n9),(9,b (decide (s.is5<p.n9)))])],Xa0⟩
theorem Pb0:Da7.Ok:=Lo.ok [] (by kernel_rfl) .nil rfl (.cons (λa H=>by kernel_rfl) .nil) λp s=>(.of @J6 (λF _ _ _ _ _=>by unfold J6;(repeat' apply r9 (f:=F))<;>rfl) (by kernel_rfl))
noncomputable def pa5(x:V3)(y:I4):Option (b7×List c8):=let t1:=(lp (ma5 (⟨y.o0,y.o1,y.o2,y.o3⟩:Y6)) (⟨0,x.x,x.y,x.z⟩:C3));(sl (Nat.beq t1.1 1) (sl (y.o1==1) (some (.agg [i (W (0-t1.2.e7)),i (W (t1.2.d9+(W (y.o2*(W (0-t1.2.e7)))))),i (W (t1.2.f7+(W (y.o3*(W (t1.2.d9+(W (y.o2*(W (0-t1.2.e7))))))))))],[])) (some (.agg [i t1.2.e7,i (W (t1.2.d9+(W (y.o2*t1.2.e7)))),i (W (t1.2.f7+(W (y.o3*(W (t1.2.d9+(W (y.o2*t1.2.e7))))))))],[]))) none)
noncomputable def N1(x:V3)(y:I4):V3:=U8 (one r1V) (pa5 x y)
noncomputable def pa6(x:V3)(y:I4):Bool:=okO (one r1V) (pa5 x y)
noncomputable def sb6:Sum:=Ca2 (U7 tV) (U7 tK) (λx y=>.guard (pa6 x y) (.ret ((one r1V).enc (N1 x y),[])))
theorem gc1:i4 prog G 19 sb6:=Qb4 (bd b19 Wb5) (one r1V) (o:=pa5) λx y=>bb4 (.s .p (.s (.s .p (.b (.u Da7.ls))) .p)) [Da7.pr] (by kernel_rfl) (.cons Pb0 .nil) (by kernel_rfl)
noncomputable def Ha8:List (Nat×Sum):=[(8,sb5),(9,sb3),(11,Aa6),(17,Wa9),(19,sb6),(18,Yb3),(20,Qa5),(21,sb4)]
theorem lb8:k8 prog G Ha8:=⟨gc0,fc8,Fa9,ib7,gc1,Lc8,Va9,Ob8,trivial⟩
structure r7 where
 bs7:Bool
 (is9 v7:Int)
 Da9:List V3
 (md5 e7 d9 f7 n9 q8 q9 U3:Int)
structure i8 where
 ph:Nat
 (Cd7 cd7:Bool)
 Na1:Int
 (Fb5 jb0:Nat)
 (eh2 eh3:List (List b7))
noncomputable def xa0(p:r7)(s:i8):St:=⟨ra 7 (b p.bs7::.unk::i p.is9::i p.v7::.ptr 0 0 0 0::.ptr 1 0 0 0::.v (.slice none 0 0)::.v (.slice none 0 0)::b s.Cd7::b s.cd7::ra 45 (eL tV p.Da9::i p.md5::i s.Na1::ra 62 [])),[⟨0,3,[[i p.e7,i p.d9,i p.f7]],true,false,0⟩,⟨0,4,[[i p.n9,i p.q8,i p.q9,i p.U3]],true,false,0⟩]⟩
noncomputable def xa1(p:r7)(s:i8):St:=⟨ra 7 (b p.bs7::.unk::i p.is9::i p.v7::.ptr 0 0 0 0::.ptr 1 0 0 0::.sl 2 0 s.Fb5 0::.sl 3 0 s.jb0 0::b s.Cd7::b s.cd7::ra 45 (eL tV p.Da9::i p.md5::i s.Na1::ra 62 [])),[⟨0,3,[[i p.e7,i p.d9,i p.f7]],true,false,0⟩,⟨0,4,[[i p.n9,i p.q8,i p.q9,i p.U3]],true,false,0⟩,⟨25,3,s.eh2,true,false,0⟩,⟨25,3,s.eh3,true,false,0⟩]⟩
noncomputable def ib8(p:r7)(s:i8):St:=(sel (Nat.beq s.ph 1) (xa1 p s) (xa0 p s))
noncomputable def K6{α:Type}(k:i8->α)(e:Nat->α)(z:α)(p:r7)(s:i8):α:=let t1:=(N1 (gL tV p.Da9 s.Na1.toNat) (⟨p.n9,p.q8,p.q9,p.U3⟩:I4));let t2:=(R6 t1 (⟨p.e7,p.d9,p.f7⟩:V3));let t3:=(R6 (gL tV p.Da9 s.Na1.toNat) (gL tV p.Da9 s.Na1.toNat));let t4:=(P1 t2);let t5:=(P1 t3);(sl (decide (s.Na1<p.md5)) (sl (inB s.Na1 (List.length p.Da9)) (sl (pa6 (gL tV p.Da9 s.Na1.toNat) (⟨p.n9,p.q8,p.q9,p.U3⟩:I4)) (sl s.Cd7 (sl (J5 t2) (sl s.cd7 (sl (J5 t3) (k ⟨1,t4,t5,W (s.Na1+1),1,1,[[i t2.x,i t2.y,i t2.z]],[[i t3.x,i t3.y,i t3.z]]⟩) z) (k ⟨1,t4,false,W (s.Na1+1),1,1,[[i t2.x,i t2.y,i t2.z]],[[i t3.x,i t3.y,i t3.z]]⟩)) z) (sl s.cd7 (sl (J5 t3) (k ⟨1,false,t5,W (s.Na1+1),1,1,[[i t2.x,i t2.y,i t2.z]],[[i t3.x,i t3.y,i t3.z]]⟩) z) (k ⟨1,false,false,W (s.Na1+1),1,1,[[i t2.x,i t2.y,i t2.z]],[[i t3.x,i t3.y,i t3.z]]⟩))) z) z) (e 1))
noncomputable def A4{α:Type}(k:i8->α)(e:Nat->α)(z:α)(p:r7)(s:i8):α:=let t1:=(N1 (gL tV p.Da9 s.Na1.toNat) (⟨p.n9,p.q8,p.q9,p.U3⟩:I4));let t2:=(R6 t1 (⟨p.e7,p.d9,p.f7⟩:V3));let t3:=(R6 (gL tV p.Da9 s.Na1.toNat) (gL tV p.Da9 s.Na1.toNat));let t4:=(P1 (rdR tV (app s.eh2 [[i t2.x,i t2.y,i t2.z]]) (0+(W ((↑(s.Fb5+1):Int)-1)).toNat)));let t5:=(P1 (rdR tV (app s.eh3 [[i t3.x,i t3.y,i t3.z]]) (0+(W ((↑(s.jb0+1):Int)-1)).toNat)));(sl (decide (s.Na1<p.md5)) (sl (inB s.Na1 (List.length p.Da9)) (sl (pa6 (gL tV p.Da9 s.Na1.toNat) (⟨p.n9,p.q8,p.q9,p.U3⟩:I4)) (sl (Nat.beq s.Fb5 (len s.eh2)&&Nat.ble ((s.Fb5+1)*24) room) (sl (Nat.beq s.jb0 (len s.eh3)&&Nat.ble ((s.jb0+1)*24) room) (sl s.Cd7 (sl (inB (W ((↑(s.Fb5+1):Int)-1)) (s.Fb5+1)) (sl (ldR tV (app s.eh2 [[i t2.x,i t2.y,i t2.z]]) (0+(W ((↑(s.Fb5+1):Int)-1)).toNat)) (sl (J5 (rdR tV (app s.eh2 [[i t2.x,i t2.y,i t2.z]]) (0+(W ((↑(s.Fb5+1):Int)-1)).toNat))) (sl s.cd7 (sl (inB (W ((↑(s.jb0+1):Int)-1)) (s.jb0+1)) (sl (ldR tV (app s.eh3 [[i t3.x,i t3.y,i t3.z]]) (0+(W ((↑(s.jb0+1):Int)-1)).toNat)) (sl (J5 (rdR tV (app s.eh3 [[i t3.x,i t3.y,i t3.z]]) (0+(W ((↑(s.jb0+1):Int)-1)).toNat))) (k ⟨1,t4,t5,W (s.Na1+1),s.Fb5+1,s.jb0+1,app s.eh2 [[i t2.x,i t2.y,i t2.z]],app s.eh3 [[i t3.x,i t3.y,i t3.z]]⟩) z) z) z) (k ⟨1,t4,false,W (s.Na1+1),s.Fb5+1,s.jb0+1,app s.eh2 [[i t2.x,i t2.y,i t2.z]],app s.eh3 [[i t3.x,i t3.y,i t3.z]]⟩)) z) z) z) (sl s.cd7 (sl (inB (W ((↑(s.jb0+1):Int)-1)) (s.jb0+1)) (sl (ldR tV (app s.eh3 [[i t3.x,i t3.y,i t3.z]]) (0+(W ((↑(s.jb0+1):Int)-1)).toNat)) (sl (J5 (rdR tV (app s.eh3 [[i t3.x,i t3.y,i t3.z]]) (0+(W ((↑(s.jb0+1):Int)-1)).toNat))) (k ⟨1,false,t5,W (s.Na1+1),s.Fb5+1,s.jb0+1,app s.eh2 [[i t2.x,i t2.y,i t2.z]],app s.eh3 [[i t3.x,i t3.y,i t3.z]]⟩) z) z) z) (k ⟨1,false,false,W (s.Na1+1),s.Fb5+1,s.jb0+1,app s.eh2 [[i t2.x,i t2.y,i t2.z]],app s.eh3 [[i t3.x,i t3.y,i t3.z]]⟩))) z) z) z) z) (e 2))
noncomputable def N2(p:r7)(s:i8):Stp i8:=(sel (Nat.beq s.ph 1) (A4 .next .exit .fail p s) (K6 .next .exit .fail p s))
noncomputable def ma0:Lo r7 i8:=⟨En Ha8,0,pf4,[1,1,1,1,1,1,1,1,0,1,4,4],[7,9,10,11,12,13,14,15,16,62,63,64],.p,[⟨ru2 7 (sBq::sUq::sIq::sIq::sPq 0::sPq 1::.s (.o .nil)::.s (.o .nil)::sBq::sBq::ru2 45 (sLq tV::sIq::sIq::ru2 62 [])),[⟨0,3,true,some [kLq 3]⟩,⟨0,4,true,some [kLq 4]⟩],λa H=>(⟨aBq a 7,aIq a 9,aIq a 10,aLq tV a 62,aIq a 63,hIq H 0 0 0,hIq H 0 0 1,hIq H 0 0 2,hIq H 1 0 0,hIq H 1 0 1,hIq H 1 0 2,hIq H 1 0 3⟩,⟨0,aBq a 15,aBq a 16,aIq a 64,0,0,[],[]⟩)⟩,⟨ru2 7 (sBq::sUq::sIq::sIq::sPq 0::sPq 1::.s (.o (.sl 2 0 (some 0) none))::.s (.o (.sl 3 0 (some 0) none))::sBq::sBq::ru2 45 (sLq tV::sIq::sIq::ru2 62 [])),[⟨0,3,true,some [kLq 3]⟩,⟨0,4,true,some [kLq 4]⟩,⟨25,3,true,none⟩,⟨25,3,true,none⟩],λa H=>(⟨aBq a 7,aIq a 9,aIq a 10,aLq tV a 62,aIq a 63,hIq H 0 0 0,hIq H 0 0 1,hIq H 0 0 2,hIq H 1 0 0,hIq H 1 0 1,hIq H 1 0 2,hIq H 1 0 3⟩,⟨1,aBq a 15,aBq a 16,aIq a 64,slN (slT a 13),slN (slT a 14),elT H 2,elT H 3⟩)⟩],N2,[(some 0,λp s=>upq (xa0 p s) [(65,b (decide (s.Na1<p.md5)))]),(some 0,λp s=>upq (xa1 p s) [(65,b (decide (s.Na1<p.md5)))])],ib8⟩
theorem ib9:ma0.Ok:=Lo.ok [] (by kernel_rfl) .nil rfl (.cons (λa H=>by kernel_rfl) (.cons (λa H=>by kernel_rfl) .nil)) λp s=>(.sel (Nat.beq s.ph 1) (.of @A4 (λF _ _ _ _ _=>by unfold A4;(repeat' apply r9 (f:=F))<;>rfl) (by kernel_rfl)) (.of @K6 (λF _ _ _ _ _=>by unfold K6;(repeat' apply r9 (f:=F))<;>rfl) (by kernel_rfl)))
noncomputable def W0(x:List Int)(y:B3)(z:B4):Option (b7×List c8):=let t1:=Ba1;let t2:=(Aa8 (rt tI x));let t3:=(M9 (rt tV t2));let t4:=(u9 (W ((W (Int.tmod y.b0 9))-4)) (W ((W (Int.tmod y.b1 9))-4)) (W ((W (Int.tmod y.b2 9))-4)));let t5:=(lp (N2 (⟨t1,t3.1,t3.2,rt tV t2,(↑(List.length t2):Int),t4.x,t4.y,t4.z,Int.tmod (W z.e0) 3,Int.tmod (W z.e1) 2,W ((Int.tmod (W z.e2) 3)-1),W ((Int.tmod (W z.e3) 3)-1)⟩:r7)) (⟨0,true,true,0,0,0,[],[]⟩:i8));let t6:=(K4 [] (W (8*t3.1)));let t7:=(K4 [] t3.1);let t8:=(K4 (slR tV t5.2.eh3 0 t5.2.jb0) (W (8*t3.1)));let t9:=(K4 (slR tV t5.2.eh2 0 t5.2.Fb5) t3.1);let w0:Option (b7×List c8):=(sl (!t5.2.cd7) (some (b true,[])) (sl (okS tV t5.2.eh3 0 t5.2.jb0) (sl (K5 (slR tV t5.2.eh3 0 t5.2.jb0) (W (8*t3.1))) (some (b t8,[])) none) none));let w1:Option (b7×List c8):=(sl (!t5.2.cd7) (some (b true,[])) (sl (K5 [] (W (8*t3.1))) (some (b t6,[])) none));(sl Ba2 (sl (okE tI x) (sl (Aa9 (rt tI x)) (sl (okE tV t2) (sl (N0 (rt tV t2)) (sl ((cnE tV t2)&&true) (sl (Nat.beq t5.1 1) (sl t1 (sl (t3.2==0) (sl (!t5.2.Cd7) w1 (sl (K5 [] t3.1) (sl t7 w1 (some (b false,[]))) none)) (some (b false,[]))) (some (b false,[]))) (sl (Nat.beq t5.1 2) (sl t1 (sl (t3.2==0) (sl (!t5.2.Cd7) w0 (sl (okS tV t5.2.eh2 0 t5.2.Fb5) (sl (K5 (slR tV t5.2.eh2 0 t5.2.Fb5) t3.1) (sl t9 w0 (some (b false,[]))) none) none)) (some (b false,[]))) (some (b false,[]))) none)) none) none) none) none) none) none)
noncomputable def ea7(x:List Int)(y:B3)(z:B4):Bool:=U8 (one r1B) (W0 x y z)
noncomputable def ea8(x:List Int)(y:B3)(z:B4):Bool:=okO (one r1B) (W0 x y z)
noncomputable def xb1:Sum:=Ib8 (ya3 tI) (U7 tW) (U7 tE) (λx y z=>.guard (ea8 x y z) (.ret ((one r1B).enc (ea7 x y z),[])))
theorem sb7:i4 prog G 4 xb1:=Wd8 (bd b4 lb8) (one r1B) (o:=W0) λx y z=>bb4 (.s .p (.s .p (.s .p (.s .p (.s .p (.s .p (.s .p (.s .p (.s (.s .p (.b (.u ma0.ls))) .p))))))))) [ma0.pr] (by kernel_rfl) (.cons ib9 .nil) (by kernel_rfl)
def te2(v:V3):V3:=⟨v.y,v.z,v.x⟩
def Da8:Nat->V3->V3
 |0,v=>v
 |n+1,v=>te2 (Da8 n v)
def Wb6(s a c:Int)(v:V3):V3:=⟨s*v.x,v.y+a*(s*v.x),v.z+c*(v.y+a*(s*v.x))⟩
theorem cd6(K:Y6)(v:V3)(m:Nat)(hK:K.n9=(m:Int))(hm:m<=1000):∃s,lp (ma5 K) ⟨0,v.x,v.y,v.z⟩=(1,s)/\s.e7=(Da8 m v).x/\s.d9=(Da8 m v).y/\s.f7=(Da8 m v).z:=by
 obtain⟨t,s,h,rfl,h2⟩:=R2 (step:=ma5 K) (mk:=λj (q:V3)=>(⟨(j:Int),q.x,q.y,q.z⟩:C3)) m (λj q=>j<=m/\q=Da8 j v) (λt s=>t=1/\s.e7=(Da8 m v).x/\s.d9=(Da8 m v).y/\s.f7=(Da8 m v).z) (by omega)
  (λj q hj hq=>by
   obtain⟨hj',rfl⟩:=hq;have hN:=C4 hj (show m<=4611686018427387904 by omega)
   show Nx (J6 Stp.next Stp.exit Stp.fail _ _) _ _;simp only[J6,hK,hN];rw[btD (o9 hj)];exact Nx.nx (s:=(⟨((j+1:Nat):Int),(Da8 (j+1) v).x,(Da8 (j+1) v).y,(Da8 (j+1) v).z⟩:C3)) (N:=λs=>∃q',s=(⟨((j+1:Nat):Int),q'.x,q'.y,q'.z⟩:C3)/\(j+1<=m/\q'=Da8 (j+1) v)) ⟨_,rfl,by omega,rfl⟩)
  (λj q hj hq=>by
   obtain⟨hj',rfl⟩:=hq;have e:j=m:=by omega
   subst e;refine⟨1,?_,rfl,rfl,rfl,rfl⟩;show J6 Stp.next Stp.exit Stp.fail _ _=_;simp only[J6,hK];rw[bfD (A1 (Qku _))]) 0 v ⟨Qkz _,rfl⟩
 exact⟨s,h,h2⟩
theorem td1{b:Int}(v:V3)(h:Sm b v.x/\Sm b v.y/\Sm b v.z):∀m,Sm b (Da8 m v).x/\Sm b (Da8 m v).y/\Sm b (Da8 m v).z
 |0=>h
 |m+1=>by
  obtain⟨a,c,d⟩:=td1 v h m;exact⟨c,d,a⟩
theorem Cd2 (K : I4) (v : V3) (m : Nat) (h0 : K.o0 = (m : Int)) (hm : m ≤ 1000) (h1 : K.o1 = 0 ∨ K.o1 = 1) (h2 : K.o2 = -1 ∨ K.o2 = 0 ∨ K.o2 = 1) (h3 : K.o3 = -1 ∨ K.o3 = 0 ∨ K.o3 = 1) (hv : Sm 11 v.x ∧ Sm 11 v.y ∧ Sm 11 v.z) :
  Rd (one r1V) (pa5 v K) (λr=>r=Wb6 (1-2*K.o1) K.o2 K.o3 (Da8 m v)/\Sm 33 r.x/\Sm 33 r.y/\Sm 33 r.z):=by
 obtain⟨s,e,e1,e2,e3⟩:=cd6 ⟨K.o0,K.o1,K.o2,K.o3⟩ v m h0 hm;obtain⟨⟨x1,x2⟩,⟨y1,y2⟩,z1,z2⟩:=td1 v hv m;generalize Da8 m v=u at *
 have q:∀{a x:Int} {n:Nat},(a=-1\/a=0\/a=1)->-(n:Int)<=x->x<=n->-(n:Int)<=a*x/\a*x<=n:=λ{a x n} ha h1 h2=>by
  rcases ha with rfl|rfl|rfl
  ·rw[Qkl,Qkal];omega
  ·rw[Qkm];omega
  ·rw[Qkal];omega
 unfold pa5;simp only[e,e1,e2,e3]
 rcases h1 with h1|h1
 ·rw[h1];obtain⟨a1,a2⟩:=q (n:=11) h2 x1 x2;have w1:W (K.o2*u.x)=K.o2*u.x:=J9 (by omega) (by omega)
  have w2:W (u.y+K.o2*u.x)=u.y+K.o2*u.x:=J9 (by omega) (by omega)
  obtain⟨b1,b2⟩:=q (n:=22) h3 (show -((22:Nat):Int)<=u.y+K.o2*u.x by omega) (show u.y+K.o2*u.x<=((22:Nat):Int) by omega)
  have w3:W (K.o3*(u.y+K.o2*u.x))=K.o3*(u.y+K.o2*u.x):=J9 (by omega) (by omega)
  have w4:W (u.z+K.o3*(u.y+K.o2*u.x))=u.z+K.o3*(u.y+K.o2*u.x):=J9 (by omega) (by omega)
  rw[w1,w2,w3,w4];refine⟨_,⟨u.x,u.y+K.o2*u.x,u.z+K.o3*(u.y+K.o2*u.x)⟩,rfl,rfl,?_,⟨by simp only;omega,by simp only;omega⟩,⟨by simp only;omega,by simp only;omega⟩,by simp only;omega,by simp only;omega⟩
  unfold Wb6;simp
 ·rw[h1];have w0:W (0-u.x)=-u.x:=by rw[J9 (by omega) (by omega)];omega
  obtain⟨a1,a2⟩:=q (n:=11) h2 (show -((11:Nat):Int)<=-u.x by omega) (show -u.x<=((11:Nat):Int) by omega)
  have w1:W (K.o2*-u.x)=K.o2*-u.x:=J9 (by omega) (by omega)
  have w2:W (u.y+K.o2*-u.x)=u.y+K.o2*-u.x:=J9 (by omega) (by omega)
  obtain⟨b1,b2⟩:=q (n:=22) h3 (show -((22:Nat):Int)<=u.y+K.o2*-u.x by omega) (show u.y+K.o2*-u.x<=((22:Nat):Int) by omega)
  have w3:W (K.o3*(u.y+K.o2*-u.x))=K.o3*(u.y+K.o2*-u.x):=J9 (by omega) (by omega)
  have w4:W (u.z+K.o3*(u.y+K.o2*-u.x))=u.z+K.o3*(u.y+K.o2*-u.x):=J9 (by omega) (by omega)
  rw[w0,w1,w2,w3,w4];refine⟨_,⟨-u.x,u.y+K.o2*-u.x,u.z+K.o3*(u.y+K.o2*-u.x)⟩,rfl,rfl,?_,⟨by simp only;omega,by simp only;omega⟩,⟨by simp only;omega,by simp only;omega⟩,by simp only;omega,by simp only;omega⟩
  unfold Wb6;simp
def Fb3(a c:V3):V3:=⟨a.x+c.x,a.y+c.y,a.z+c.z⟩
theorem td2{a c:V3}(ha:Sm 1000 a.x/\Sm 1000 a.y/\Sm 1000 a.z)(hc:Sm 1000 c.x/\Sm 1000 c.y/\Sm 1000 c.z):R6 a c=Fb3 a c:=by
 obtain⟨⟨a1,a2⟩,⟨a3,a4⟩,a5,a6⟩:=ha;obtain⟨⟨c1,c2⟩,⟨c3,c4⟩,c5,c6⟩:=hc;unfold R6 Fb3;rw[J9 (by omega) (by omega),J9 (by omega) (by omega),J9 (by omega) (by omega)]
theorem Sd9(m:Nat)(hm:m<=2)(s a c:Int)(hs:s=1\/s=-1)(t:V3):∃r0 r1 r2,Lin (λv=>Fb3 (Wb6 s a c (Da8 m v)) t) r0 r1 r2/\dot r0 (c7 r1 r2)=s:=by
 have hm:m=0\/m=1\/m=2:=by omega
 have hs0:s≠0:=by omega
 have e:∀r0 r1 r2:V3,dot r0 (c7 r1 r2)=s->(∀u w,d8 (Fb3 (Wb6 s a c (Da8 m u)) t) (Fb3 (Wb6 s a c (Da8 m w)) t)=⟨dot r0 (d8 u w),dot r1 (d8 u w),dot r2 (d8 u w)⟩)->∃r0 r1 r2,Lin (λv=>Fb3 (Wb6 s a c (Da8 m v)) t) r0 r1 r2/\dot r0 (c7 r1 r2)=s:=λr0 r1 r2 h1 h2=>⟨r0,r1,r2,⟨by rw[h1];exact hs0,h2⟩,h1⟩
 rcases hm with rfl|rfl|rfl
 ·refine e ⟨s,0,0⟩ ⟨a*s,1,0⟩ ⟨c*(a*s),c,1⟩ (by simp only[dot,c7];grind) λu w=>?_
  simp only[Fb3,Wb6,Da8,d8,dot,V3.mk.injEq];refine⟨?_,?_,?_⟩<;>grind
 ·refine e ⟨0,s,0⟩ ⟨0,a*s,1⟩ ⟨1,c*(a*s),c⟩ (by simp only[dot,c7];grind) λu w=>?_
  simp only[Fb3,Wb6,Da8,te2,d8,dot,V3.mk.injEq];refine⟨?_,?_,?_⟩<;>grind
 ·refine e ⟨0,0,s⟩ ⟨1,0,a*s⟩ ⟨c,1,c*(a*s)⟩ (by simp only[dot,c7];grind) λu w=>?_
  simp only[Fb3,Wb6,Da8,te2,d8,dot,V3.mk.injEq];refine⟨?_,?_,?_⟩<;>grind
theorem Cd3:Lin (λv=>Fb3 v v) ⟨2,0,0⟩ ⟨0,2,0⟩ ⟨0,0,2⟩/\dot ⟨2,0,0⟩ (c7 ⟨0,2,0⟩ ⟨0,0,2⟩)=8:=by
 refine⟨⟨by simp[dot,c7],λu w=>?_⟩,by simp[dot,c7]⟩
 simp only[Fb3,d8,dot,V3.mk.injEq];refine⟨?_,?_,?_⟩<;>grind
structure je2 where
 vc6:List V3
 (e7 d9 f7 l6:Int)
structure je3 where
 ph:Nat
 is6:Int
 ns5:Nat
 eh1:List (List b7)
structure te9 where
 (alt ns0:Nat)
 eh0:List (List b7)
structure Qc1 where
 bs5:Bool
 je6:List V3
 v7:Int
 He1:List Pln
 (He2 e7 d9 f7:Int)
structure Qc2 where
 (ge2 He3:Int)
theorem te3{l:List V3}(hc:ea1 l=0):Sm 100000000000000000 (aa9 l).1:=by
 obtain⟨h48,hl,h4⟩:=ga1 hc;have hX:=ic9 hc;have hlen:(N7 l).length<=48:=by have:=sd4 (l:=l);unfold N7;omega
 have hF:(F0 (N7 l)).length<=1000000:=tc2 hlen hX.iv;have hbs:=uc7 (l:=F0 (N7 l)) (B:=3057647616) (f:=λp=>AR (onF p (N7 l)) p.n (ptF p (N7 l))) λp hp=>hX.ar_bd hlen (hX.mem.1 hp)
 have hlt:(F0 (N7 l)).length*3057647616<=1000000*3057647616:=Qkac _ hF;unfold aa9;rw[if_pos hc];exact hbs.mono (by omega)
section
variable{l:List V3}(hc:ea1 l=0)(h40:l.length<=40){v:V3}(hv:inV v=true)(hin:∀p∈F0 l,dot p.n v<=p.b)
include hc h40 hv hin
end
end Go.Ev.Ce
