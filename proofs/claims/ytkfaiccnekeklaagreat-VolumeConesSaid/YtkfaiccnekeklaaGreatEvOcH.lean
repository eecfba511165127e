/- Own work. -/
import Derived.Test.YtkfaiccnekeklaaGreatEvOaTB
import Derived.ChangeStays
import Derived.ChangeSame
import Derived.OpenShut
import Derived.RowKit
set_option linter.all false
def Qka:=@Classical.byContradiction
def Qkb:=@List.mem_map
def Qkc:=@Int.mul_zero
def Qkd:=@List.all_eq_true
def Qke:=@List.mem_cons
def Qkf:=@Int.mul_eq_zero
def Qkg:=@Int.mul_nonneg
def Qkh:=@List.mem_singleton
def Qki:=@Int.mul_neg_of_pos_of_neg
def Qkj:=@Int.mul_pos
def Qkk:=@List.mem_filter
def Qkl:=@List.mem_append
def Qkm:=@List.getElem?_eq_getElem
def Qkn:=@Int.le_refl
def Qko:=@List.length_filter_le
def Qkp:=@Nat.lt_irrefl
def Qkq:=@Option.bind_eq_some_iff
def Qkr:=@Int.mul_le_mul_of_nonneg_right
def Qks:=@Int.add_zero
def Qkt:=@Nat.zero_le
def Qku:=@Int.eq_of_mul_eq_mul_left
def Qkv:=@List.append_nil
def Qkw:=@Int.sub_self
def Qkx:=@Int.zero_mul
def Qky:=@Int.mul_neg
def Qkz:=@List.not_mem_nil
def Qkaa:=@List.filter_cons
def Qkab:=@List.take_length
def Qkac:=@List.length_map
def Qkad:=@Int.mul_le_mul_of_nonneg_left
def Qkae:=@List.length_take_le
def Qkaf:=@List.getElem?_range
def Qkag:=@Int.neg_mul
def Qkah:=@Int.mul_lt_mul_of_pos_left
def Qkai:=@List.length_range
def Qkaj:=@Nat.zero_add
def Qkak:=@Nat.le_trans
def Qkal:=@Option.map_eq_some_iff
def Qkam:=@List.length_pos_of_mem
def Qkan:=@List.mem_range
def Qkao:=@Go.Ev.Ce.V3.ext'
namespace Go.Ev.Ce
open Go Go.Ev Go.Ev.L Go.Proofs
theorem ge8{l:List V3}(hl:l.all inV=true):∀p∈ws,∀v∈l,dot p.n v<=p.b:=λp hp v hv=>by
 have:=se7 (Qkd.1 hl v hv) p hp
 simp only[rmZ,ipt,dot] at this ⊢;omega
section
variable{l:List V3}(hl:l.all inV=true)(h4:Sol l)
include hl
theorem lc2(v:V3):v∈na2 (F0 l) l↔v∈l/\Spn (F0 l) v:=by
 unfold na2;rw[Qkk,yb3];exact⟨λh=>⟨h.1,(Qd8 hl h.1).1 h.2⟩,λh=>⟨h.1,(Qd8 hl h.1).2 h.2⟩⟩
include h4
theorem lb9{n:V3}{b:Int}(hv:∀v∈na2 (F0 l) l,dot n v<=b):∀x∈l,dot n x<=b:=by
 have hfacs:=td2 hl λp hp=>(B7 hl p).2 hp
 have hall:∀p∈F0 l++ws,∀v∈l,dot p.n v<=p.b:=λp hp=>by
  rcases Qkl.1 hp with hp|hp
  ·exact ((B7 hl p).1 hp).hd
  ·exact ge8 hl p hp
 intro x hx;have hz:∀(a:Pln) (v:V3),rmZ a ⟨v.x,v.y,v.z,1⟩=a.b-dot a.n v:=λa v=>by simp only[rmZ,dot];omega
 have hI:Inr (F0 l++ws) ⟨x.x,x.y,x.z,1⟩:=⟨by show (0:Int)<1;omega,λp hp=>by rw[hz];have:=hall p hp x hx;omega⟩
 have key:=la0 (Od2 (F0 l)) (h:=⟨n,b⟩) (λy hy=>by
  obtain⟨v,hvl,he,hs⟩:=de9 h4 hfacs hall hy;have h1:=hv v ((lc2 hl v).2 ⟨hvl,hs⟩);have h2:=he.rm ⟨n,b⟩;rw[hz] at h2;have hw:=hy.w;have h3:0<=(b-dot n v)*y.pw:=Qkg (by omega) (by omega)
  have h4:rmZ ⟨n,b⟩ y*1=(b-dot n v)*y.pw:=h2
  omega) hI
 rw[hz] at key;have key:0<=b-dot n x:=key;omega
theorem Ca8{v:V3}(hv:v∈na2 (F0 l) l):v∈l:=((lc2 hl v).1 hv).1
theorem Sd1:∃v,v∈na2 (F0 l) l:=by
 apply Qka;intro hno;obtain⟨x,hx⟩:=h4.ne
 have:=lb9 hl h4 (n:=⟨0,0,0⟩) (b:=-1) (λv hv=>absurd ⟨v,hv⟩ hno) x hx
 simp[dot] at this
theorem ge9:Sol (na2 (F0 l) l):=by
 obtain⟨a,ha⟩:=Sd1 hl h4
 rcases Pc8 ((na2 (F0 l) l).map λv=>e7 v a) with⟨x,y,z,hx,hy,hz,hw⟩|⟨d,hd,h⟩
 ·obtain⟨u,hu,rfl⟩:=Qkb.1 hx;obtain⟨v,hv,rfl⟩:=Qkb.1 hy;obtain⟨w,hw',rfl⟩:=Qkb.1 hz;exact⟨a,v,w,u,ha,hv,hw',hu,λe=>hw (by rw[<- e];simp only[dot,c7,N3];grind)⟩
 ·exfalso;have e:∀v∈na2 (F0 l) l,dot d v=dot d a:=λv hv=>by
   have:=h _ (Qkb.2 ⟨v,hv,rfl⟩)
   simp only[dot,e7] at this ⊢
   grind
  obtain⟨v,hv,hne⟩:=h4.off hd (dot d a);have h1:=lb9 hl h4 (n:=d) (b:=dot d a) (λw hw=>by rw[e w hw];exact Qkn _) v hv
  have h2:=lb9 hl h4 (n:=neg d) (b:=-dot d a) (λw hw=>by
   have:=e w hw
   have h3:dot (neg d) w=-dot d w:=by simp only[dot,neg];grind
   omega) v hv
  have h3:dot (neg d) v=-dot d v:=by simp only[dot,neg];grind
  omega
theorem ud1:(na2 (F0 l) l).all inV=true:=Qkd.2 λv hv=>Qkd.1 hl v (Ca8 hl h4 hv)
theorem ud2{p:Pln}(hp:Ca2 l p):Ca2 (na2 (F0 l) l) p:=by
 refine⟨⟨λv hv=>hp.hd v (Ca8 hl h4 hv),?_⟩,hp.ok⟩
 obtain⟨u,w,x,hu,hw,hx,h3,t1,t2,t3⟩:=hp.on
 -- a md2 on the plane
 obtain⟨a,ha,ta⟩:∃a∈na2 (F0 l) l,dot p.n a=p.b:=by
  apply Qka;intro hno
  have:=lb9 hl h4 (n:=p.n) (b:=p.b-1) (λv hv=>by
   have h1:=hp.hd v (Ca8 hl h4 hv);have h2:dot p.n v≠p.b:=λe=>hno ⟨v,hv,e⟩
   omega) u hu
  omega
 rcases Pc8 (p.n::(((na2 (F0 l) l).filter λv=>dot p.n v==p.b).map λv=>e7 v a)) with⟨n1,n2,n3,k1,k2,k3,hne⟩|⟨d,hd,hz⟩
 ·have on : ∀ {n}, n ∈ p.n :: (((na2 (F0 l) l).filter fun v => dot p.n v == p.b).map fun v => e7 v a) → n = p.n ∨ ∃ v ∈ na2 (F0 l) l, dot p.n v = p.b ∧ n = e7 v a := fun {n} hn => by
   rcases Qke.1 hn with e|hn
   ·exact .inl e
   ·obtain⟨v,hv,rfl⟩:=Qkb.1 hn;obtain⟨h1,h2⟩:=Qkk.1 hv;exact .inr ⟨v,h1,beq_iff_eq.1 h2,rfl⟩
  have fin:∀{v1 v2:V3},v1∈na2 (F0 l) l->v2∈na2 (F0 l) l->dot p.n v1=p.b->dot p.n v2=p.b->dot p.n (c7 (e7 v1 a) (e7 v2 a))≠0->∃u w x,u∈na2 (F0 l) l/\w∈na2 (F0 l) l/\x∈na2 (F0 l) l/\N3 u w x≠⟨0,0,0⟩/\dot p.n u=p.b/\dot p.n w=p.b/\dot p.n x=p.b:=λ{v1 v2} hv1 hv2 e1 e2 h=>⟨a,v1,v2,ha,hv1,hv2,Hc1 h,ta,e1,e2⟩
  rcases on k1 with rfl|⟨v1,m1,e1,rfl⟩<;>rcases on k2 with rfl|⟨v2,m2,e2,rfl⟩<;>rcases on k3 with rfl|⟨v3,m3,e3,rfl⟩
  ·exact absurd (by simp only[dot,c7];grind) hne
  ·exact absurd (by simp only[dot,c7];grind) hne
  ·exact absurd (by simp only[dot,c7];grind) hne
  ·exact fin m2 m3 e2 e3 hne
  ·exact absurd (by simp only[dot,c7];grind) hne
  ·exact fin m3 m1 e3 e1 λe=>hne (by rw[<- e];simp only[dot,c7];grind)
  ·exact fin m1 m2 e1 e2 λe=>hne (by rw[<- e];simp only[dot,c7];grind)
  ·exfalso;have q:∀v:V3,dot p.n v=p.b->dot p.n (e7 v a)=0:=λv e=>by
    have:dot p.n (e7 v a)=dot p.n v-dot p.n a:=by simp only[dot,e7];grind
    omega
   have r1:=q v1 e1;have r2:=q v2 e2;have r3:=q v3 e3;have hw:mw ⟨e7 v1 a,0⟩ ⟨e7 v2 a,0⟩ ⟨e7 v3 a,0⟩≠0:=hne;refine ab1 hp.ok (Wa0 hw ?_ ?_ ?_)
   ·rw[<- r1];simp only[dot];grind
   ·rw[<- r2];simp only[dot];grind
   ·rw[<- r3];simp only[dot];grind
 ·exfalso;have hdn:dot p.n d=0:=hz _ List.mem_cons_self;have hdv:∀v∈na2 (F0 l) l,dot p.n v=p.b->dot d v=dot d a:=λv hv e=>by
   have:=hz _ (List.mem_cons_of_mem _ (Qkb.2 ⟨v,Qkk.2 ⟨hv,beq_iff_eq.2 e⟩,rfl⟩))
   simp only[dot,e7] at this ⊢
   grind
  -- one of the oc7 points is off the line
  have hoff:¬ (dot d u=dot d a/\dot d w=dot d a/\dot d x=dot d a):=λ⟨g1,g2,g3⟩=>by
   have ht:=(da4 (va0 (Qkd.1 hl u hu) (Qkd.1 hl w hw) (Qkd.1 hl x hx) h3)).2;have hm:mw p ⟨e7 w u,0⟩ ⟨e7 x u,0⟩≠0:=by
    have hN:mw p ⟨e7 w u,0⟩ ⟨e7 x u,0⟩=dot p.n (N3 u w x):=rfl;rw[hN];intro e;obtain⟨_,⟨g,hg,f1,f2,f3⟩,_⟩:=ht;have f1:g*(A8 u w x).1.n.x=(N3 u w x).x:=f1;have f2:g*(A8 u w x).1.n.y=(N3 u w x).y:=f2;have f3:g*(A8 u w x).1.n.z=(N3 u w x).z:=f3;have e2:g*dot p.n (A8 u w x).1.n=0:=by rw[<- e];simp only[dot];rw[<- f1,<- f2,<- f3];grind
    have e3:=(Qkf.1 e2).resolve_left (by omega)
    have hpn:=ab1 hp.ok;have hpos:=td1 hpn
    rcases ub7 ((da4 (va0 (Qkd.1 hl u hu) (Qkd.1 hl w hw) (Qkd.1 hl x hx) h3)).2) hp.ok t1 t2 t3 with hq|hq
    ·rw[<- hq] at e3;omega
    ·have : dot p.n (A8 u w x).1.n = -dot p.n p.n := by
      have h5:p.n=⟨-(A8 u w x).1.n.x,-(A8 u w x).1.n.y,-(A8 u w x).1.n.z⟩:=congrArg Pln.n hq;have h6:(A8 u w x).1.n=⟨-p.n.x,-p.n.y,-p.n.z⟩:=by
       rw[h5];simp
      rw[h6];simp only[dot]
      grind
     omega
   refine hd (Wa0 hm hdn ?_ ?_)
   ·show dot (e7 w u) d=0
    have:dot (e7 w u) d=dot d w-dot d u:=by simp only[dot,e7];grind
    omega
   ·show dot (e7 x u) d=0
    have:dot (e7 x u) d=dot d x-dot d u:=by simp only[dot,e7];grind
    omega
  -- so a plane that is turned a little would Be4 it out
  have main:∀(e:V3) (t:V3),t∈l->dot p.n t=p.b->(∀v∈na2 (F0 l) l,dot p.n v=p.b->dot e v=dot e a)->dot e t<=dot e a:=λe t ht hte hev=>by
   obtain⟨N,hN,hbig⟩:=big e ((na2 (F0 l) l).map λv=>⟨e7 v a,0⟩)
   have:=lb9 hl h4 (n:=⟨e.x+N*p.n.x,e.y+N*p.n.y,e.z+N*p.n.z⟩) (b:=dot e a+N*p.b) (λv hv=>by
    have h1:dot ⟨e.x+N*p.n.x,e.y+N*p.n.y,e.z+N*p.n.z⟩ v=dot e v+N*dot p.n v:=by simp only[dot];grind
    rw[h1];by_cases hvp:dot p.n v=p.b
    ·rw[hvp,hev v hv hvp];exact Qkn _
    ·have h2:=hp.hd v (Ca8 hl h4 hv);have h3:=(hbig _ (Qkb.2 ⟨v,hv,rfl⟩)).1;have h4:dot (e7 v a) e=dot e v-dot e a:=by simp only[dot,e7];grind
     have h3:dot (e7 v a) e<=N:=h3;have h5:N*dot p.n v<=N*(p.b-1):=Qkad (by omega) (by omega)
     rw[Int.mul_sub,Int.mul_one] at h5
     omega) t ht
   have h1:dot ⟨e.x+N*p.n.x,e.y+N*p.n.y,e.z+N*p.n.z⟩ t=dot e t+N*dot p.n t:=by simp only[dot];grind
   rw[h1,hte] at this;omega
  have both:∀t,t∈l->dot p.n t=p.b->dot d t=dot d a:=λt ht hte=>by
   have g1:=main d t ht hte hdv;have g2:=main (neg d) t ht hte (λv hv e=>by
    have:=hdv v hv e
    have q1:∀z:V3,dot (neg d) z=-dot d z:=λz=>by simp only[dot,neg];grind
    rw[q1,q1];omega)
   have q1:∀z:V3,dot (neg d) z=-dot d z:=λz=>by simp only[dot,neg];grind
   rw[q1,q1] at g2;omega
  exact hoff ⟨both u hu t1,both w hw t2,both x hx t3⟩
theorem ue6:F0 (na2 (F0 l) l)=F0 l:=by
 refine Yb1 (Yb2 _) (Yb2 _) λp=>?_
 rw[B7 (ud1 hl h4),B7 hl];refine⟨λh=>⟨⟨lb9 hl h4 h.hd,?_⟩,h.ok⟩,λh=>ud2 hl h4 h⟩
 obtain⟨u,w,x,hu,hw,hx,hr⟩:=h.on;exact⟨u,w,x,Ca8 hl h4 hu,Ca8 hl h4 hw,Ca8 hl h4 hx,hr⟩
end
theorem Rb4{l:List V3}(hl:l.all inV=true)(h4:Sol l){v:V3}(hv:v∈l):v∈na2 (F0 l) l↔∃n,∀w∈l,w≠v->dot n w<dot n v:=by
 constructor
 ·intro h;obtain⟨p,q,s,hp,hq,hs,hm,e1,e2,e3⟩:=((lc2 hl v).1 h).2;refine⟨⟨p.n.x+q.n.x+s.n.x,p.n.y+q.n.y+s.n.y,p.n.z+q.n.z+s.n.z⟩,λw hw hne=>?_⟩
  have hd:∀x:V3,dot ⟨p.n.x+q.n.x+s.n.x,p.n.y+q.n.y+s.n.y,p.n.z+q.n.z+s.n.z⟩ x=dot p.n x+dot q.n x+dot s.n x:=λx=>by simp only[dot];grind
  rw[hd,hd];have g1:=((B7 hl p).1 hp).hd w hw;have g2:=((B7 hl q).1 hq).hd w hw;have g3:=((B7 hl s).1 hs).hd w hw;apply Qka;intro hno;have z:=Wa0 hm (d:=e7 w v) (by rw[F9];omega) (by rw[F9];omega) (by rw[F9];omega)
  simp only[e7,V3.mk.injEq] at z;exact hne (Qkao (by omega) (by omega) (by omega))
 ·rintro⟨n,hn⟩;apply Qka;intro hno
  have:=lb9 hl h4 (n:=n) (b:=dot n v-1) (λw hw=>by
   have:=hn w (Ca8 hl h4 hw) λe=>hno (e ▸ hw)
   omega) v hv
  omega
section
variable{l:List V3}{T:V3->V3}(h:Sim l T)
include h
theorem Sim.inj{u w:V3}(hu:u∈l)(hw:w∈l)(e:T u=T w):u=w:=by
 have key:∀n:V3,dot n u=dot n w:=λn=>by
  obtain⟨n',k,hk,hn⟩:=h.dn n;have e':=hn u hu w hw;rw[e,Qkw] at e'
  have:=ha4 hk e'.symm
  omega
 have k1:=key ⟨1,0,0⟩;have k2:=key ⟨0,1,0⟩;have k3:=key ⟨0,0,1⟩;simp only[dot] at k1 k2 k3;exact Qkao (by omega) (by omega) (by omega)
theorem Sd2{u w x v n:V3}(h3:N3 u w x≠⟨0,0,0⟩)(e1:dot n w=dot n u)(e2:dot n x=dot n u)(hv:dot n v≠dot n u):dot (N3 u w x) (e7 v u)≠0:=λe=>by
 have hN:dot (N3 u w x) (N3 u w x)>0:=da6 h3;have c1:c7 n (N3 u w x)=⟨0,0,0⟩:=qa8 (by rw[F9];omega) (by rw[F9];omega)
 have d1:=na9 (d:=e7 v u) c1;rw[e,Qkc,F9] at d1
 have:=ha4 hN d1
 omega
omit h in
theorem ud3(u w x:V3):dot (N3 u w x) w=dot (N3 u w x) u/\dot (N3 u w x) x=dot (N3 u w x) u:=by
 constructor<;>simp only[N3,dot,c7,e7]<;>grind
theorem Sim.sol:Sol l↔Sol (l.map T):=by
 constructor
 ·rintro⟨a,c,k,v,ha,hc,hk,hv,hne⟩;have h3:N3 a c k≠⟨0,0,0⟩:=λe=>hne (by rw[e];simp[dot])
  obtain⟨n',m,hm,hn⟩:=h.dn (N3 a c k);obtain⟨p1,p2⟩:=ud3 a c k;refine⟨T a,T c,T k,T v,Qkb.2 ⟨a,ha,rfl⟩,Qkb.2 ⟨c,hc,rfl⟩,Qkb.2 ⟨k,hk,rfl⟩,Qkb.2 ⟨v,hv,rfl⟩,Sd2 h (n:=n') ((h.n3 a ha c hc k hk).1 h3) ?_ ?_ ?_⟩
  ·have e:=hn c hc a ha;rw[p1,Qkw,Qkc] at e;omega
  ·have e:=hn k hk a ha;rw[p2,Qkw,Qkc] at e;omega
  ·intro e';have e:=hn v hv a ha
   have:=ha4 hm (show m*(dot (N3 a c k) v-dot (N3 a c k) a)=0 by omega)
   rw[F9] at hne;omega
 ·rintro⟨a',c',k',v',ha',hc',hk',hv',hne⟩;obtain⟨a,ha,rfl⟩:=Qkb.1 ha';obtain⟨c,hc,rfl⟩:=Qkb.1 hc';obtain⟨k,hk,rfl⟩:=Qkb.1 hk';obtain⟨v,hv,rfl⟩:=Qkb.1 hv';have h3:N3 (T a) (T c) (T k)≠⟨0,0,0⟩:=λe=>hne (by rw[e];simp[dot])
  obtain⟨n,m,hm,hn⟩:=h.up (N3 (T a) (T c) (T k));obtain⟨p1,p2⟩:=ud3 (T a) (T c) (T k);refine⟨a,c,k,v,ha,hc,hk,hv,Sd2 h (n:=n) ((h.n3 a ha c hc k hk).2 h3) ?_ ?_ ?_⟩
  ·have e:=hn c hc a ha;rw[p1,Qkw,Qkc] at e;omega
  ·have e:=hn k hk a ha;rw[p2,Qkw,Qkc] at e;omega
  ·intro e';have e:=hn v hv a ha
   have:=ha4 hm (show m*(dot (N3 (T a) (T c) (T k)) (T v)-dot (N3 (T a) (T c) (T k)) (T a))=0 by omega)
   rw[F9] at hne;omega
theorem Sim.ext(hs:Sol l){v:V3}(hv:v∈l):v∈na2 (F0 l) l↔T v∈na2 (F0 (l.map T)) (l.map T):=by
 rw[Rb4 h.li hs hv,Rb4 h.mi ((Sim.sol h).1 hs) (Qkb.2 ⟨v,hv,rfl⟩)];constructor
 ·rintro⟨n,hn⟩;obtain⟨n',k,hk,hd⟩:=h.dn n;refine⟨n',λw' hw' hne=>?_⟩
  obtain⟨w,hw,rfl⟩:=Qkb.1 hw';have e:=hd w hw v hv
  have:=Qki hk (show dot n w-dot n v<0 by have:=hn w hw λe=>hne (by rw[e]);omega)
  omega
 ·rintro⟨n',hn⟩;obtain⟨n,k,hk,hd⟩:=h.up n';refine⟨n,λw hw hne=>?_⟩
  have e:=hd w hw v hv
  have:=Qki hk (show dot n' (T w)-dot n' (T v)<0 by have:=hn (T w) (Qkb.2 ⟨w,hw,rfl⟩) λe=>hne (Sim.inj h hw hv e);omega)
  omega
end
structure Mat(l:List V3)(T:V3->V3)(r0 r1 r2:V3)(D:Int):Prop where
 d:0<D
 det:0<dot r0 (c7 r1 r2)
 t:∀u∈l,∀w∈l,D*((T u).x-(T w).x)=dot r0 (e7 u w)/\D*((T u).y-(T w).y)=dot r1 (e7 u w)/\D*((T u).z-(T w).z)=dot r2 (e7 u w)
theorem Sd3(r0 r1 r2 n d:V3):dot ⟨dot n (c7 r1 r2),dot n (c7 r2 r0),dot n (c7 r0 r1)⟩ ⟨dot r0 d,dot r1 d,dot r2 d⟩=dot r0 (c7 r1 r2)*dot n d:=by simp only[dot,c7];grind
theorem nd5(r0 r1 r2 a c:V3):c7 ⟨dot r0 a,dot r1 a,dot r2 a⟩ ⟨dot r0 c,dot r1 c,dot r2 c⟩=⟨dot (c7 r1 r2) (c7 a c),dot (c7 r2 r0) (c7 a c),dot (c7 r0 r1) (c7 a c)⟩:=by
 refine Qkao ?_ ?_ ?_<;>simp only[dot,c7]<;>grind
theorem Dd4(r0 r1 r2 v:V3):(dot r0 (c7 r1 r2)*v.x=dot (c7 r1 r2) v*r0.x+dot (c7 r2 r0) v*r1.x+dot (c7 r0 r1) v*r2.x)/\(dot r0 (c7 r1 r2)*v.y=dot (c7 r1 r2) v*r0.y+dot (c7 r2 r0) v*r1.y+dot (c7 r0 r1) v*r2.y)/\(dot r0 (c7 r1 r2)*v.z=dot (c7 r1 r2) v*r0.z+dot (c7 r2 r0) v*r1.z+dot (c7 r0 r1) v*r2.z):=by
 refine⟨?_,?_,?_⟩<;>simp only[dot,c7]<;>grind
theorem da7{k x:Int}(hk:0<k)(h:k*x=0):x=0:=(Qkf.1 h).resolve_left (by omega)
theorem he0{l:List V3}{T:V3->V3}{r0 r1 r2:V3}{D:Int}(h:Mat l T r0 r1 r2 D)(hl:l.all inV=true)(hm:(l.map T).all inV=true):Sim l T:=by
 refine⟨hl,hm,λn=>⟨⟨D*dot n (c7 r1 r2),D*dot n (c7 r2 r0),D*dot n (c7 r0 r1)⟩,dot r0 (c7 r1 r2),h.det,λu hu w hw=>?_⟩,λn'=>⟨⟨n'.x*r0.x+n'.y*r1.x+n'.z*r2.x,n'.x*r0.y+n'.y*r1.y+n'.z*r2.y,n'.x*r0.z+n'.y*r1.z+n'.z*r2.z⟩,D,h.d,λu hu w hw=>?_⟩,λu hu w hw x hx=>?_⟩
 ·obtain⟨t1,t2,t3⟩:=h.t u hu w hw;have e:=Sd3 r0 r1 r2 n (e7 u w);rw[<- t1,<- t2,<- t3,F9 n u w] at e;rw[<- e];generalize dot n (c7 r1 r2)=A;generalize dot n (c7 r2 r0)=B;generalize dot n (c7 r0 r1)=C;simp only[dot]
  grind
 ·obtain⟨t1,t2,t3⟩:=h.t u hu w hw;have e:dot ⟨n'.x*r0.x+n'.y*r1.x+n'.z*r2.x,n'.x*r0.y+n'.y*r1.y+n'.z*r2.y,n'.x*r0.z+n'.y*r1.z+n'.z*r2.z⟩ u-dot ⟨n'.x*r0.x+n'.y*r1.x+n'.z*r2.x,n'.x*r0.y+n'.y*r1.y+n'.z*r2.y,n'.x*r0.z+n'.y*r1.z+n'.z*r2.z⟩ w=n'.x*dot r0 (e7 u w)+n'.y*dot r1 (e7 u w)+n'.z*dot r2 (e7 u w):=by simp only[dot,e7];grind
  rw[e,<- t1,<- t2,<- t3];simp only[dot]
  grind
 ·obtain⟨t1,t2,t3⟩:=h.t w hw u hu;obtain⟨s1,s2,s3⟩:=h.t x hx u hu;have e:=nd5 r0 r1 r2 (e7 w u) (e7 x u);rw[<- t1,<- t2,<- t3,<- s1,<- s2,<- s3] at e;have eN:c7 (e7 w u) (e7 x u)=N3 u w x:=rfl;rw[eN] at e;have eT:c7 ⟨D*((T w).x-(T u).x),D*((T w).y-(T u).y),D*((T w).z-(T u).z)⟩ ⟨D*((T x).x-(T u).x),D*((T x).y-(T u).y),D*((T x).z-(T u).z)⟩=⟨D*(D*(N3 (T u) (T w) (T x)).x),D*(D*(N3 (T u) (T w) (T x)).y),D*(D*(N3 (T u) (T w) (T x)).z)⟩:=by
   refine Qkao ?_ ?_ ?_<;>simp only[N3,c7,e7]<;>grind
  rw[eT] at e;simp only[V3.mk.injEq] at e;obtain⟨e1,e2,e3⟩:=e;obtain⟨b1,b2,b3⟩:=Dd4 r0 r1 r2 (N3 u w x);have hd:=h.d;have hdet:=h.det;constructor
  ·intro hne h0;rw[h0] at e1 e2 e3;simp only[Qkc] at e1 e2 e3;rw[<- e1,<- e2,<- e3] at b1 b2 b3;simp only[Qkx,Qks] at b1 b2 b3;exact hne (Qkao (da7 hdet b1) (da7 hdet b2) (da7 hdet b3))
  ·intro hne h0;rw[h0] at e1 e2 e3;have z:∀v:V3,dot v ⟨0,0,0⟩=0:=λv=>by simp[dot]
   rw[z] at e1 e2 e3;exact hne (Qkao (da7 hd (da7 hd e1)) (da7 hd (da7 hd e2)) (da7 hd (da7 hd e3)))
theorem Sd4 {r0 r1 r2 : V3} {D : Int} (h00 : dot r0 r0 = D * D) (h11 : dot r1 r1 = D * D) (h22 : dot r2 r2 = D * D) (h01 : dot r0 r1 = 0) (h02 : dot r0 r2 = 0) (h12 : dot r1 r2 = 0) (hdet : dot r0 (c7 r1 r2) ≠ 0) (d : V3) :
  dot r0 d*dot r0 d+dot r1 d*dot r1 d+dot r2 d*dot r2 d=D*D*dot d d:=by
 have key:(⟨D*D*d.x-(dot r0 d*r0.x+dot r1 d*r1.x+dot r2 d*r2.x),D*D*d.y-(dot r0 d*r0.y+dot r1 d*r1.y+dot r2 d*r2.y),D*D*d.z-(dot r0 d*r0.z+dot r1 d*r1.z+dot r2 d*r2.z)⟩:V3)=⟨0,0,0⟩:=by
  have ex:∀r:V3,dot r ⟨D*D*d.x-(dot r0 d*r0.x+dot r1 d*r1.x+dot r2 d*r2.x),D*D*d.y-(dot r0 d*r0.y+dot r1 d*r1.y+dot r2 d*r2.y),D*D*d.z-(dot r0 d*r0.z+dot r1 d*r1.z+dot r2 d*r2.z)⟩=D*D*dot r d-(dot r0 d*dot r r0+dot r1 d*dot r r1+dot r2 d*dot r r2):=λr=>by
   generalize dot r0 d=A;generalize dot r1 d=B;generalize dot r2 d=C;simp only[dot]
   grind
  have cm:∀a c:V3,dot a c=dot c a:=λa c=>by simp only[dot];grind
  refine Wa0 (p:=⟨r0,0⟩) (q:=⟨r1,0⟩) (s:=⟨r2,0⟩) hdet ?_ ?_ ?_
  ·rw[ex,h00,h01,h02];grind
  ·rw[ex,cm r1 r0,h01,h11,h12];grind
  ·rw[ex,cm r2 r0,cm r2 r1,h02,h12,h22];grind
 simp only[V3.mk.injEq] at key;obtain⟨k1,k2,k3⟩:=key;have e:D*D*dot d d-(dot r0 d*dot r0 d+dot r1 d*dot r1 d+dot r2 d*dot r2 d)=d.x*(D*D*d.x-(dot r0 d*r0.x+dot r1 d*r1.x+dot r2 d*r2.x))+d.y*(D*D*d.y-(dot r0 d*r0.y+dot r1 d*r1.y+dot r2 d*r2.y))+d.z*(D*D*d.z-(dot r0 d*r0.z+dot r1 d*r1.z+dot r2 d*r2.z)):=by
  simp only[dot]
  grind
 rw[k1,k2,k3] at e;simp only[Qkc,Qks] at e;exact (Int.eq_of_sub_eq_zero e).symm
theorem ed0{l:List V3}(h48:l.length<=48)(hl:l.all inV=true):(Sol l->aa6 l=0)/\(¬ Sol l->aa6 l=11):=by
 refine⟨hb7 h48 hl,λhn=>?_⟩
 by_cases h0:aa6 l=0
 ·exact (hn (Q6 h0).2.2).elim
 ·unfold aa6 at h0 ⊢;rw[if_neg (by omega),if_neg (by rw[<- List.not_all_eq_any_not,hl];simp)] at h0 ⊢
  split
  ·rfl
  ·rename_i h;rw[if_neg h] at h0;exact (h0 rfl).elim
section
variable{l:List V3}{T:V3->V3}(h:Sim l T)(h48:l.length<=48)
include h h48
theorem Sim.chk:aa6 (l.map T)=aa6 l:=by
 have h1:=ed0 h48 h.li;have h2:=ed0 (l:=l.map T) (by rw[Qkac];exact h48) h.mi
 by_cases hs:Sol l
 ·rw[h1.1 hs,h2.1 ((Sim.sol h).1 hs)]
 ·rw[h1.2 hs,h2.2 λk=>hs ((Sim.sol h).2 k)]
theorem Sim.plane{p p':Pln}(hp:p∈(X5 l).1)(ok:okp p'=true)(hd:∀v∈l,dot p'.n (T v)<=p'.b)(on:∀v∈l,dot p.n v=p.b->dot p'.n (T v)=p'.b):p'∈(X5 (l.map T)).1:=by
 have hc:=Sim.chk h h48;unfold X5 at hp ⊢;rw[hc];by_cases h0:aa6 l=0
 ·rw[if_pos h0] at hp ⊢;have hs:=(Q6 h0).2.2;exact Sim.img h hs ((Sim.sol h).1 hs) hp ok hd on
 ·rw[if_neg h0] at hp;cases hp
end
theorem Sd5 {r0 r1 r2 : V3} {D : Int} (h00 : dot r0 r0 = D * D) (h11 : dot r1 r1 = D * D) (h22 : dot r2 r2 = D * D) (h01 : dot r0 r1 = 0) (h02 : dot r0 r2 = 0) (h12 : dot r1 r2 = 0) (hdet : dot r0 (c7 r1 r2) ≠ 0) (n d : V3) :
  dot r0 n*dot r0 d+dot r1 n*dot r1 d+dot r2 n*dot r2 d=D*D*dot n d:=by
 have l:=λv=>Sd4 h00 h11 h22 h01 h02 h12 hdet v
 have add:∀r:V3,dot r ⟨n.x+d.x,n.y+d.y,n.z+d.z⟩=dot r n+dot r d:=λr=>by simp only[dot];grind
 have e:=l ⟨n.x+d.x,n.y+d.y,n.z+d.z⟩;have e1:=l n;have e2:=l d;have sq:dot (⟨n.x+d.x,n.y+d.y,n.z+d.z⟩:V3) ⟨n.x+d.x,n.y+d.y,n.z+d.z⟩=dot n n+2*dot n d+dot d d:=by simp only[dot];grind
 rw[sq,add,add,add] at e;generalize dot r0 n=a0 at *
 generalize dot r1 n=a1 at *
 generalize dot r2 n=a2 at *
 generalize dot r0 d=c0 at *
 generalize dot r1 d=c1 at *
 generalize dot r2 d=c2 at *
 generalize dot n n=nn at *
 generalize dot d d=dd at *
 generalize dot n d=nd at *
 generalize D*D=DD at *
 have k:2*(a0*c0+a1*c1+a2*c2)=2*(DD*nd):=by grind
 omega
structure Rot(l:List V3)(T:V3->V3)(r0 r1 r2:V3)(D:Int):Prop extends Mat l T r0 r1 r2 D where
 h00:dot r0 r0=D*D
 h11:dot r1 r1=D*D
 h22:dot r2 r2=D*D
 h01:dot r0 r1=0
 h02:dot r0 r2=0
 h12:dot r1 r2=0
section
variable{l:List V3}{T:V3->V3}{r0 r1 r2:V3}{D:Int}(h:Rot l T r0 r1 r2 D)
include h
theorem Rot.dots(n d:V3):dot r0 n*dot r0 d+dot r1 n*dot r1 d+dot r2 n*dot r2 d=D*D*dot n d :=
 Sd5 h.h00 h.h11 h.h22 h.h01 h.h02 h.h12 (by have:=h.det;omega) n d
theorem Rot.same{u w:V3}(hu:u∈l)(hw:w∈l):dot (e7 (T u) (T w)) (e7 (T u) (T w))=dot (e7 u w) (e7 u w):=by
 obtain⟨t1,t2,t3⟩:=h.t u hu w hw;have e:=Rot.dots h (e7 u w) (e7 u w);rw[<- t1,<- t2,<- t3] at e;have f:D*((T u).x-(T w).x)*(D*((T u).x-(T w).x))+D*((T u).y-(T w).y)*(D*((T u).y-(T w).y))+D*((T u).z-(T w).z)*(D*((T u).z-(T w).z))=D*D*dot (e7 (T u) (T w)) (e7 (T u) (T w)):=by simp only[dot,e7];grind
 rw[f] at e;have hd:=Qkj h.d h.d;exact Qku (by omega) e
theorem Rot.nrm{n n':V3}{g:Int}(e1:g*n'.x=dot r0 n)(e2:g*n'.y=dot r1 n)(e3:g*n'.z=dot r2 n){u w:V3}(hu:u∈l)(hw:w∈l):g*(dot n' (T u)-dot n' (T w))=D*(dot n u-dot n w):=by
 obtain⟨t1,t2,t3⟩:=h.t u hu w hw;have e:=Rot.dots h n (e7 u w);rw[<- t1,<- t2,<- t3,<- e1,<- e2,<- e3,F9] at e;have f:g*n'.x*(D*((T u).x-(T w).x))+g*n'.y*(D*((T u).y-(T w).y))+g*n'.z*(D*((T u).z-(T w).z))=D*(g*(dot n' (T u)-dot n' (T w))):=by simp only[dot];grind
 rw[f,Int.mul_assoc] at e;exact Qku (by have:=h.d;omega) e
theorem Rot.plane (hl : l.all inV = true) (hm : (l.map T).all inV = true) (h48 : l.length ≤ 48) {p p' : Pln} {g : Int} (hp : p ∈ (X5 l).1) (ok : okp p' = true) (hg : 0 < g) (e1 : g * p'.n.x = dot r0 p.n) (e2 : g * p'.n.y = dot r1 p.n) (e3 : g * p'.n.z = dot r2 p.n)
  {u:V3} (hu:u∈l) (on:dot p.n u=p.b) (on':dot p'.n (T u)=p'.b):p'∈(X5 (l.map T)).1:=by
 have hs:=he0 h.toMat hl hm;have hf:Ca2 l p:=by
  unfold X5 at hp;by_cases h0:aa6 l=0
  ·rw[if_pos h0] at hp;exact (B7 hl p).1 hp
  ·rw[if_neg h0] at hp;cases hp
 have hd:=h.d;refine Sim.plane hs h48 hp ok (λv hv=>?_) λv hv hv'=>?_
 ·have e:=Rot.nrm h e1 e2 e3 hv hu;have k:=nd4 hd (show dot p.n v-dot p.n u<=0 by have:=hf.hd v hv;omega)
  apply Qka;intro hno
  have:=Qkj hg (show 0<dot p'.n (T v)-dot p'.n (T u) by omega)
  omega
 ·have e:=Rot.nrm h e1 e2 e3 hv hu;rw[show dot p.n v-dot p.n u=0 by omega,Qkc] at e
  have:=ha4 hg e
  omega
end
section
variable{l:List V3}{T:V3->V3}{r0 r1 r2:V3}{D:Int}(h:Rot l T r0 r1 r2 D)
include h
theorem Rot.off{n n' sft:V3}{g:Int}(e1:g*n'.x=dot r0 n)(e2:g*n'.y=dot r1 n)(e3:g*n'.z=dot r2 n){u:V3}(t:D*((T u).x-sft.x)=dot r0 u/\D*((T u).y-sft.y)=dot r1 u/\D*((T u).z-sft.z)=dot r2 u):g*(dot n' (T u)-dot n' sft)=D*dot n u:=by
 obtain⟨t1,t2,t3⟩:=t;have e:=Rot.dots h n u;rw[<- t1,<- t2,<- t3,<- e1,<- e2,<- e3] at e;have f:g*n'.x*(D*((T u).x-sft.x))+g*n'.y*(D*((T u).y-sft.y))+g*n'.z*(D*((T u).z-sft.z))=D*(g*(dot n' (T u)-dot n' sft)):=by simp only[dot];grind
 rw[f,Int.mul_assoc] at e;exact Qku (by have:=h.d;omega) e
end
def crs(n a c:V3):Int:=dot n (c7 a c)
def orp(n a c v:V3):Int:=crs n (e7 c a) (e7 v a)
theorem wc5(n a c v:V3):orp n a v c=-orp n a c v:=by simp only[orp,crs,dot,c7,e7];grind
theorem he3(n a c v:V3):orp n c v a=orp n a c v:=by simp only[orp,crs,dot,c7,e7];grind
theorem Sd6(n a c v:V3):orp n a c v=crs n (e7 a v) (e7 c v):=by simp only[orp,crs,dot,c7,e7];grind
theorem nd6(n a c:V3):orp n a c c=0:=by simp only[orp,crs,dot,c7,e7];grind
theorem Sd7(n a c:V3):orp n a c a=0:=by simp only[orp,crs,dot,c7,e7];grind
theorem ud4(a c:V3):dot a c=dot c a:=by simp only[dot];grind
theorem Be8{n a c v:V3}(hn:n≠⟨0,0,0⟩)(h1:dot a n=0)(h2:dot c n=0)(h3:dot v n=0):dot a (c7 c v)=0:=by
 apply Qka;intro h;exact hn (Wa0 (p:=⟨a,0⟩) (q:=⟨c,0⟩) (s:=⟨v,0⟩) h h1 h2 h3)
theorem Ic3 {n m a c v : V3} (hn : n ≠ ⟨0, 0, 0⟩) (h1 : dot a n = 0) (h2 : dot c n = 0) (h3 : dot v n = 0) (m1 : dot m a < 0) (m2 : dot m c < 0) (m3 : dot m v < 0)
  (c1:0<crs n a c) (c2:0<crs n c v):0<crs n a v:=by
 have e:crs n c v*dot m a+crs n v a*dot m c+crs n a c*dot m v=dot a (c7 c v)*dot m n:=by simp only[crs,dot,c7];grind
 rw[Be8 hn h1 h2 h3,Qkx] at e;have k1:=Qki c2 m1;have k2:=Qki c1 m3;have k3:0<crs n v a*dot m c:=by omega
 have k4:crs n v a<0:=by
  apply Qka;intro hno
  have:=Qkg (show 0<=crs n v a by omega) (show 0<=-dot m c by omega)
  rw[Qky] at this;omega
 have:crs n a v=-crs n v a:=by simp only[crs,dot,c7];grind
 omega
theorem he4{n a c:V3}(hn:n≠⟨0,0,0⟩)(h1:dot n a=0)(h2:dot n c=0)(h:crs n a c=0):c7 a c=⟨0,0,0⟩:=by
 apply Qka;intro hne;have hp:=na9 (d:=n) (qa8 h1 h2);rw[show dot n (c7 a c)=0 from h,Qkx] at hp
 rcases Qkf.1 hp with e|e
 ·have:=da6 hne;omega
 ·have:=da6 hn;omega
theorem Zb1{a c m:V3}(h:c7 a c=⟨0,0,0⟩)(m':V3):dot m c*dot m' a=dot m a*dot m' c:=by
 have e:dot m c*dot m' a-dot m a*dot m' c=-dot (c7 m m') (c7 a c):=by simp only[dot,c7];grind
 rw[h] at e;have z:dot (c7 m m') ⟨0,0,0⟩=0:=by simp[dot]
 rw[z] at e;omega
theorem ta1(m a c:V3):dot m (e7 a c)=dot m a-dot m c:=by simp only[dot,e7];grind
theorem Be9(n a c:V3):dot (e7 a c) n=dot n a-dot n c:=by simp only[dot,e7];grind
def Hi(X:List V3)(v m:V3):Prop:=∀w∈X,w≠v->dot m w<dot m v
theorem he5 {X : List V3} (hX : ∀ v ∈ X, ∃ m, Hi X v m) {n a c v : V3} {k : Int} (hn : n ≠ ⟨0, 0, 0⟩) (ha : a ∈ X) (hc : c ∈ X) (hv : v ∈ X) (pa : dot n a = k) (pc : dot n c = k) (pv : dot n v = k)
  (h1:a≠c) (h2:a≠v) (h3:c≠v):orp n a c v≠0:=by
 intro h;have hz:=he4 hn (by rw[ta1];omega) (by rw[ta1];omega) h
 obtain⟨m1,k1⟩:=hX a ha;obtain⟨m2,k2⟩:=hX c hc;obtain⟨m3,k3⟩:=hX v hv;have a1:=k1 c hc (Ne.symm h1);have a2:=k1 v hv (Ne.symm h2);have b1:=k2 a ha h1;have b2:=k2 v hv (Ne.symm h3);have c1:=k3 a ha h2;have c2:=k3 c hc h3;have e2:=Zb1 (m:=m1) hz m2;have e3:=Zb1 (m:=m1) hz m3;rw[ta1,ta1,ta1,ta1] at e2 e3;obtain⟨r,hr⟩:∃r,r=dot m1 a-dot m1 v:=⟨_,rfl⟩;obtain⟨s,hs⟩:∃s,s=dot m1 a-dot m1 c:=⟨_,rfl⟩;obtain⟨x2,hx2⟩:∃x,x=dot m2 c-dot m2 a:=⟨_,rfl⟩;obtain⟨y2,hy2⟩:∃x,x=dot m2 v-dot m2 a:=⟨_,rfl⟩;obtain⟨x3,hx3⟩:∃x,x=dot m3 c-dot m3 a:=⟨_,rfl⟩;obtain⟨y3,hy3⟩:∃x,x=dot m3 v-dot m3 a:=⟨_,rfl⟩;rw[show dot m1 v-dot m1 a=-r by omega,show dot m1 c-dot m1 a=-s by omega,<- hx2,<- hy2,Qkag,Qkag] at e2
 rw[show dot m1 v-dot m1 a=-r by omega,show dot m1 c-dot m1 a=-s by omega,<- hx3,<- hy3,Qkag,Qkag] at e3
 have r0:0<r:=by omega
 have s0:0<s:=by omega
 have p1:0<x2:=by omega
 have p2:y2<x2:=by omega
 have p3:0<y3:=by omega
 have p4:x3<y3:=by omega
 have q2:r*x2=s*y2:=by omega
 have q3:r*x3=s*y3:=by omega
 have hrs:r<s:=by
  apply Qka;intro hno;have t1:s*y2<s*x2:=Qkah p2 s0;have t2:s*x2<=r*x2:=Qkr (by omega) (by omega)
  omega
 have t1:r*y3<s*y3:=Int.mul_lt_mul_of_pos_right hrs p3;have t2:r*x3<r*y3:=Qkah p4 r0;omega
structure Rim(X C:List V3)(n:V3)(k:Int):Prop where
 n0:n≠⟨0,0,0⟩
 hx:∀v∈X,∃m,Hi X v m
 sub:∀c∈C,c∈X/\dot n c=k
 nd:C.Nodup
 two:2<=C.length
def Edg(C:List V3)(n a c:V3):Prop:=a∈C/\c∈C/\a≠c/\∀v∈C,v≠a->v≠c->0<orp n a c v
def nxF(n a:V3):List V3->V3->V3
 |[],best=>best
 |w::l,best=>if (!eqV w a&&(eqV best a||decide (orp n a best w<0)))=true then nxF n a l w else nxF n a l best
def nxt(C:List V3)(n a:V3):V3:=nxF n a C a
theorem Edg.out{C:List V3}{n a c d:V3}(h1:Edg C n a c)(h2:Edg C n a d):c=d:=by
 apply Qka;intro hne;have e1:=h1.2.2.2 d h2.2.1 (Ne.symm h2.2.2.1) (Ne.symm hne);have e2:=h2.2.2.2 c h1.2.1 (Ne.symm h1.2.2.1) hne;rw[wc5] at e2;omega
theorem Edg.inn{C:List V3}{n a c d:V3}(h1:Edg C n a c)(h2:Edg C n d c):a=d:=by
 apply Qka;intro hne;have e1:=h1.2.2.2 d h2.1 (Ne.symm hne) h2.2.2.1;have e2:=h2.2.2.2 a h1.1 hne h1.2.2.1;rw[he3,wc5] at e2;omega
section
variable{X C:List V3}{n:V3}{k:Int}(h:Rim X C n k)
include h
theorem Rim.perp{a c:V3}(ha:a∈C)(hc:c∈C):dot (e7 a c) n=0:=by
 rw[Be9,(h.sub a ha).2,(h.sub c hc).2,Qkw]
theorem Rim.orp_tr{a c v w:V3}(ha:a∈C)(hc:c∈C)(hv:v∈C)(hw:w∈C)(ca:c≠a)(va:v≠a)(wa:w≠a)(h1:0<orp n a c v)(h2:0<orp n a v w):0<orp n a c w:=by
 obtain⟨m,hm⟩:=h.hx a (h.sub a ha).1;have m1:=hm c (h.sub c hc).1 ca;have m2:=hm v (h.sub v hv).1 va;have m3:=hm w (h.sub w hw).1 wa;exact Ic3 (m:=m) h.n0 (h.perp hc ha) (h.perp hv ha) (h.perp hw ha) (by rw[ta1];omega) (by rw[ta1];omega) (by rw[ta1];omega) h1 h2
theorem Rim.ne0{a c v:V3}(ha:a∈C)(hc:c∈C)(hv:v∈C)(h1:a≠c)(h2:a≠v)(h3:c≠v):orp n a c v≠0 :=
 he5 h.hx h.n0 (h.sub a ha).1 (h.sub c hc).1 (h.sub v hv).1 (h.sub a ha).2 (h.sub c hc).2 (h.sub v hv).2 h1 h2 h3
def Fnd(D:List V3)(n a best:V3):Prop:=(best=a/\∀c∈D,c=a)\/(best∈D/\best≠a/\∀c∈D,c≠a->c≠best->0<orp n a best c)
theorem Rim.fnd{a:V3}(ha:a∈C):∀(l D:List V3) (best:V3),(∀x∈D,x∈C)->(∀x∈l,x∈C)->Fnd D n a best->Fnd (D++l) n a (nxF n a l best)
 |[],D,best,_,_,hf=>by rw[Qkv];exact hf
 |w::l,D,best,hD,hl,hf=>by
  have hw:=hl w (by simp)
  have rec':=λb hb=>Rim.fnd ha l (D++[w]) b (λx hx=>(Qkl.1 hx).elim (hD x) λe=>by rw[Qkh.1 e];exact hw) (λx hx=>hl x (by simp[hx])) hb
  rw[List.append_assoc] at rec';unfold nxF;by_cases hwa:w=a
  ·rw[if_neg (by rw[show eqV w a=true from (kb8 _ _).2 hwa];simp)]
   refine rec' best ?_
   rcases hf with⟨e,hf⟩|⟨e1,e2,hf⟩
   ·exact .inl ⟨e,λc hc=>(Qkl.1 hc).elim (hf c) λe=>(Qkh.1 e).trans hwa⟩
   ·exact .inr ⟨List.mem_append_left _ e1,e2,λc hc h1 h2=>(Qkl.1 hc).elim (λk=>hf c k h1 h2) λe=>absurd ((Qkh.1 e).trans hwa) h1⟩
  ·have ew : eqV w a = false := by
    cases hq:eqV w a with
    |false=>rfl
    |true=>exact absurd ((kb8 _ _).1 hq) hwa
   rcases hf with⟨e,hf⟩|⟨e1,e2,hf⟩
   ·rw[if_pos (by rw[ew,(kb8 _ _).2 e];rfl)]
    refine rec' w (.inr ⟨by simp,hwa,λc hc h1 h2=>?_⟩)
    rcases Qkl.1 hc with k|k
    ·exact absurd (hf c k) h1
    ·exact absurd (Qkh.1 k) h2
   ·have eb : eqV best a = false := by
     cases hq:eqV best a with
     |false=>rfl
     |true=>exact absurd ((kb8 _ _).1 hq) e2
    have hb:=hD best e1;by_cases ho:orp n a best w<0
    ·rw[if_pos (by rw[ew,eb,decide_eq_true ho];rfl)]
     have o1:0<orp n a w best:=by rw[wc5];omega
     refine rec' w (.inr ⟨by simp,hwa,λc hc h1 h2=>?_⟩)
     rcases Qkl.1 hc with k|k
     ·by_cases hcb:c=best
      ·rw[hcb];exact o1
      ·exact h.orp_tr ha hw hb (hD c k) hwa e2 h1 o1 (hf c k h1 hcb)
     ·exact absurd (Qkh.1 k) h2
    ·rw[if_neg (by rw[ew,eb,decide_eq_false ho];simp)]
     refine rec' best (.inr ⟨List.mem_append_left _ e1,e2,λc hc h1 h2=>?_⟩)
     rcases Qkl.1 hc with k|k
     ·exact hf c k h1 h2
     ·rw[Qkh.1 k] at h2 ⊢
      have:=h.ne0 ha hb hw (Ne.symm e2) (Ne.symm hwa) (Ne.symm h2)
      omega
theorem Rim.other(a:V3):∃c∈C,c≠a:=by
 apply Qka;intro hno
 have:C.length<=[a].length:=List.Nodup.length_le_of_subset h.nd λc hc=>by
  have:c=a:=Qka λhne=>hno ⟨c,hc,hne⟩
  simp[this]
 have:=h.two
 simp only[List.length_singleton] at *
 omega
theorem Rim.nx{a:V3}(ha:a∈C):Edg C n a (nxt C n a):=by
 have hf:=h.fnd ha C [] a (λx hx=>by cases hx) (λx hx=>hx) (.inl ⟨rfl,λc hc=>by cases hc⟩)
 rw[List.nil_append] at hf;obtain⟨c,hc,hca⟩:=h.other a
 rcases hf with⟨_,hf⟩|⟨e1,e2,hf⟩
 ·exact absurd (hf c hc) hca
 ·exact⟨ha,e1,Ne.symm e2,hf⟩
theorem Rim.nx_mem{a:V3}(ha:a∈C):nxt C n a∈C:=(h.nx ha).2.1
theorem Rim.nx_inj{a c:V3}(ha:a∈C)(hc:c∈C)(e:nxt C n a=nxt C n c):a=c:=(h.nx ha).inn (e ▸ h.nx hc)
def itr(C:List V3)(n a:V3):Nat->V3
 |0=>a
 |i+1=>nxt C n (itr C n a i)
theorem Rim.it_mem{a:V3}(ha:a∈C):∀i,itr C n a i∈C
 |0=>ha
 |i+1=>h.nx_mem (Rim.it_mem ha i)
theorem Rim.it_back{a:V3}(ha:a∈C):∀i j,itr C n a i=itr C n a (i+j)->a=itr C n a j
 |0,j,e=>by rw[Qkaj] at e;exact e
 |i+1,j,e=>Rim.it_back ha i j (by
  rw[Nat.add_right_comm] at e;exact h.nx_inj (h.it_mem ha i) (h.it_mem ha (i+j)) e)
theorem Rim.it_ret{a:V3}(ha:a∈C){m:Nat}(hm:0<m)(e:itr C n a m=a):∀x∈C,∃i,i<m/\itr C n a i=x:=λx hx=>by
 apply Qka;intro hno;have hne:∀i,i<=m->itr C n a i≠x:=λi hi he=>by
  by_cases k:i<m
  ·exact hno ⟨i,k,he⟩
  ·have:i=m:=by omega
   subst this;exact hno ⟨0,hm,by rw[<- he,e];rfl⟩
 obtain⟨w,hw⟩:=h.hx x (h.sub x hx).1;have hlow:∀i,i<=m->dot w (e7 (itr C n a i) x)<0:=λi hi=>by
  have:=hw _ (h.sub _ (h.it_mem ha i)).1 (hne i hi)
  rw[ta1];omega
 have hstep:∀i,i+1<=m->0<crs n (e7 (itr C n a i) x) (e7 (itr C n a (i+1)) x):=λi hi=>by
  rw[<- Sd6];exact (h.nx (h.it_mem ha i)).2.2.2 x hx (Ne.symm (hne i (by omega))) (Ne.symm (hne (i+1) hi))
 have key:∀j,j+1<=m->0<crs n (e7 (itr C n a 0) x) (e7 (itr C n a (j+1)) x):=λj=>by
  induction j with
  |zero=>exact hstep 0
  |succ j ih=>exact λhj=>Ic3 (m:=w) h.n0 (h.perp (h.it_mem ha _) hx) (h.perp (h.it_mem ha _) hx) (h.perp (h.it_mem ha _) hx) (hlow 0 (by omega)) (hlow (j+1) (by omega)) (hlow (j+2) hj) (ih (by omega)) (hstep (j+1) hj)
 have:=key (m-1) (by omega)
 rw[show m-1+1=m by omega,e] at this
 have z:crs n (e7 a x) (e7 a x)=0:=by simp only[crs,dot,c7,e7];grind
 have:0<crs n (e7 a x) (e7 a x):=this
 omega
theorem Rim.it_len{a:V3}(ha:a∈C){m:Nat}(hm:0<m)(e:itr C n a m=a):C.length<=m:=by
 have:=List.Nodup.length_le_of_subset h.nd (l₂:=(List.range m).map (itr C n a)) λx hx=>by
  obtain⟨i,hi,rfl⟩:=h.it_ret ha hm e x hx;exact Qkb.2 ⟨i,Qkan.2 hi,rfl⟩
 rw[Qkac,Qkai] at this;exact this
theorem Rim.it_nd{a:V3}(ha:a∈C):((List.range C.length).map (itr C n a)).Nodup:=by
 unfold List.Nodup;rw[List.pairwise_map];refine List.Pairwise.imp_of_mem (λ{i j} hi hj hij e=>?_) List.pairwise_lt_range
 have hj':=Qkan.1 hj
 have:=h.it_back ha i (j-i) (by rw[show i+(j-i)=j by omega];exact e)
 have:=h.it_len ha (m:=j-i) (by omega) this.symm
 omega
theorem Rim.it_perm{a:V3}(ha:a∈C):((List.range C.length).map (itr C n a)).Perm C:=by
 refine dd8 (h.it_nd ha) h.nd (λx hx=>?_) (by rw[Qkac,Qkai];exact Nat.le_refl _)
 obtain⟨i,_,rfl⟩:=Qkb.1 hx;exact h.it_mem ha i
theorem Rim.it_end{a:V3}(ha:a∈C):itr C n a C.length=a:=by
 have:=(h.it_perm ha).mem_iff.2 (h.it_mem ha C.length)
 obtain⟨i,hi,e⟩:=Qkb.1 this;have hi:=Qkan.1 hi;have hb:=h.it_back ha i (C.length-i) (by rw[show i+(C.length-i)=C.length by omega];exact e)
 have:=h.it_len ha (m:=C.length-i) (by omega) hb.symm
 have:i=0:=by omega
 subst this;exact e.symm
theorem Rim.nx_perm:(C.map (nxt C n)).Perm C:=by
 refine dd8 ?_ h.nd (λx hx=>?_) (by rw[Qkac];exact Nat.le_refl _)
 ·unfold List.Nodup;rw[List.pairwise_map];exact List.Pairwise.imp_of_mem (λ{a c} ha hc hne e=>hne (h.nx_inj ha hc e)) h.nd
 ·obtain⟨a,ha,rfl⟩:=Qkb.1 hx;exact h.nx_mem ha
theorem Rim.sig_nx(f:V3->Int):sig C (λa=>f (nxt C n a))=sig C f:=by rw[<- lc1 (nxt C n) f,dd7 h.nx_perm]
theorem Rim.sig_it(f:V3->Int){a:V3}(ha:a∈C):sig C f=sig (List.range C.length) (λi=>f (itr C n a i)):=by rw[<- lc1 (itr C n a) f,dd7 (h.it_perm ha)]
end
def AR(C:List V3)(n d:V3):Int:=sig C λa=>dot (c7 a (nxt C n a)) d
def D3(a c v:V3):Int:=dot (c7 a c) v
theorem Sd8(C:List V3)(n d e:V3):AR C n (e7 d e)=AR C n d-AR C n e:=by
 unfold AR;rw[<- Rb1];exact U8 λa _=>ta1 _ _ _
theorem Sd9(C:List V3)(n d:V3)(k:Int):AR C n ⟨k*d.x,k*d.y,k*d.z⟩=k*AR C n d:=by
 unfold AR;rw[<- ud0];exact U8 λa _=>by simp only[dot];grind
section
variable{X C:List V3}{n:V3}{k:Int}(h:Rim X C n k)
include h
theorem Rim.ar_o(o d:V3):sig C (λa=>D3 (e7 a o) (e7 (nxt C n a) o) d)=AR C n d:=by
 have e:∀a c:V3,D3 (e7 a o) (e7 c o) d=dot (c7 a c) d-(dot (c7 o c) d-dot (c7 o a) d):=λa c=>by simp only[D3,dot,c7,e7];grind
 have h1:sig C (λa=>D3 (e7 a o) (e7 (nxt C n a) o) d)=sig C (λa=>dot (c7 a (nxt C n a)) d-(dot (c7 o (nxt C n a)) d-dot (c7 o a) d)):=U8 λa _=>e a _
 rw[h1,Rb1,Rb1,h.sig_nx (λc=>dot (c7 o c) d)]
 show AR C n d-_=_;omega
theorem Rim.ne:∃a,a∈C:=by
 obtain⟨c,hc,_⟩:=h.other ⟨0,0,0⟩;exact⟨c,hc⟩
theorem Rim.ar_perp{d:V3}(hd:dot d n=0):AR C n d=0:=by
 obtain⟨o,ho⟩:=h.ne;rw[<- h.ar_o o d];refine Ca7 λa ha=>?_
 have:=Be8 h.n0 hd (h.perp ha ho) (h.perp (h.nx_mem ha) ho)
 rw[show D3 (e7 a o) (e7 (nxt C n a) o) d=dot d (c7 (e7 a o) (e7 (nxt C n a) o)) from ud4 _ _]
 exact this
theorem Rim.ar_n(d:V3):dot n n*AR C n d=dot n d*AR C n n:=by
 have e:AR C n (e7 ⟨dot n n*d.x,dot n n*d.y,dot n n*d.z⟩ ⟨dot n d*n.x,dot n d*n.y,dot n d*n.z⟩)=0:=h.ar_perp (by simp only[dot,e7];grind)
 rw[Sd8,Sd9,Sd9] at e;omega
theorem Rim.ar_pos(h3:3<=C.length):0<AR C n n:=by
 obtain⟨o,ho⟩:=h.ne;rw[<- h.ar_o o n];have term:∀a∈C,D3 (e7 a o) (e7 (nxt C n a) o) n=orp n a (nxt C n a) o:=λa _=>by rw[Sd6];simp only[D3,crs];exact ud4 _ _
 have nn:∀a∈C,0<=D3 (e7 a o) (e7 (nxt C n a) o) n:=λa ha=>by
  rw[term a ha];by_cases e1:o=a
  ·rw[e1,Sd7];exact Qkn _
  ·by_cases e2:o=nxt C n a
   ·rw[<- e2,nd6];exact Qkn _
   ·have:=(h.nx ha).2.2.2 o ho e1 e2;omega
 -- the corner behind the next one
 have ha:=h.nx_mem ho;have hne:o≠nxt C n o:=(h.nx ho).2.2.1;have hne2:o≠nxt C n (nxt C n o):=λe=>by
  have:=h.it_len ho (m:=2) (by omega) e.symm
  omega
 have hp:0<D3 (e7 (nxt C n o) o) (e7 (nxt C n (nxt C n o)) o) n:=by
  rw[term _ ha];exact (h.nx ha).2.2.2 o ho hne hne2
 have hsum:∀(l:List V3),(∀a∈l,0<=D3 (e7 a o) (e7 (nxt C n a) o) n)->nxt C n o∈l->0<sig l (λa=>D3 (e7 a o) (e7 (nxt C n a) o) n):=λl=>by
  induction l with
  |nil=>intro _ hx;cases hx
  |cons x l ih =>
   intro hl hx;rw[m9];have h1:=hl x (by simp)
   have h2:0<=sig l (λa=>D3 (e7 a o) (e7 (nxt C n a) o) n):=wc4 λa ha=>hl a (by simp[ha])
   rcases Qke.1 hx with e|hx
   ·rw[e] at hp;omega
   ·have:=ih (λa ha=>hl a (by simp[ha])) hx;omega
 exact hsum C nn ha
theorem Rim.cone(h3:3<=C.length){c:V3}(hc:dot n c=k)(o:V3):(dot n o<k->0<AR C n (e7 c o))/\(dot n o=k->AR C n (e7 c o)=0)/\(k<dot n o->AR C n (e7 c o)<0):=by
 have e:=h.ar_n (e7 c o);rw[ta1,hc] at e;have hp:=h.ar_pos h3;have hn:=da6 h.n0;refine⟨λhk=>?_,λhk=>?_,λhk=>?_⟩
 ·have:=Qkj (show 0<k-dot n o by omega) hp
  apply Qka;intro hno
  have:=Qkg (show 0<=dot n n by omega) (show 0<=-AR C n (e7 c o) by omega)
  rw[Qky] at this;omega
 ·rw[show k-dot n o=0 by omega,Qkx] at e
  exact (Qkf.1 e).resolve_left (by omega)
 ·have:=Qkj (show 0<dot n o-k by omega) hp
  apply Qka;intro hno;have h1:=Qkg (show 0<=dot n n by omega) (show 0<=AR C n (e7 c o) by omega)
  have:(dot n o-k)*AR C n n=-((k-dot n o)*AR C n n):=by rw[<- Qkag];congr 1;omega
  omega
theorem Rim.sum_edges(f:V3->V3->Int):sig C (λa=>sig C (λc=>@ite _ (Edg C n a c) (Classical.propDecidable _) (f a c) 0))=sig C (λa=>f a (nxt C n a)):=by
 refine U8 λa ha=>?_
 rw[lb8 h.nd (h.nx_mem ha) λc hc hne=>?_]
 ·rw[if_pos (h.nx ha)]
 ·rw[if_neg λhe=>hne (he.out (h.nx ha))]
end
theorem Rim.fan{X C:List V3}{n:V3}{k:Int}(h:Rim X C n k){a:V3}(ha:a∈C):sig (List.range (C.length-2)) (λi=>D3 a (itr C n a (i+1)) (itr C n a (i+2)))=AR C n a:=by
 have e1:AR C n a=sig (List.range C.length) (λi=>dot (c7 (itr C n a i) (itr C n a (i+1))) a):=h.sig_it (λv=>dot (c7 v (nxt C n v)) a) ha
 rw[e1];have h2:=h.two;obtain⟨m,hm⟩:∃m,C.length=m+2:=⟨C.length-2,by omega⟩
 rw[hm,show m+2-2=m by omega]
 have hend:=h.it_end ha;rw[hm] at hend;have hr:List.range (m+2)=0::(List.range m).map (·+1)++[m+1]:=by
  rw[List.range_succ,List.range_succ_eq_map]
 rw[hr,List.cons_append,m9,yb5,lc1,m9,Pa8];have z1:dot (c7 (itr C n a 0) (itr C n a (0+1))) a=0:=by
  show dot (c7 a _) a=0;simp only[dot,c7];grind
 have z2:dot (c7 (itr C n a (m+1)) (itr C n a (m+1+1))) a=0:=by
  rw[show m+1+1=m+2 from rfl,hend]
  simp only[dot,c7];grind
 rw[z1,z2,Int.zero_add,Qks,Qks];exact U8 λi _=>by simp only[D3,dot,c7];grind
structure Pol(X:List V3):Prop where
 iv:X.all inV=true
 sol:Sol X
 nd:X.Nodup
 ex:∀v∈X,∃m,Hi X v m
def onF(p:Pln)(X:List V3):List V3:=X.filter λv=>decide (dot p.n v=p.b)
theorem G9{p:Pln}{X:List V3}{v:V3}:v∈onF p X↔v∈X/\dot p.n v=p.b:=by unfold onF;rw[Qkk,decide_eq_true_eq]
theorem ue7(x:Int):0<=x*x:=by rw[<- Int.natAbs_mul_self];exact Int.natCast_nonneg _
theorem wc6{α:Type}(s h:α->Int):∀l:List α,l≠[]->(∀x∈l,0<h x)->∃x∈l,∀y∈l,s x*h y<=s y*h x
 |[],hn,_=>absurd rfl hn
 |[x],_,_=>⟨x,by simp,λy hy=>by rw[Qkh.1 hy];exact Qkn _⟩
 |x::y::l,_,hp=>by
  obtain⟨z,hz,hm⟩:=wc6 s h (y::l) (by simp) λa ha=>hp a (by simp only[Qke] at ha ⊢;exact .inr ha)
  have px:=hp x (by simp)
  have pz:=hp z (by simp only[Qke] at hz ⊢;exact .inr hz)
  by_cases hc:s z*h x<=s x*h z
  ·refine⟨z,by simp only[Qke] at hz ⊢;exact .inr hz,λa ha=>?_⟩
   rcases Qke.1 ha with rfl|ha
   ·exact hc
   ·exact hm a ha
  ·refine⟨x,by simp,λa ha=>?_⟩
   rcases Qke.1 ha with rfl|ha
   ·exact Qkn _
   ·have h1:=hm a ha;have pa:=hp a (by simp only[Qke] at ha ⊢;exact .inr ha)
    have k1:s x*h z*h a<=s z*h x*h a:=Qkr (by omega) (by omega)
    have k2:s z*h a*h x<=s a*h z*h x:=Qkr h1 (by omega)
    have k3:h z*(s x*h a)<=h z*(s a*h x):=by grind
    exact Int.le_of_mul_le_mul_left k3 pz
section
variable{X:List V3}(hX:Pol X)
include hX
theorem Pol.lens{p:Pln}(hp:Ca2 X p):3<=(onF p X).length:=by
 obtain⟨u,w,x,hu,hw,hx,h3,e1,e2,e3⟩:=hp.on;have n1:u≠w:=λe=>h3 (by subst e;refine Qkao ?_ ?_ ?_<;>simp only[N3,c7,e7]<;>grind)
 have n2:u≠x:=λe=>h3 (by subst e;refine Qkao ?_ ?_ ?_<;>simp only[N3,c7,e7]<;>grind)
 have n3:w≠x:=λe=>h3 (by subst e;refine Qkao ?_ ?_ ?_<;>simp only[N3,c7,e7]<;>grind)
 have hnd:[u,w,x].Nodup:=by simp[n1,n2,n3]
 exact List.Nodup.length_le_of_subset hnd λv hv=>by
  simp only[Qke,Qkz,or_false] at hv
  rcases hv with rfl|rfl|rfl
  ·exact G9.2 ⟨hu,e1⟩
  ·exact G9.2 ⟨hw,e2⟩
  ·exact G9.2 ⟨hx,e3⟩
theorem Pol.rim{p:Pln}(hp:Ca2 X p):Rim X (onF p X) p.n p.b :=
 ⟨ab1 hp.ok,hX.ex,λc hc=>G9.1 hc,hX.nd.filter _,by have:=hX.lens hp;omega⟩
theorem Pol.third{p:Pln}(hp:Ca2 X p)(a c:V3):∃v∈onF p X,v≠a/\v≠c:=by
 apply Qka;intro hno
 have:(onF p X).length<=[a,c].length:=List.Nodup.length_le_of_subset (hX.nd.filter _) λv hv=>by
  simp only[Qke,Qkz,or_false];apply Qka;intro hne;exact hno ⟨v,hv,λe=>hne (.inl e),λe=>hne (.inr e)⟩
 have:=hX.lens hp
 simp only[List.length_cons,List.length_nil] at *
 omega
theorem Pol.uni{p q:Pln}(hp:Ca2 X p)(hq:Ca2 X q){a c:V3}(e1:Edg (onF p X) p.n a c)(e2:Edg (onF q X) q.n a c):p=q:=by
 obtain⟨b1,hb1,ba1,bc1⟩:=hX.third hp a c;obtain⟨b2,hb2,ba2,bc2⟩:=hX.third hq a c;have s1:=e1.2.2.2 b1 hb1 ba1 bc1;have s2:=e2.2.2.2 b2 hb2 ba2 bc2;have pa:=(G9.1 e1.1).2;have pc:=(G9.1 e1.2.1).2;have qa:=(G9.1 e2.1).2;have qc:=(G9.1 e2.2.1).2;obtain⟨x1,p1⟩:=G9.1 hb1;obtain⟨x2,q2⟩:=G9.1 hb2;have c1:=λe=>na9 (d:=e) (qa8 (n:=p.n) (a:=e7 c a) (c:=e7 b1 a) (by rw[ta1];omega) (by rw[ta1];omega))
 have c2:=λe=>na9 (d:=e) (qa8 (n:=q.n) (a:=e7 c a) (c:=e7 b2 a) (by rw[ta1];omega) (by rw[ta1];omega))
 have t1:0<dot p.n (c7 (e7 c a) (e7 b1 a)):=s1;have t2:0<dot q.n (c7 (e7 c a) (e7 b2 a)):=s2;have hd1:=hp.hd b2 x2;by_cases hon:dot p.n b2=p.b
 ·-- both planes go through the same oc7 corners
  have s3:0<dot p.n (c7 (e7 c a) (e7 b2 a)):=e1.2.2.2 b2 (G9.2 ⟨x2,hon⟩) ba2 bc2;have hN:(c7 (e7 c a) (e7 b2 a):V3)≠⟨0,0,0⟩:=λe=>by rw[e] at t2;simp[dot] at t2
  have c3:=λe=>na9 (d:=e) (qa8 (n:=p.n) (a:=e7 c a) (c:=e7 b2 a) (by rw[ta1];omega) (by rw[ta1];omega))
  generalize c7 (e7 c a) (e7 b2 a)=N at *
  have hNN:=da6 hN;have par:c7 p.n q.n=⟨0,0,0⟩:=by
   have d1:∀v:V3,dot v ⟨1,0,0⟩=v.x:=λv=>by simp[dot]
   have d2:∀v:V3,dot v ⟨0,1,0⟩=v.y:=λv=>by simp[dot]
   have d3:∀v:V3,dot v ⟨0,0,1⟩=v.z:=λv=>by simp[dot]
   have a1:=c3 ⟨1,0,0⟩;have a2:=c3 ⟨0,1,0⟩;have a3:=c3 ⟨0,0,1⟩;have f1:=c2 ⟨1,0,0⟩;have f2:=c2 ⟨0,1,0⟩;have f3:=c2 ⟨0,0,1⟩;rw[d1,d1] at a1 f1;rw[d2,d2] at a2 f2;rw[d3,d3] at a3 f3;have z:∀{t:Int},dot N N*t=0->t=0:=λe=>(Qkf.1 e).resolve_left (by omega)
   generalize dot N N=m at *
   generalize dot p.n N=x at *
   generalize dot q.n N=y at *
   refine Qkao (z (z ?_)) (z (z ?_)) (z (z ?_))
   ·have:m*(m*(c7 p.n q.n).x)=(m*p.n.y)*(m*q.n.z)-(m*p.n.z)*(m*q.n.y):=by simp only[c7];grind
    rw[this,a2,a3,f2,f3];grind
   ·have:m*(m*(c7 p.n q.n).y)=(m*p.n.z)*(m*q.n.x)-(m*p.n.x)*(m*q.n.z):=by simp only[c7];grind
    rw[this,a1,a3,f1,f3];grind
   ·have:m*(m*(c7 p.n q.n).z)=(m*p.n.x)*(m*q.n.y)-(m*p.n.y)*(m*q.n.x):=by simp only[c7];grind
    rw[this,a1,a2,f1,f2];grind
  have hn:q.n=p.n:=by
   rcases bd7 (uc5 hp.ok) (uc5 hq.ok) par with e|e
   ·exact e
   ·rw[e] at t2
    have:dot (neg p.n) N=-dot p.n N:=by simp only[dot,neg];grind
    omega
  have hb:q.b=p.b:=by rw[<- qa,hn,pa]
  cases p;cases q
  simp only at hn hb
  rw[hn,hb]
 ·exfalso;have k1:=c1 (e7 b2 a);have h1:dot p.n (e7 b2 a)<0:=by rw[ta1];omega
  have hN1:0<dot (c7 (e7 c a) (e7 b1 a)) (c7 (e7 c a) (e7 b1 a)):=da6 λe=>by rw[e] at t1;simp[dot] at t1
  have m1:=Qki hN1 h1;have r1:dot (c7 (e7 c a) (e7 b1 a)) (e7 b2 a)<0:=by
   apply Qka;intro hno
   have:=Qkg (show 0<=dot p.n (c7 (e7 c a) (e7 b1 a)) by omega) (show 0<=dot (c7 (e7 c a) (e7 b1 a)) (e7 b2 a) by omega)
   omega
  have k2:=c2 (e7 b1 a);have h2:dot q.n (e7 b1 a)<=0:=by rw[ta1];have:=hq.hd b1 x1;omega
  have hN2:0<dot (c7 (e7 c a) (e7 b2 a)) (c7 (e7 c a) (e7 b2 a)):=da6 λe=>by rw[e] at t2;simp[dot] at t2
  have m2:=Qkg (show 0<=dot (c7 (e7 c a) (e7 b2 a)) (c7 (e7 c a) (e7 b2 a)) by omega) (show 0<=-dot q.n (e7 b1 a) by omega)
  rw[Qky] at m2;have e3:dot (c7 (e7 c a) (e7 b2 a)) (e7 b1 a)=-dot (c7 (e7 c a) (e7 b1 a)) (e7 b2 a):=by simp only[dot,c7,e7];grind
  have m3:=Qkj t2 (show 0<dot (c7 (e7 c a) (e7 b2 a)) (e7 b1 a) by omega)
  omega
end
section
variable{X:List V3}(hX:Pol X)
include hX
theorem Pol.rev{p:Pln}(hp:Ca2 X p){a c:V3}(he:Edg (onF p X) p.n a c):∃q,Ca2 X q/\Edg (onF q X) q.n c a:=by
 obtain⟨xa,pa⟩:=G9.1 he.1;obtain⟨xc,pc⟩:=G9.1 he.2.1;obtain⟨b1,hb1,ba1,bc1⟩:=hX.third hp a c;obtain⟨xb,pb⟩:=G9.1 hb1;have sb:=he.2.2.2 b1 hb1 ba1 bc1
 -- the points off the plane
 obtain⟨v0,hv0,hne⟩:=hX.sol.off (ab1 hp.ok) p.b;have hle:=hp.hd;have hY:X.filter (λv=>decide (dot p.n v<p.b))≠[]:=λe=>by
  have:v0∈X.filter (λv=>decide (dot p.n v<p.b)):=Qkk.2 ⟨hv0,decide_eq_true (by have:=hle v0 hv0;omega)⟩
  rw[e] at this;cases this
 obtain⟨z,hz,hmin⟩:=wc6 (λv=>orp p.n a c v) (λv=>p.b-dot p.n v) _ hY λv hv=>by
  have:=of_decide_eq_true (Qkk.1 hv).2
  omega
 obtain⟨xz,hz'⟩:=Qkk.1 hz;have hzb:=of_decide_eq_true hz';have hmin':∀v∈X,dot p.n v<p.b->orp p.n a c z*(p.b-dot p.n v)<=orp p.n a c v*(p.b-dot p.n z):=λv hv hlt=>hmin v (Qkk.2 ⟨hv,decide_eq_true hlt⟩)
 clear hmin
 obtain⟨S,hS⟩:∃S,S=orp p.n a c z:=⟨_,rfl⟩;obtain⟨H,hH⟩:∃H,H=p.b-dot p.n z:=⟨_,rfl⟩;rw[<- hS,<- hH] at hmin';have hH0:0<H:=by omega
 -- how far a point re8 within,and below
 have hs0:∀v∈X,dot p.n v=p.b->0<=orp p.n a c v:=λv hv on=>by
  by_cases e1:v=a
  ·rw[e1,Sd7];exact Qkn _
  ·by_cases e2:v=c
   ·rw[e2,nd6];exact Qkn _
   ·have:=he.2.2.2 v (G9.2 ⟨hv,on⟩) e1 e2;omega
 obtain⟨u,hu⟩:∃u:V3,u=c7 p.n (e7 c a):=⟨_,rfl⟩;obtain⟨m,hm⟩:∃m:V3,m=⟨-(H*u.x)-S*p.n.x,-(H*u.y)-S*p.n.y,-(H*u.z)-S*p.n.z⟩:=⟨_,rfl⟩;have hsv:∀v,orp p.n a c v=dot u (e7 v a):=λv=>by rw[hu];simp only[orp,crs,dot,c7,e7];grind
 have hmv:∀v,dot m v-dot m a=-(H*orp p.n a c v)+S*(p.b-dot p.n v):=λv=>by
  rw[hsv,hm,<- pa];simp only[dot,e7];grind
 have hma:∀v∈X,dot m v<=dot m a:=λv hv=>by
  have e:=hmv v;by_cases hlt:dot p.n v<p.b
  ·have:=hmin' v hv hlt
   have:orp p.n a c v*H=H*orp p.n a c v:=Int.mul_comm _ _
   omega
  ·have on:dot p.n v=p.b:=by have:=hle v hv;omega
   have:=Qkg (show 0<=H by omega) (hs0 v hv on)
   rw[show p.b-dot p.n v=0 by omega,Qkc] at e
   omega
 have hmc:dot m c=dot m a:=by
  have e:=hmv c;rw[nd6,Qkc,show p.b-dot p.n c=0 by omega,Qkc] at e
  omega
 have hmz:dot m z=dot m a:=by
  have e:=hmv z;rw[<- hS,<- hH,Int.mul_comm H S] at e;omega
 have hmb:dot m b1<dot m a:=by
  have e:=hmv b1
  have:=Qkj hH0 sb
  rw[show p.b-dot p.n b1=0 by omega,Qkc] at e
  omega
 have hdne:e7 c a≠⟨0,0,0⟩:=λe=>he.2.2.1 (by
  simp only[e7,V3.mk.injEq] at e;obtain⟨k1,k2,k3⟩:=e;exact Qkao (by omega) (by omega) (by omega))
 have hdd:=da6 hdne;have hN3:N3 a c z≠⟨0,0,0⟩:=λe=>by
  have:=Zb1 (m:=e7 c a) (show c7 (e7 c a) (e7 z a)=⟨0,0,0⟩ from e) p.n
  rw[ta1 p.n c a,show dot p.n c-dot p.n a=0 by omega,Qkc,ta1 p.n z a] at this
  have:=(Qkf.1 this.symm).resolve_left (by omega)
  omega
 obtain⟨q,hq,qa,qc,qz⟩:=Rc6 hX.iv (n:=m) xa xc xz hN3 hma hmc hmz ⟨b1,xb,by omega⟩
 -- the plane's normal re8 along m
 have hmne:m≠⟨0,0,0⟩:=λe=>by rw[e] at hmb;simp[dot] at hmb
 have hmm:=da6 hmne;have hpar:c7 q.n m=⟨0,0,0⟩:=by
  have k1:c7 q.n (N3 a c z)=⟨0,0,0⟩:=qa8 (by rw[ta1];omega) (by rw[ta1];omega)
  have k2:c7 m (N3 a c z)=⟨0,0,0⟩:=qa8 (by rw[ta1];omega) (by rw[ta1];omega)
  have c1:=λe=>na9 (d:=e) k1
  have c2:=λe=>na9 (d:=e) k2
  have hNN:=da6 hN3;generalize N3 a c z=N at *
  have d1:∀v:V3,dot v ⟨1,0,0⟩=v.x:=λv=>by simp[dot]
  have d2:∀v:V3,dot v ⟨0,1,0⟩=v.y:=λv=>by simp[dot]
  have d3:∀v:V3,dot v ⟨0,0,1⟩=v.z:=λv=>by simp[dot]
  have a1:=c1 ⟨1,0,0⟩;have a2:=c1 ⟨0,1,0⟩;have a3:=c1 ⟨0,0,1⟩;have f1:=c2 ⟨1,0,0⟩;have f2:=c2 ⟨0,1,0⟩;have f3:=c2 ⟨0,0,1⟩;rw[d1,d1] at a1 f1;rw[d2,d2] at a2 f2;rw[d3,d3] at a3 f3;have w:∀{t:Int},dot N N*t=0->t=0:=λe=>(Qkf.1 e).resolve_left (by omega)
  clear hmv hm hu hsv
  generalize dot N N=g at *
  generalize dot q.n N=x at *
  generalize dot m N=y at *
  refine Qkao (w (w ?_)) (w (w ?_)) (w (w ?_))
  ·have:g*(g*(c7 q.n m).x)=(g*q.n.y)*(g*m.z)-(g*q.n.z)*(g*m.y):=by simp only[c7];grind
   rw[this,a2,a3,f2,f3];grind
  ·have:g*(g*(c7 q.n m).y)=(g*q.n.z)*(g*m.x)-(g*q.n.x)*(g*m.z):=by simp only[c7];grind
   rw[this,a1,a3,f1,f3];grind
  ·have:g*(g*(c7 q.n m).z)=(g*q.n.x)*(g*m.y)-(g*q.n.y)*(g*m.x):=by simp only[c7];grind
   rw[this,a1,a2,f1,f2];grind
 have hq2:=λe=>na9 (d:=e) hpar
 have hk:0<dot q.n m:=by
  have e:=hq2 (e7 b1 a);rw[ta1,ta1] at e;have h1:dot q.n b1-dot q.n a<=0:=by have:=hq.hd b1 xb;omega
  apply Qka;intro hno;have t1:=Qkg (show 0<=dot m m by omega) (show 0<=-(dot q.n b1-dot q.n a) by omega)
  rw[Qky] at t1;have t2:=Qkg (show 0<=-dot q.n m by omega) (show 0<=-(dot m b1-dot m a) by omega)
  rw[Int.neg_mul_neg] at t2;have t3:dot q.n m*(dot m b1-dot m a)=0:=by omega
  rcases Qkf.1 t3 with t3|t3
  ·have e':=hq2 q.n;rw[t3,Qkx] at e'
   have:=da6 (ab1 hq.ok)
   rcases Qkf.1 e' with r|r<;>omega
  ·omega
 refine⟨q,hq,G9.2 ⟨xc,qc⟩,G9.2 ⟨xa,qa⟩,Ne.symm he.2.2.1,λv hv n1 n2=>?_⟩
 obtain⟨xv,qv⟩:=G9.1 hv;have e:=hq2 (c7 (e7 a c) (e7 v c))
 -- how the oc7 points turn,seen along m
 have em:H*dot m (c7 (e7 a c) (e7 v c))=(p.b-dot p.n v)*(H*H*dot (e7 c a) (e7 c a)+S*S):=by
  have mv:dot m v=dot m a:=by
   have e':=hq2 (e7 v a);rw[ta1,ta1,show dot q.n v-dot q.n a=0 by omega,Qkc] at e'
   have:=(Qkf.1 e'.symm).resolve_left (by omega)
   omega
  have r1:H*orp p.n a c v=S*(p.b-dot p.n v):=by have:=hmv v;omega
  have r2:dot m (c7 (e7 a c) (e7 v c))=H*((p.b-dot p.n v)*dot (e7 c a) (e7 c a))+S*orp p.n a c v:=by
   have nd:dot p.n (e7 c a)=0:=by rw[ta1];omega
   have r3:dot m (c7 (e7 a c) (e7 v c))=H*(dot p.n (e7 c a)*dot (e7 c a) (e7 v a))-H*(dot p.n (e7 v a)*dot (e7 c a) (e7 c a))+S*orp p.n a c v:=by
    have q1:dot u (c7 (e7 c a) (e7 v a))=dot p.n (e7 c a)*dot (e7 c a) (e7 v a)-dot p.n (e7 v a)*dot (e7 c a) (e7 c a):=by rw[hu];simp only[dot,c7];grind
    have q2:c7 (e7 a c) (e7 v c)=⟨-(c7 (e7 c a) (e7 v a)).x,-(c7 (e7 c a) (e7 v a)).y,-(c7 (e7 c a) (e7 v a)).z⟩:=by refine Qkao ?_ ?_ ?_<;>simp only[c7,e7]<;>grind
    have q3:orp p.n a c v=dot p.n (c7 (e7 c a) (e7 v a)):=rfl;rw[q2,q3];have q4:dot m ⟨-(c7 (e7 c a) (e7 v a)).x,-(c7 (e7 c a) (e7 v a)).y,-(c7 (e7 c a) (e7 v a)).z⟩=H*dot u (c7 (e7 c a) (e7 v a))+S*dot p.n (c7 (e7 c a) (e7 v a)):=by
     rw[hm];generalize c7 (e7 c a) (e7 v a)=w;simp only[dot];grind
    rw[q4,q1]
    grind
   rw[r3,nd,Qkx,Qkc,ta1 p.n v a,show dot p.n v-dot p.n a=-(p.b-dot p.n v) by omega]
   grind
  rw[r2];generalize dot (e7 c a) (e7 c a)=D at *
  generalize orp p.n a c v=s at *
  generalize p.b-dot p.n v=t at *
  grind
 have hpos:0<H*H*dot (e7 c a) (e7 c a)+S*S:=by
  have:=Qkj (Qkj hH0 hH0) hdd
  have:=ue7 S
  omega
 have hv0':0<p.b-dot p.n v:=by
  apply Qka;intro hno;have on:dot p.n v=p.b:=by have:=hle v xv;omega
  have s1:=he.2.2.2 v (G9.2 ⟨xv,on⟩) n2 n1;have e':=hq2 (e7 v a);rw[ta1,ta1,show dot q.n v-dot q.n a=0 by omega,Qkc] at e'
  have mv:=(Qkf.1 e'.symm).resolve_left (by omega)
  have e2:=hmv v;rw[show p.b-dot p.n v=0 by omega,Qkc] at e2
  have:=Qkj hH0 s1
  omega
 have t1:=Qkj hv0' hpos;rw[<- em] at t1;have t2:0<dot m (c7 (e7 a c) (e7 v c)):=by
  apply Qka;intro hno
  have:=Qkg (show 0<=H by omega) (show 0<=-dot m (c7 (e7 a c) (e7 v c)) by omega)
  rw[Qky] at this;omega
 have t3:=Qkj hk t2;rw[<- e] at t3;show 0<dot q.n (c7 (e7 a c) (e7 v c));apply Qka;intro hno
 have:=Qkg (show 0<=dot m m by omega) (show 0<=-dot q.n (c7 (e7 a c) (e7 v c)) by omega)
 rw[Qky] at this;omega
end
open Classical in
noncomputable def atE(X:List V3)(p:Pln)(a c:V3)(t:Int):Int:=if Edg (onF p X) p.n a c then t else 0
def ptF(p:Pln)(X:List V3):V3:=(onF p X).headD ⟨0,0,0⟩
noncomputable def V6(X:List V3)(o:V3):Int:=sig (F0 X) λp=>AR (onF p X) p.n (e7 (ptF p X) o)
section
variable{X:List V3}(hX:Pol X)
include hX
theorem Pol.mem{p:Pln}:p∈F0 X↔Ca2 X p:=B7 hX.iv p
omit hX in
theorem le6(X:List V3):(F0 X).Nodup:=Yb3 (Yb2 X)
theorem Pol.pt{p:Pln}(hp:Ca2 X p):ptF p X∈onF p X:=by
 have:=hX.lens hp
 unfold ptF;cases h:onF p X with
 |nil=>rw[h] at this;simp at this
 |cons a l=>simp
theorem Pol.edges{p:Pln}(hp:Ca2 X p)(f:V3->V3->Int):sig X (λa=>sig X (λc=>atE X p a c (f a c)))=sig (onF p X) (λa=>f a (nxt (onF p X) p.n a)):=by
 rw[<- (hX.rim hp).sum_edges f];unfold onF;rw[lb7];refine U8 λa ha=>?_
 split
 ·rw[lb7];refine U8 λc hc=>?_
  split
  ·rfl
  ·rename_i hn;unfold atE;rw[if_neg λhe=>hn (decide_eq_true (G9.1 he.2.1).2)]
 ·rename_i hn;refine Ca7 λc _=>?_
  unfold atE;rw[if_neg λhe=>hn (decide_eq_true (G9.1 he.1).2)]
theorem Pol.anti(f:V3->V3->Int)(hf:∀a c,f a c=-f c a):sig (F0 X) (λp=>sig X (λa=>sig X (λc=>atE X p a c (f a c))))=0:=by
 rw[Rb2];have e:sig X (λa=>sig (F0 X) (λp=>sig X (λc=>atE X p a c (f a c))))=sig X (λa=>sig X (λc=>sig (F0 X) (λp=>atE X p a c (f a c)))):=U8 λa _=>Rb2 _ _ _
 rw[e];have one:∀a c t,(∃p,p∈F0 X/\Edg (onF p X) p.n a c)->sig (F0 X) (λp=>atE X p a c t)=t:=λa c t ⟨p,hp,he⟩=>by
  rw[lb8 (le6 X) hp λq hq hne=>?_]
  ·unfold atE;rw[if_pos he]
  ·unfold atE;rw[if_neg λhe'=>hne (hX.uni (hX.mem.1 hq) (hX.mem.1 hp) he' he)]
 have none:∀a c t,¬ (∃p,p∈F0 X/\Edg (onF p X) p.n a c)->sig (F0 X) (λp=>atE X p a c t)=0:=λa c t hn=>Ca7 λp hp=>by
  unfold atE;rw[if_neg λhe=>hn ⟨p,hp,he⟩]
 have turn:∀a c,(∃p,p∈F0 X/\Edg (onF p X) p.n a c)->∃p,p∈F0 X/\Edg (onF p X) p.n c a:=λa c ⟨p,hp,he⟩=>by
  obtain⟨q,hq,h⟩:=hX.rev (hX.mem.1 hp) he;exact⟨q,hX.mem.2 hq,h⟩
 refine Sd0 λa _ c _=>?_
 by_cases h:∃p,p∈F0 X/\Edg (onF p X) p.n a c
 ·rw[one a c _ h,one c a _ (turn a c h)];exact hf a c
 ·rw[none a c _ h,none c a _ λk=>h (turn c a k)]
  rfl
theorem Pol.closed(w:V3):sig (F0 X) (λp=>AR (onF p X) p.n w)=0:=by
 rw[<- hX.anti (λa c=>dot (c7 a c) w) λa c=>by simp only[dot,c7];grind]
 refine U8 λp hp=>?_
 rw[hX.edges (hX.mem.1 hp)];rfl
theorem Pol.from'(o:V3):V6 X o=sig (F0 X) λp=>AR (onF p X) p.n (ptF p X):=by
 unfold V6;have e:sig (F0 X) (λp=>AR (onF p X) p.n (e7 (ptF p X) o))=sig (F0 X) (λp=>AR (onF p X) p.n (ptF p X)-AR (onF p X) p.n o):=U8 λp _=>Sd8 _ _ _ _
 rw[e,Rb1,hX.closed o,Int.sub_zero]
theorem Pol.any(o o':V3):V6 X o=V6 X o':=by rw[hX.from',hX.from']
theorem Pol.cone{p:Pln}(hp:Ca2 X p)(o:V3):(dot p.n o<p.b->0<AR (onF p X) p.n (e7 (ptF p X) o))/\(dot p.n o=p.b->AR (onF p X) p.n (e7 (ptF p X) o)=0)/\(p.b<dot p.n o->AR (onF p X) p.n (e7 (ptF p X) o)<0) :=
 (hX.rim hp).cone (hX.lens hp) (G9.1 (hX.pt hp)).2 o
theorem Pol.pos:0<V6 X ⟨0,0,0⟩:=by
 obtain⟨o,ho⟩:=hX.sol.ne;rw[hX.any _ o]
 -- some facet does not have this corner
 have nn:∀p∈F0 X,0<=AR (onF p X) p.n (e7 (ptF p X) o):=λp hp=>by
  have h:=hX.mem.1 hp;obtain⟨k1,k2,_⟩:=hX.cone h o
  have:=h.hd o ho
  by_cases e:dot p.n o=p.b
  ·rw[k2 e];exact Qkn _
  ·have:=k1 (by omega);omega
 have hx:∃p∈F0 X,dot p.n o<p.b:=by
  apply Qka;intro hno;have hall:∀p∈F0 X,dot p.n o=p.b:=λp hp=>by
   have:=(hX.mem.1 hp).hd o ho
   apply Qka;intro hne;exact hno ⟨p,hp,by omega⟩
  have hz:V6 X o=0:=Ca7 λp hp=>(hX.cone (hX.mem.1 hp) o).2.1 (hall p hp)
  -- take another corner: all cones from there count nothing either
  have hne:=ke9 hX.iv hX.sol;cases hF:F0 X with
  |nil=>exact hne hF
  |cons p l =>
   have hp:p∈F0 X:=by rw[hF];simp
   have hf:=hX.mem.1 hp;obtain⟨v,hv,hoff⟩:=hX.sol.off (ab1 hf.ok) p.b;have hpos:0<V6 X v:=by
    unfold V6;have nn':∀q∈F0 X,0<=AR (onF q X) q.n (e7 (ptF q X) v):=λq hq=>by
     have h:=hX.mem.1 hq;obtain⟨k1,k2,_⟩:=hX.cone h v
     have:=h.hd v hv
     by_cases e:dot q.n v=q.b
     ·rw[k2 e];exact Qkn _
     ·have:=k1 (by omega);omega
    rw[hF,m9];have h1:=(hX.cone hf v).1 (by have:=hf.hd v hv;omega)
    have h2:0<=sig l λq=>AR (onF q X) q.n (e7 (ptF q X) v):=wc4 λq hq=>nn' q (by rw[hF];simp[hq])
    omega
   rw[hX.any v o,hz] at hpos;omega
 obtain⟨p,hp,hlt⟩:=hx;unfold V6;have hs:∀l:List Pln,(∀q∈l,q∈F0 X)->p∈l->0<sig l λq=>AR (onF q X) q.n (e7 (ptF q X) o):=λl=>by
  induction l with
  |nil=>intro _ h;cases h
  |cons q l ih =>
   intro hl hm;rw[m9];have h1:=nn q (hl q (by simp))
   have h2:0<=sig l λq=>AR (onF q X) q.n (e7 (ptF q X) o):=wc4 λr hr=>nn r (hl r (by simp[hr]))
   rcases Qke.1 hm with e|hm
   ·subst e
    have:=(hX.cone (hX.mem.1 hp) o).1 hlt
    omega
   ·have:=ih (λr hr=>hl r (by simp[hr])) hm;omega
 exact hs _ (λq h=>h) hp
end
set_option maxRecDepth 100000
theorem Ce0{a c:Nat}{x y:Int}(h1:Sm a x)(h2:Sm c y):Sm ((a*c:Nat):Int) (x*y):=by
 have k1:x.natAbs<=a:=by obtain⟨p,q⟩:=h1;omega
 have k2:y.natAbs<=c:=by obtain⟨p,q⟩:=h2;omega
 have k:(x*y).natAbs<=a*c:=by rw[Int.natAbs_mul];exact Nat.mul_le_mul k1 k2
 constructor<;>omega
def Sm3(n:Int)(v:V3):Prop:=Sm n v.x/\Sm n v.y/\Sm n v.z
theorem nd7{v:V3}:inV v=true↔Sm3 24 v:=sa8 v
theorem ud5{u w:V3}(hu:inV u=true)(hw:inV w=true):K8 u w=e7 u w/\Sm3 48 (e7 u w):=by
 obtain⟨⟨a1,a2⟩,⟨a3,a4⟩,a5,a6⟩:=(sa8 _).1 hu;obtain⟨⟨c1,c2⟩,⟨c3,c4⟩,c5,c6⟩:=(sa8 _).1 hw;refine⟨?_,⟨by simp only[e7];omega,by simp only[e7];omega⟩,⟨by simp only[e7];omega,by simp only[e7];omega⟩,by simp only[e7];omega,by simp only[e7];omega⟩
 unfold K8 e7;rw[aa0 (by omega) (by omega),aa0 (by omega) (by omega),aa0 (by omega) (by omega)]
theorem ed1{a c:V3}(ha:Sm3 48 a)(hc:Sm3 48 c):A3 a c=c7 a c/\Sm3 4608 (c7 a c):=by
 have m:∀{x y:Int},Sm 48 x->Sm 48 y->-2304<=x*y/\x*y<=2304:=λh1 h2=>Ce0 (a:=48) (c:=48) h1 h2
 obtain⟨a1,a2,a3⟩:=ha;obtain⟨c1,c2,c3⟩:=hc;have p1:=m a2 c3;have p2:=m a3 c2;have p3:=m a3 c1;have p4:=m a1 c3;have p5:=m a1 c2;have p6:=m a2 c1;have hs:Sm3 4608 (c7 a c):=⟨⟨by simp only[c7];omega,by simp only[c7];omega⟩,⟨by simp only[c7];omega,by simp only[c7];omega⟩,by simp only[c7];omega,by simp only[c7];omega⟩
 refine⟨?_,hs⟩;unfold A3;simp only[Oc8,ld7];obtain⟨s1,s2,s3⟩:=hs;show (⟨W (c7 a c).x,W (c7 a c).y,W (c7 a c).z⟩:V3)=c7 a c;rw[ob5 (s1.mono (by omega)),ob5 (s2.mono (by omega)),ob5 (s3.mono (by omega))]
theorem ed2{a c:V3}(ha:Sm3 4608 a)(hc:Sm3 4608 c):w9 a c=dot a c/\Sm 63700992 (dot a c):=by
 have m:∀{x y:Int},Sm 4608 x->Sm 4608 y->-21233664<=x*y/\x*y<=21233664:=λh1 h2=>Ce0 (a:=4608) (c:=4608) h1 h2
 have p1:=m ha.1 hc.1;have p2:=m ha.2.1 hc.2.1;have p3:=m ha.2.2 hc.2.2;have hs:Sm 63700992 (dot a c):=by unfold dot;constructor<;>omega
 refine⟨?_,hs⟩;unfold w9;simp only[Hb4,Vb8];exact ob5 (hs.mono (by omega))
theorem Sm3.mono{n m:Int}{v:V3}(h:Sm3 n v)(hn:n<=m):Sm3 m v:=⟨Sm.mono h.1 hn,Sm.mono h.2.1 hn,Sm.mono h.2.2 hn⟩
theorem Td0{a c v:V3}(ha:inV a=true)(hc:inV c=true)(hv:inV v=true):w9 (A3 a c) v=D3 a c v/\Sm 63700992 (D3 a c v):=by
 obtain⟨e1,e2⟩:=ed1 ((nd7.1 ha).mono (by omega)) ((nd7.1 hc).mono (by omega))
 rw[e1];exact ed2 e2 ((nd7.1 hv).mono (by omega))
theorem ue8{n a c v:V3}(hn:Sm3 4608 n)(ha:inV a=true)(hc:inV c=true)(hv:inV v=true):w9 n (A3 (K8 c a) (K8 v a))=orp n a c v:=by
 obtain⟨e1,e2⟩:=ud5 hc ha;obtain⟨e3,e4⟩:=ud5 hv ha;obtain⟨e5,e6⟩:=ed1 e2 e4;rw[e1,e3,e5];exact (ed2 hn e6).1
def Td1(C:List V3)(g:Nat->List b7):Prop:=∀k,k<C.length->g k=tV.row (gL tV C k)
section
variable{n:V3}{C:List V3}{g:Nat->List b7}(hn:Sm3 4608 n)(hg:Td1 C g)(hC:∀c∈C,inV c=true)(hl:C.length<=1000)
include hn hg hC hl
theorem Dd5{v:V3}(hv:inV v=true):∃j,lp (N2 ⟨C.length,g,(C.length:Int),n.x,n.y,n.z,C.length,g,v.x,v.y,v.z⟩) ⟨0,v.x,v.y,v.z⟩=(1,⟨j,(nxt C n v).x,(nxt C n v).y,(nxt C n v).z⟩):=by
 suffices key:∃t s,lp (N2 ⟨C.length,g,(C.length:Int),n.x,n.y,n.z,C.length,g,v.x,v.y,v.z⟩) ⟨0,v.x,v.y,v.z⟩=(t,s)/\(t=1/\∃j,s=⟨j,(nxt C n v).x,(nxt C n v).y,(nxt C n v).z⟩) by
  obtain⟨t,s,h,rfl,j,rfl⟩:=key;exact⟨j,h⟩
 refine R6 (step:=N2 ⟨C.length,g,(C.length:Int),n.x,n.y,n.z,C.length,g,v.x,v.y,v.z⟩) (mk:=λj (b:V3)=>(⟨(j:Int),b.x,b.y,b.z⟩:o2)) C.length (λj b=>inV b=true/\nxF n v (C.drop j) b=nxt C n v) (λt s=>t=1/\∃j,s=⟨j,(nxt C n v).x,(nxt C n v).y,(nxt C n v).z⟩) (by omega)
  (λj b hj hi=>?_) (λj b hj hi=>?_) 0 v ⟨hv,rfl⟩
 ·obtain⟨hb,hi⟩:=hi;have hw:=hC _ (Ba8 tV hj);have hN:=C0 hj (show C.length<=4611686018427387904 by omega)
  have ho:=ue8 (a:=v) (c:=b) (v:=gL tV C j) hn hv hb hw;have hd:C.drop j=gL tV C j::C.drop (j+1):=by
   rw[nb4 tV hj];exact List.drop_eq_getElem_cons hj
  rw[hd] at hi;unfold nxF at hi;have e1:((gL tV C j).x==v.x&&((gL tV C j).y==v.y&&((gL tV C j).z==v.z&&true)))=eqV (gL tV C j) v:=rfl;have e2:(b.x==v.x&&(b.y==v.y&&(b.z==v.z&&true)))=eqV b v:=rfl;have e3:∀u:V3,toI (hdA (tV.row u))=u.x/\toI (hdA (tlA (tV.row u)))=u.y/\toI (hdA (tlA (tlA (tV.row u))))=u.z/\(Nat.ble 3 (len (tV.row u))&&na5 [CK.int .i64,CK.int .i64,CK.int .i64] (tV.row u))=true:=λ_=>⟨rfl,rfl,rfl,rfl⟩
  obtain⟨f1,f2,f3,f4⟩:=e3 (gL tV C j);show Nx (A1 Stp.next Stp.exit Stp.fail _ _) _ _;simp only[A1,Int.toNat_natCast,hg j hj,f1,f2,f3,f4,e1,e2,hN,i6 hj];rw[btD (o5 hj)];simp only[w6];rw[show (⟨(gL tV C j).x,(gL tV C j).y,(gL tV C j).z⟩:V3)=gL tV C j from rfl,show (⟨b.x,b.y,b.z⟩:V3)=b from rfl,show (⟨v.x,v.y,v.z⟩:V3)=v from rfl,show (⟨n.x,n.y,n.z⟩:V3)=n from rfl,ho]
  have take : ∀ c : V3, inV c = true → nxF n v (C.drop (j + 1)) c = nxt C n v → Nx (.next (⟨((j + 1 : Nat) : Int), c.x, c.y, c.z⟩ : o2)) (fun t => t = 1 ∧ ∃ j', (⟨(j : Int), b.x, b.y, b.z⟩ : o2) = ⟨j', (nxt C n v).x, (nxt C n v).y, (nxt C n v).z⟩)
    (λs=>∃c':V3,s=(⟨((j+1:Nat):Int),c'.x,c'.y,c'.z⟩:o2)/\(inV c'=true/\nxF n v (C.drop (j+1)) c'=nxt C n v)):=λc hc he=>.nx ⟨c,rfl,hc,he⟩
  cases h1:eqV (gL tV C j) v with
  |true =>
   rw[h1] at hi;exact take b hb (by simpa using hi)
  |false =>
   rw[h1] at hi;cases h2:eqV b v with
   |true =>
    rw[h2] at hi;exact take _ hw (by simpa using hi)
   |false =>
    rw[h2] at hi;by_cases h3:orp n v b (gL tV C j)<0
    ·rw[decide_eq_true h3] at hi ⊢;exact take _ hw (by simpa using hi)
    ·rw[decide_eq_false h3] at hi ⊢;exact take b hb (by simpa using hi)
 ·obtain⟨hb,hi⟩:=hi;rw[List.drop_eq_nil_of_le hj] at hi;have hi:b=nxt C n v:=hi;refine⟨1,?_,rfl,(j:Int),by rw[hi]⟩
  show A1 Stp.next Stp.exit Stp.fail _ _=_;simp only[A1];rw[bfD (u9 (by omega))]
theorem Td2{v:V3}(hv:inV v=true):W4 ⟨n.x,n.y,n.z,C.length,g,v.x,v.y,v.z⟩=⟨1,(nxt C n v).x,(nxt C n v).y,(nxt C n v).z⟩:=by
 obtain⟨j,h⟩:=Dd5 hn hg hC hl hv;unfold W4 N7;simp only[h];rfl
end
theorem wc7(f:Nat->Int)(n:Nat):sig (List.range (n+1)) f=sig (List.range n) f+f n:=by
 rw[List.range_succ,yb5,m9,Pa8,Qks]
theorem wc8{α:Type}{f:α->Int}{B:Nat}:∀{l:List α},(∀x∈l,Sm B (f x))->Sm ((l.length*B:Nat):Int) (sig l f)
 |[],_=>by rw[Pa8];exact⟨by simp,by simp⟩
 |x::l,h=>by
  obtain⟨h1,h2⟩:=h x (by simp)
  obtain⟨k1,k2⟩:=wc8 (l:=l) λy hy=>h y (by simp[hy])
  rw[m9,List.length_cons,Nat.succ_mul]
  constructor<;>omega
section
variable{X C:List V3}{n:V3}{k:Int}(h:Rim X C n k){g:Nat->List b7}(hn:Sm3 4608 n)(hg:Td1 C g)(hC:∀c∈C,inV c=true)(hl:C.length<=48)
include h hn hg hC hl
theorem Td3 {a : V3} (ha : a ∈ C) {s0 : Int} (hs : Sm 100000000000000000 s0) :
  ∃s,lp (la3 ⟨n.x,n.y,n.z,C.length,g,((C.length-2:Nat):Int),a.x,a.y,a.z⟩) ⟨0,s0,(nxt C n a).x,(nxt C n a).y,(nxt C n a).z⟩=(1,s)/\s.d9=s0+AR C n a:=by
 rw[<- h.fan ha];have hterm:∀i,Sm 63700992 (D3 a (itr C n a (i+1)) (itr C n a (i+2))):=λi=>(Td0 (hC a ha) (hC _ (h.it_mem ha _)) (hC _ (h.it_mem ha _))).2
 suffices key:∃t s,lp (la3 ⟨n.x,n.y,n.z,C.length,g,((C.length-2:Nat):Int),a.x,a.y,a.z⟩) ⟨0,s0,(nxt C n a).x,(nxt C n a).y,(nxt C n a).z⟩=(t,s)/\(t=1/\s.d9=s0+sig (List.range (C.length-2)) (λi=>D3 a (itr C n a (i+1)) (itr C n a (i+2)))) by
  obtain⟨t,s,h,rfl,h2⟩:=key;exact⟨s,h,h2⟩
 refine R6 (step:=la3 ⟨n.x,n.y,n.z,C.length,g,((C.length-2:Nat):Int),a.x,a.y,a.z⟩) (mk:=λj (q:Int×V3)=>(⟨(j:Int),q.1,q.2.x,q.2.y,q.2.z⟩:S9)) (C.length-2) (λj q=>j<=C.length-2/\q.1=s0+sig (List.range j) (λi=>D3 a (itr C n a (i+1)) (itr C n a (i+2)))/\q.2=itr C n a (j+1)) (λt s=>t=1/\s.d9=s0+sig (List.range (C.length-2)) (λi=>D3 a (itr C n a (i+1)) (itr C n a (i+2)))) (by omega)
  (λj q hj hi=>?_) (λj q hj hi=>?_) 0 (s0,nxt C n a) ⟨Qkt _,by rw[List.range_zero,Pa8,Qks],rfl⟩
 ·obtain⟨s,v⟩:=q;obtain⟨hj',e1,e2⟩:=hi
  simp only at e1 e2
  subst e1 e2;have hN:=C0 hj (show C.length-2<=4611686018427387904 by omega)
  have hp:=Td2 hn hg hC (by omega) (hC _ (h.it_mem ha (j+1)))
  obtain⟨hd,hdb⟩:=Td0 (hC a ha) (hC _ (h.it_mem ha (j+1))) (hC _ (h.it_mem ha (j+2)));obtain⟨b1,b2⟩:=wc8 (l:=List.range j) (B:=63700992) λi _=>hterm i
  rw[Qkai] at b1 b2;have hsum:W (s0+sig (List.range j) (λi=>D3 a (itr C n a (i+1)) (itr C n a (i+2)))+D3 a (itr C n a (j+1)) (itr C n a (j+2)))=s0+sig (List.range (j+1)) (λi=>D3 a (itr C n a (i+1)) (itr C n a (i+2))):=by
   rw[wc7];obtain⟨d1,d2⟩:=hdb;obtain⟨c1,c2⟩:=hs;rw[aa0 (by omega) (by omega)]
   omega
  show Nx (Q7 Stp.next Stp.exit Stp.fail _ _) _ _;simp only[Q7,hp,hN];rw[btD (o5 hj)];rw[show (⟨a.x,a.y,a.z⟩:V3)=a from rfl,show (⟨(itr C n a (j+1)).x,(itr C n a (j+1)).y,(itr C n a (j+1)).z⟩:V3)=itr C n a (j+1) from rfl,
   show (⟨(nxt C n (itr C n a (j+1))).x,(nxt C n (itr C n a (j+1))).y,(nxt C n (itr C n a (j+1))).z⟩:V3)=itr C n a (j+2) from rfl,hd,hsum]
  exact .nx ⟨(s0+sig (List.range (j+1)) (λi=>D3 a (itr C n a (i+1)) (itr C n a (i+2))),itr C n a (j+2)),rfl,by omega,rfl,rfl⟩
 ·obtain⟨s,v⟩:=q;obtain⟨hj',e1,e2⟩:=hi
  simp only at e1 e2
  have e:j=C.length-2:=by omega
  subst e;refine⟨1,?_,rfl,e1⟩;show Q7 Stp.next Stp.exit Stp.fail _ _=_;simp only[Q7];rw[bfD (u9 (Qkp _))]
theorem Ce1{a:V3}(ha:a∈C){s0:Int}(hs:Sm 100000000000000000 s0):Pa7 ⟨a.x,a.y,a.z,(C.length:Int),n.x,n.y,n.z,C.length,g,s0⟩=⟨1,s0+AR C n a⟩:=by
 obtain⟨s,h1,h2⟩:=Td3 h hn hg hC hl ha hs;have hp:=Td2 hn hg hC (by omega) (hC _ ha)
 have hW:W ((C.length:Int)-2)=((C.length-2:Nat):Int):=by
  have:=h.two
  rw[aa0 (by omega) (by omega)];omega
 unfold Pa7 ta0;simp only[hp,hW,h1,<- h2];rfl
end
theorem Td4{p:Pln}{v:V3}(hp:okp p=true)(hv:inV v=true):(Q5 p v==0)=decide (dot p.n v=p.b):=by
 unfold Q5;rw[hp,hv];simp only[Bool.and_self,if_true];by_cases h1:dot p.n v-p.b<0
 ·rw[if_pos h1,decide_eq_false (by omega)];rfl
 ·rw[if_neg h1];by_cases h2:dot p.n v-p.b>0
  ·rw[if_pos h2,decide_eq_false (by omega)];rfl
  ·rw[if_neg h2,decide_eq_true (by omega)];rfl
theorem Dd6 (P : N4) (p : Pln) (X : List V3) (h1 : P.xa9 = X) (h2 : P.od6 = (X.length : Int)) (h3 : P.E3 = p.n.x ∧ P.E4 = p.n.y ∧ P.E5 = p.n.z ∧ P.Pa9 = p.b) (hp : okp p = true) (hX : ∀ v ∈ X, inV v = true) (hl : X.length ≤ 1000000) :
  ∃j,lp (la4 P) ⟨0,0,0,[]⟩=(phV (onF p X)+1,⟨phV (onF p X),j,(onF p X).length,bL tV (onF p X)⟩):=by
 suffices key:∃t s,lp (la4 P) ⟨0,0,0,[]⟩=(t,s)/\(t=phV (onF p X)+1/\∃j,s=⟨phV (onF p X),j,(onF p X).length,bL tV (onF p X)⟩) by
  obtain⟨t,s,h,rfl,j,rfl⟩:=key;exact⟨j,h⟩
 refine R6 (step:=la4 P) (mk:=λj (o:List V3)=>(⟨phV o,(j:Int),o.length,bL tV o⟩:o9)) X.length (λj o=>j<=X.length/\o=onF p (X.take j)) (λt s=>t=phV (onF p X)+1/\∃j,s=⟨phV (onF p X),j,(onF p X).length,bL tV (onF p X)⟩) (by omega)
  (λj o hj hi=>?_) (λj o hj hi=>?_) 0 [] ⟨Qkt _,by simp[onF]⟩
 ·obtain⟨_,hi⟩:=hi;have hN:=C0 hj (show X.length<=4611686018427387904 by omega)
  have hv:=hX _ (Ba8 tV hj);have hlen:o.length<=1000000:=by
   rw[hi];have a1:=Qko (λv=>decide (dot p.n v=p.b)) (X.take j)
   have a2:=Qkae j X;unfold onF;omega
  have hT:onF p (X.take (j+1))=if dot p.n (gL tV X j)=p.b then o++[gL tV X j] else o:=by
   rw[Oa8 tV hj,hi];unfold onF;rw[List.filter_append];by_cases hc:dot p.n (gL tV X j)=p.b
   ·rw[if_pos hc,Qkaa,if_pos (decide_eq_true hc)];rfl
   ·rw[if_neg hc,Qkaa,if_neg (by rw[decide_eq_true_eq];exact hc),List.filter_nil,Qkv]
  have hside:(C7 ⟨⟨P.E3,P.E4,P.E5⟩,P.Pa9⟩ (gL tV X j)==0)=decide (dot p.n (gL tV X j)=p.b):=by
   rw[h3.1,h3.2.1,h3.2.2.1,h3.2.2.2];show (C7 p (gL tV X j)==0)=_;rw[kb9,Td4 hp hv]
  clear hi
  cases o with
  |nil =>
   show Nx (Q8 Stp.next Stp.exit Stp.fail _ _) _ _;simp only[Q8,Int.toNat_natCast,h1,h2,hside,Oa9,hN,i6 hj];rw[btD (o5 hj)];by_cases hc:dot p.n (gL tV X j)=p.b
   ·rw[if_pos hc] at hT;rw[decide_eq_true hc];exact Nx.nx (s:=(⟨1,((j+1:Nat):Int),1,bL tV ([]++[gL tV X j])⟩:o9)) (N:=λs=>∃o',s=(⟨phV o',((j+1:Nat):Int),o'.length,bL tV o'⟩:o9)/\(j+1<=X.length/\o'=onF p (X.take (j+1)))) ⟨[]++[gL tV X j],rfl,by omega,hT.symm⟩
   ·rw[if_neg hc] at hT;rw[decide_eq_false hc];exact Nx.nx (s:=(⟨0,((j+1:Nat):Int),0,[]⟩:o9)) ⟨[],rfl,by omega,hT.symm⟩
  |cons q o =>
   have rr:(Nat.beq (q::o).length (len (bL tV (q::o)))&&Nat.ble (((q::o).length+1)*24) room)=true:=ad8 rfl (by omega)
   show Nx (Q9 Stp.next Stp.exit Stp.fail _ _) _ _;simp only[Q9,Int.toNat_natCast,h1,h2,hside,Oa9,hN,i6 hj,rr,Ie9];rw[btD (o5 hj)];by_cases hc:dot p.n (gL tV X j)=p.b
   ·rw[if_pos hc] at hT;rw[decide_eq_true hc];exact Nx.nx (s:=(⟨1,((j+1:Nat):Int),(q::o).length+1,bL tV ((q::o)++[gL tV X j])⟩:o9)) ⟨(q::o)++[gL tV X j],by rw[kc6,List.length_append];rfl,by omega,hT.symm⟩
   ·rw[if_neg hc] at hT;rw[decide_eq_false hc];exact Nx.nx (s:=(⟨1,((j+1:Nat):Int),(q::o).length,bL tV (q::o)⟩:o9)) ⟨q::o,rfl,by omega,hT.symm⟩
 ·obtain⟨h4,hi⟩:=hi;have e:j=X.length:=by omega
  subst e;rw[Qkab] at hi;rw[<- hi];cases o with
  |nil =>
   refine⟨1,?_,rfl,_,rfl⟩;show Q8 Stp.next Stp.exit Stp.fail _ _=_;simp only[Q8,h2];rw[bfD (u9 (Qkp _))]
  |cons q o =>
   refine⟨2,?_,rfl,_,rfl⟩;show Q9 Stp.next Stp.exit Stp.fail _ _=_;simp only[Q9,h2];rw[bfD (u9 (Qkp _))]
theorem ud6{l:List V3}(hl:l.all inV=true)(h4:Sol l):Pol (na2 (F0 l) l):=by
 refine⟨ud1 hl h4,ge9 hl h4,(Hc3 l).filter _,λv hv=>?_⟩
 obtain⟨m,hm⟩:=(Rb4 hl h4 (Ca8 hl h4 hv)).1 hv;exact⟨m,λw hw hne=>hm w (Ca8 hl h4 hw) hne⟩
theorem ud7{l:List V3}:(na2 (F0 l) l).length<=l.length:=Qkak (Qko _ _) (Qc0 l)
noncomputable def V6l(X:List V3):Int:=sig (F0 X) λp=>AR (onF p X) p.n (ptF p X)
theorem Pol.v6l{X:List V3}(hX:Pol X)(o:V3):V6 X o=V6l X:=hX.from' o
section
variable{X:List V3}(hX:Pol X)(h48:X.length<=48)
include hX h48
theorem Pol.ar_bd{p:Pln}(hp:Ca2 X p):Sm 3057647616 (AR (onF p X) p.n (ptF p X)):=by
 have hR:=hX.rim hp;have hi:=Qkd.1 hX.iv;have hC:∀c∈onF p X,inV c=true:=λc hc=>hi c (G9.1 hc).1
 have hpt:=hX.pt hp;have hb:=wc8 (l:=onF p X) (B:=63700992) (f:=λa=>dot (c7 a (nxt (onF p X) p.n a)) (ptF p X)) λa ha=>(Td0 (hC a ha) (hC _ (hR.nx_mem ha)) (hC _ hpt)).2
 have hlen:(onF p X).length<=48:=Qkak (Qko _ _) h48
 have:(onF p X).length*63700992<=48*63700992:=Nat.mul_le_mul_right _ hlen
 exact hb.mono (by omega)
theorem Td5:∃s,lp (la5 ⟨((F0 X).length:Int)⟩) ⟨X,F0 X,0,0⟩=(1,s)/\s.d9=V6l X:=by
 have hF:(F0 X).length<=1000000:=hb8 h48 hX.iv;have hi:=Qkd.1 hX.iv
 suffices key:∃t s,lp (la5 ⟨((F0 X).length:Int)⟩) ⟨X,F0 X,0,0⟩=(t,s)/\(t=1/\s.d9=V6l X) by
  obtain⟨t,s,h,rfl,h2⟩:=key;exact⟨s,h,h2⟩
 refine R6 (step:=la5 ⟨((F0 X).length:Int)⟩) (mk:=λj (q:Int)=>(⟨X,F0 X,(j:Int),q⟩:J7)) (F0 X).length (λj q=>j<=(F0 X).length/\q=sig ((F0 X).take j) λp=>AR (onF p X) p.n (ptF p X)) (λt s=>t=1/\s.d9=V6l X) (by omega)
  (λj q hj hq=>?_) (λj q hj hq=>?_) 0 0 ⟨Qkt _,by simp[sig]⟩
 ·obtain⟨hj',rfl⟩:=hq;have hN:=C0 hj (show (F0 X).length<=4611686018427387904 by omega)
  have hpm:gL tP (F0 X) j∈F0 X:=Ba8 tP hj;have hp:=hX.mem.1 hpm;have hR:=hX.rim hp;have hC:∀c∈onF (gL tP (F0 X) j) X,inV c=true:=λc hc=>hi c (G9.1 hc).1
  have hlen:=hX.lens hp;have hl48:(onF (gL tP (F0 X) j) X).length<=48:=Qkak (Qko _ _) h48;have bp:=Hb8 hp.ok;have np:Sm3 4608 (gL tP (F0 X) j).n:=⟨⟨bp.x1,bp.x2⟩,⟨bp.y1,bp.y2⟩,bp.z1,bp.z2⟩;have hT:(F0 X).take (j+1)=(F0 X).take j++[gL tP (F0 X) j]:=Oa8 tP hj;have hbs:=wc8 (l:=(F0 X).take j) (B:=3057647616) (f:=λp=>AR (onF p X) p.n (ptF p X)) λp hp=>hX.ar_bd h48 (hX.mem.1 (List.mem_of_mem_take hp))
  have hlt:((F0 X).take j).length*3057647616<=1000000*3057647616:=Nat.mul_le_mul_right _ (by have:=Qkae j (F0 X);omega)
  have hsm:Sm 100000000000000000 (sig ((F0 X).take j) λp=>AR (onF p X) p.n (ptF p X)):=hbs.mono (by omega)
  have hpt:ptF (gL tP (F0 X) j) X=gL tV (onF (gL tP (F0 X) j) X) 0:=by
   unfold ptF;cases onF (gL tP (F0 X) j) X<;>rfl
  have hg:Td1 (onF (gL tP (F0 X) j) X) (λk=>i8 (bL tV (onF (gL tP (F0 X) j) X)) (0+k)):=λk hk=>by
   show i8 _ (0+k)=_;rw[Qkaj,N6 tV hk]
  have h0:0<(onF (gL tP (F0 X) j) X).length:=by omega
  have hfan:=Ce1 hR np hg hC hl48 (hX.pt hp) hsm;rw[hpt] at hfan;have r0:rdR tV (bL tV (onF (gL tP (F0 X) j) X)) 0=gL tV (onF (gL tP (F0 X) j) X) 0:=Yb5 h0;have l0:ldR tV (bL tV (onF (gL tP (F0 X) j) X)) 0=true:=uc8 h0;have hi0:inB 0 (onF (gL tP (F0 X) j) X).length=true:=i6 h0;have hph:phV (onF (gL tP (F0 X) j) X)=1:=by
   cases hO:onF (gL tP (F0 X) j) X with
   |nil=>rw[hO] at h0;simp at h0
   |cons a l=>rfl
  have hgt:decide (((onF (gL tP (F0 X) j) X).length:Int)>2)=true:=decide_eq_true (by omega)
  have hnext:sig ((F0 X).take j) (λp=>AR (onF p X) p.n (ptF p X))+AR (onF (gL tP (F0 X) j) X) (gL tP (F0 X) j).n (gL tV (onF (gL tP (F0 X) j) X) 0)=sig ((F0 X).take (j+1)) λp=>AR (onF p X) p.n (ptF p X):=by
   rw[hT,yb5,m9,Pa8,Qks,hpt]
  show Nx (R2 Stp.next Stp.exit Stp.fail _ _) _ _;obtain⟨jj,hlp⟩:=Dd6 ⟨X,F0 X,((F0 X).length:Int),(j:Int),X,(X.length:Int),sig ((F0 X).take j) (λp=>AR (onF p X) p.n (ptF p X)),(gL tP (F0 X) j).n.x,(gL tP (F0 X) j).n.y,(gL tP (F0 X) j).n.z,(gL tP (F0 X) j).b,(gL tP (F0 X) j).n.x,(gL tP (F0 X) j).n.y,(gL tP (F0 X) j).n.z⟩ (gL tP (F0 X) j) X rfl rfl ⟨rfl,rfl,rfl,rfl⟩ hp.ok hi (by omega)
  rw[hph] at hlp;simp only[R2,Int.toNat_natCast,o6,l9,hlp,r0,l0,hi0,hgt,hfan,hnext,hN,i6 hj];rw[btD (o5 hj)];exact Nx.nx (s:=(⟨X,F0 X,((j+1:Nat):Int),sig ((F0 X).take (j+1)) λp=>AR (onF p X) p.n (ptF p X)⟩:J7)) (N:=λs=>∃q',s=(⟨X,F0 X,((j+1:Nat):Int),q'⟩:J7)/\(j+1<=(F0 X).length/\q'=sig ((F0 X).take (j+1)) λp=>AR (onF p X) p.n (ptF p X))) ⟨_,rfl,by omega,rfl⟩
 ·obtain⟨hj',rfl⟩:=hq;have e:j=(F0 X).length:=by omega
  subst e;refine⟨1,?_,rfl,by rw[Qkab];rfl⟩
  show R2 Stp.next Stp.exit Stp.fail _ _=_;simp only[R2];rw[bfD (u9 (Qkp _))]
end
noncomputable def ba5(l:List V3):Int×Int:=if aa6 l=0 then (V6l (na2 (F0 l) l),0) else (0,aa6 l)
theorem le7(l:List V3)(hl:l.length<=900000):Ca5 l=some (.tup [i (ba5 l).1,i (ba5 l).2],[]):=by
 have c1:∀z:List V3,va2 z=X5 z:=λ_=>rfl
 have c2:∀z:List V3,Ma3 z=hc9 z:=λ_=>rfl
 have g1:Ma4 l=true:=decide_eq_true hl;unfold Ca5 ba5;simp only[o6,ha9,l9,c1,c2,g1];by_cases h:aa6 l=0
 ·obtain⟨h48,hin,hs⟩:=Q6 h;have hX:=ud6 hin hs;have hXl:=ud7 (l:=l);have e1:hc9 l=(na2 (F0 l) l,0):=by unfold hc9;rw[if_pos h]
  have hc:aa6 (na2 (F0 l) l)=0:=hb7 (by omega) hX.iv hX.sol
  have e2:X5 (na2 (F0 l) l)=(F0 (na2 (F0 l) l),0):=by unfold X5;rw[if_pos hc]
  have g2:ma5 (na2 (F0 l) l)=true:=decide_eq_true (by omega)
  obtain⟨s,h1,h2⟩:=Td5 hX (by omega)
  rw[if_pos h];simp only[e1,e2,g2,h1,h2];rfl
 ·have e1:hc9 l=([],aa6 l):=by unfold hc9;rw[if_neg h]
  have hne:(aa6 l != 0)=true:=bne_iff_ne.2 h;rw[if_neg h];simp only[e1,hne];rfl
theorem Ic4(l:List V3)(hl:l.length<=900000):D6 l=ba5 l:=by unfold D6;rw[le7 l hl];rfl
theorem Ic5(l:List V3)(hl:l.length<=900000):B9 l=true:=by unfold B9;rw[le7 l hl];rfl
noncomputable def R7(x:List Int):V3×List V3:=match p7 x with
 |[]=>(⟨0,0,0⟩,[])
 |a::l=>(a,l)
noncomputable def Db8:Sum:=L4 (xa0 tI) λx=>.guard (Na2 x) (.guard (Nat.ble 1 (List.length (p7 x))) (.ret (eL tV ((R7 x).1::(R7 x).2),[])))
theorem Td6{α:Type}{c:Cod α}{k k':α->DT (b7×List c8)}(h:∀a r,(k a).run=some r->(k' a).run=some r){args:List b7}{blks:List c8}{r:b7×List c8}(hr:(L4 c k args blks).run=some r):(L4 c k' args blks).run=some r:=by
 unfold L4 at hr ⊢
 split at hr
 ·rename_i x;cases hd:c.dec x with
  |none=>rw[hd] at hr;cases hr
  |some a =>
   rw[hd] at hr;obtain⟨h1,h2⟩:=DT.run_guard_some (show (DT.guard (c.grd x) (k a)).run=some r from hr)
   show (DT.guard (c.grd x) (k' a)).run=some r;rw[h1];exact h a r h2
 ·cases hr
theorem wc9:i5 prog G 33 Db8:=λargs blks r out he=>zc8 args blks r out (Td6 (λx r hr=>by
 obtain⟨h1,hr⟩:=DT.run_guard_some hr;obtain⟨h2,hr⟩:=DT.run_guard_some hr;rw[h1];have e:(R7 x).1::(R7 x).2=p7 x:=by
  unfold R7;cases h:p7 x with
  |nil=>rw[h] at h2;cases h2
  |cons a l=>rfl
 rw[e] at hr;exact hr) he)
end Go.Ev.Ce
namespace Go.Ev
open Go Go.ChangeShapes Go.RowKit
structure xc0(w w':World):Prop where
 os:w'.os=w.os
 output:w'.output=w.output
 size:w.heap.size<=w'.heap.size
 block:∀k,k<w.heap.size->w'.heap[k]?=w.heap[k]?
theorem xc0.kept{w w':World}(h:xc0 w w')(may:MemPlace->Prop):w.keptBut w' may:=by
 refine⟨h.os,h.output,λi hi=>?_⟩
 rw[h.block i hi];cases w.heap[i]? with
 |none=>rfl
 |some o=>cases o<;>first | exact⟨rfl,rfl,rfl,λ_ _=>rfl⟩ | exact .inr ⟨rfl,rfl⟩ | rfl
theorem xc0.frozen{w w':World}(h:xc0 w w')(b off:Nat)(hb:b<w.heap.size):w'.frozen? ⟨b,off,none⟩=w.frozen? ⟨b,off,none⟩:=by
 simp only[World.frozen?,h.block b hb]
theorem xc0.cell{w w':World}(h:xc0 w w')(b off:Nat)(hb:b<w.heap.size):w'.cell? ⟨b,off,none⟩=w.cell? ⟨b,off,none⟩:=by
 simp only[World.cell?,h.block b hb]
theorem xc0.same{w w':World}(h:xc0 w w')(p:MemPlace)(hp:p.block<w.heap.size):w.sameAt w' p:=by
 cases p with
 |cell b off=>exact h.cell b off hp
 |map b=>exact h.block b hp
theorem vb2{α β:Type}{f:α->Option β}:∀{l:List α} {r:List β},l.mapM f=some r->r.length=l.length/\∀(j:Nat) y,r[j]?=some y->∃x,l[j]?=some x/\f x=some y
 |[],r,h=>by
  have:r=[]:=by simpa using h.symm
  subst this;simp
 |x::l,r,h=>by
  rw[List.mapM_cons] at h;obtain⟨y,h1,h2⟩:=Qkq.1 h;obtain⟨r',h3,h4⟩:=Qkq.1 h2
  have:r=y::r':=by simpa using h4.symm
  subst this;obtain⟨g1,g2⟩:=vb2 h3;refine⟨by simp[g1],λj z hz=>?_⟩
  cases j with
  |zero=>simp at hz;subst hz;exact⟨x,rfl,h1⟩
  |succ j=>simpa using g2 j z (by simpa using hz)
section
variable{D:Type}{enc:TypeId×Value->D}{P:Program}
theorem Db9 {T : TypeId → Prop} (K : Kids P T) (hsz : ∀ {t e : TypeId}, T t → P.underlying t = some (.slice e) → 0 < P.cellsOf e) {w w' : World} {sp : Nat → Bool} (hs : xc0 w w') :
  ∀{ts:List TypeId} {vs:List Value} {ds:List (DataW D)} {ps:List MemPlace},(∀t∈ts,T t)->DataW.TrodAll enc P w 0 (λ_=>true) true ts vs ds ps->(∀p∈ps,p.block<w.heap.size)->(∀p∈ps,sp p.block=true)->DataW.TrodAll enc P w' 0 sp true ts vs ds ps
 |[],[],[],_,_,h,_,_=>h
 |t::ts,v::vs,d::ds,ps,ht,h,hlt,hsp=>by
  obtain⟨p,q,⟨fuel,h1⟩,h2,rfl⟩:=h;refine⟨p,q,⟨fuel,?_⟩,Db9 K hsz hs (λt h=>ht t (by simp[h])) h2 (λx hx=>hlt x (by simp[hx])) (λx hx=>hsp x (by simp[hx])),rfl⟩
  exact DataW.trod_stays K hsz (λh=>by cases h) (ht t (by simp)) h1 (λx hx=>hs.same x (hlt x (by simp at hx ⊢;exact .inl hx))) (λx hx=>hsp x (by simp at hx ⊢;exact .inl hx))
 |[],_::_,_,_,_,h,_,_=>h.elim
 |[],[],_::_,_,_,h,_,_=>h.elim
 |_::_,[],_,_,_,h,_,_=>h.elim
 |_::_,_::_,[],_,_,h,_,_=>h.elim
theorem Td7 {T : TypeId → Prop} (K : Kids P T) (hsz : ∀ {t e : TypeId}, T t → P.underlying t = some (.slice e) → 0 < P.cellsOf e) {f : Func} {s : ChangeSpec} {apart fresh handsOn again : Bool} {W W' : World} {args : Array Value} {ds gs : List (DataW D)} {before : List MemPlace} {tb : TypeId}
  (hT:∀t∈f.params.toList,T t) (hW:DataW.Whole enc P f.params.toList s.vars apart W args.toList ds gs before) (hv:s.vars=[]) (hr:f.resultTypes=#[tb]) (hb:P.underlying tb=some .bool)
  (h1:(s.fn D ds).results=[.lit (.bool true)]) (h2:(s.fn D ds).args=ds) (h3:(s.fn D ds).vars=[]) (hs:xc0 W W') :
  s.post enc P f apart fresh handsOn again W args (.bool true) W':=by
 have hlt:=hW.lt;obtain⟨pa,pv,hA,hV,hps,hz,hn⟩:=id hW;rw[hv] at hV;have hpv:gs=[]/\pv=[]:=by
  cases gs with
  |nil=>exact⟨rfl,hV⟩
  |cons=>exact hV.elim
 obtain⟨rfl,rfl⟩:=hpv;rw[<- Qkv ds] at h1 h3;have h2:(s.fn D (ds++[])).args=ds:=by rw[Qkv];exact h2
 have hpa:before=pa:=by rw[hps];simp
 subst hpa;have hagain:∀sp:Nat->Bool,(∀p∈before,sp p.block=true)->DataW.TrodAll enc P W' 0 sp true f.params.toList args.toList ds before:=λsp h=>Db9 K hsz hs hT hA hlt h
 have hres:∀(b:Nat) (sp:Nat->Bool) (hd:Bool),DataW.TrodAll enc P W' b sp hd f.resultTypes.toList ((Value.bool true).resultList f.resultTypes.size) [.lit (.bool true)] []:=λb sp hd=>by
  rw[hr];exact⟨[],[],⟨1,by simp[DataW.trod,hb,Value.cells,Value.resultList]⟩,rfl,rfl⟩
 have hvars:∀sp:Nat->Bool,DataW.TrodVars enc P W' sp s.vars ([]:List (DataW D)) []:=λsp=>by rw[hv];exact rfl
 have hok:∀(j:Nat) (t:TypeId) (r:Value),f.resultTypes[j]?=some t->((Value.bool true).resultList f.resultTypes.size)[j]?=some r->Value.okWide P W' .any 0 t r:=by
  rw[hr];intro j t r h4 h5;cases j with
  |zero =>
   simp at h4
   subst h4
   have:r=.bool true:=by simpa [Value.resultList] using h5.symm
   subst this;exact okWide_bool_mk hb _
  |succ j=>simp at h4
 have hag:DataW.TrodAll enc P W' 0 (λ_=>true) true (f.resultTypes.toList++f.params.toList) ((Value.bool true).resultList f.resultTypes.size++args.toList) (.lit (.bool true)::ds) before:=by
  have:=hagain (λ_=>true) (λ_ _=>rfl)
  rw[hr];exact⟨[],before,⟨1,by simp[DataW.trod,hb,Value.cells,Value.resultList]⟩,this,rfl⟩
 refine⟨ds,[],before,[],before,[],hW,?_,?_,?_,hs.kept _,λ_=>?_⟩
 ·rw[h1];exact hres _ _ _
 ·rw[h2];exact hagain _ λp hp=>by simpa using hlt p hp
 ·rw[h3];exact hvars _
 ·refine⟨hok,.lit (.bool true)::ds,[],before,⟨before,[],hag,hvars _,by simp,?_,?_⟩,?_⟩
  ·intro b off hp;rw[hs.frozen b off (hlt _ hp)];exact hz b off (by simpa using hp)
  ·intro ha;simpa using hn ha
  ·intro p hp _;exact hp
variable{w:World}{base:Nat}{spare:Nat->Bool}{held:Bool}
def ed3(w:World):Fz:=λb o=>(w.cell? ⟨b,o,none⟩).isSome
theorem ue9 {fuel : Nat} {t : TypeId} {k : IntKind} {cs : List Value} {x : DataW D × List MemPlace} (ht : P.underlying t = some (.int k)) (h : DataW.trod enc P w base spare held fuel t cs = some x) :
  ∃n,cs=[.int k n]/\(Lit.int k n).wf=true/\x.1=.lit (.int k n):=by
 cases fuel with
 |zero=>cases h
 |succ fuel =>
  match cs,h with
  |[],h=>simp[DataW.trod,ht] at h
  |[v],h =>
   cases v with
   |int k' n =>
    simp only[DataW.trod,ht] at h
    split at h
    ·rename_i hk;obtain⟨rfl,hw⟩:=hk;injection h with h;subst h
     exact⟨n,rfl,hw,rfl⟩
    ·cases h
   |_=>simp[DataW.trod,ht] at h
  |a::b::r,h=>simp[DataW.trod,ht] at h
theorem he6 {fuel : Nat} {t : TypeId} {cs : List Value} {x : DataW D × List MemPlace} (ht : P.underlying t = some .bool) (h : DataW.trod enc P w base spare held fuel t cs = some x) :
  ∃n,cs=[.bool n]/\x.1=.lit (.bool n):=by
 cases fuel with
 |zero=>cases h
 |succ fuel =>
  match cs,h with
  |[],h=>simp[DataW.trod,ht] at h
  |[v],h =>
   cases v with
   |bool n =>
    simp only[DataW.trod,ht] at h;injection h with h;subst h
    exact⟨n,rfl,rfl⟩
   |_=>simp[DataW.trod,ht] at h
  |a::b::r,h=>simp[DataW.trod,ht] at h
theorem Td8 {fuel : Nat} {t e : TypeId} {n : Nat} {cs : List Value} {x : DataW D × List MemPlace} (ht : P.underlying t = some (.array n e)) (h : DataW.trod enc P w base spare held fuel t cs = some x) :
  cs.length=P.cellsOf t/\∃(fuel':Nat) (xs:List (DataW D×List MemPlace)),xs.length=n/\x.1=.agg (xs.map (·.1))/\∀(j:Nat) y,xs[j]?=some y->DataW.trod enc P w base spare held fuel' e ((cs.drop (j*P.cellsOf e)).take (P.cellsOf e))=some y:=by
 cases fuel with
 |zero=>cases h
 |succ fuel =>
  unfold DataW.trod at h;rw[ht] at h
  simp only at h
  split at h
  ·rename_i hl;obtain⟨xs,h1,h2⟩:=Qkal.1 h;have hx:=vb2 h1;exact⟨hl,fuel,xs,by simpa using hx.1,by rw[<- h2],λj y hy=>by
    obtain⟨a,ha,hb⟩:=hx.2 j y hy
    have:j<n:=by
     have:=(List.getElem?_eq_some_iff.1 hy).1
     rw[hx.1] at this;simpa using this
    rw[Qkaf this] at ha;injection ha with ha;subst ha;exact hb⟩
  ·cases h
theorem Dd7 {fuel : Nat} {t : TypeId} {fs : Array Field} {cs : List Value} {x : DataW D × List MemPlace} (ht : P.underlying t = some (.struct fs)) (h : DataW.trod enc P w base spare held fuel t cs = some x) :
  cs.length=P.cellsOf t/\∃(fuel':Nat) (xs:List (DataW D×List MemPlace)),xs.length=fs.size/\x.1=.agg (xs.map (·.1))/\∀(j:Nat) f,fs[j]?=some f->∃y,xs[j]?=some y/\DataW.trod enc P w base spare held fuel' f.type ((cs.drop f.offset).take (P.cellsOf f.type))=some y:=by
 cases fuel with
 |zero=>cases h
 |succ fuel =>
  unfold DataW.trod at h;rw[ht] at h
  simp only at h
  split at h
  ·rename_i hl;obtain⟨xs,h1,h2⟩:=Qkal.1 h;have hx:=vb2 h1;refine⟨hl,fuel,xs,by simpa using hx.1,by rw[<- h2],λj f hf=>?_⟩
   have hj:j<xs.length:=by
    rw[hx.1];simpa using (Array.getElem?_eq_some_iff.1 hf).1
   obtain⟨a,ha,hb⟩:=hx.2 j _ (Qkm hj)
   have:a=f:=by
    have:fs.toList[j]?=some f:=by simpa using hf
    exact Option.some.inj (ha.symm.trans this)
   subst this;exact⟨_,Qkm hj,hb⟩
  ·cases h
theorem Td9 {fuel : Nat} {t e : TypeId} {cs : List Value} {x : DataW D × List MemPlace} (ht : P.underlying t = some (.slice e)) (h : DataW.trod enc P w base spare held fuel t cs = some x) :
  cs=[.slice none 0 0]\/∃(a:Addr) (n cap fuel':Nat),cs=[.slice (some a) n cap]/\n<=cap/\cap<=maxLen/\∀j,j<n->∃row y,w.cells? base (a.add (j*P.cellsOf e)) (P.cellsOf e)=some row/\DataW.trod enc P w base spare held fuel' e row=some y:=by
 cases fuel with
 |zero=>cases h
 |succ fuel =>
  match cs,h with
  |[],h=>simp[DataW.trod,ht] at h
  |[v],h =>
   cases v with
   |slice a len cap =>
    cases a with
    |none =>
     simp only[DataW.trod,ht] at h
     split at h<;>first | (rename_i e1;cases e1;done) | skip
     all_goals first | exact .inl rfl | (simp_all;done) | skip
    |some a =>
     refine .inr ?_;simp only[DataW.trod,ht] at h
     split at h
     ·rename_i hc;obtain⟨elems,h1,h2⟩:=Qkq.1 h;have hx:=vb2 h1;refine⟨a,len,cap,fuel,rfl,hc.2.1,hc.2.2,λj hj=>?_⟩
      have hj':j<elems.length:=by rw[hx.1];simpa using hj
      obtain⟨i,hi,hb⟩:=hx.2 j _ (Qkm hj');rw[Qkaf hj] at hi;injection hi with hi;subst hi;obtain⟨row,r1,r2⟩:=Qkq.1 hb;exact⟨row,_,r1,r2⟩
     ·cases h
   |_=>simp[DataW.trod,ht] at h
  |a::b::r,h=>simp[DataW.trod,ht] at h
theorem ud8:∀(d:Nat) (t:TypeId) (l:List (Nat×CK)),R9 P d t=some l->∀(fuel:Nat) (cs:List Value) (x:DataW D×List MemPlace),DataW.trod enc P w base spare held fuel t cs=some x->∀p∈l,ra4 cs.toArray p
 |0,_,_,h,_,_,_,_=>by cases h
 |d+1,t,l,h,fuel,cs,x,hx=>by
  have hpart:∀{off n:Nat} {e:TypeId} {l':List (Nat×CK)} {fuel':Nat} {y:DataW D×List MemPlace},pb8 off n (R9 P d e)=some l'->DataW.trod enc P w base spare held fuel' e ((cs.drop off).take n)=some y->∀p∈l',ra4 cs.toArray p:=λ{off n e l' fuel' y} h1 h2 p hp=>by
   obtain⟨l2,g1,g2,rfl⟩:=ya0 h1;obtain⟨q,hq,rfl⟩:=Qkb.1 hp
   have:=ud8 d e l2 g1 fuel' _ y h2 q hq
   have hlt:=g2 q hq;unfold ra4 at this ⊢;simp only[List.getElem?_toArray,List.getElem?_take,hlt,if_true,List.getElem?_drop] at this ⊢;exact this
  have hcat:∀{α:Type} (f:α->Option (List (Nat×CK))) (xs:List α) (l:List (Nat×CK)),ea3 (xs.map f)=some l->∀p∈l,∃a∈xs,∃l',f a=some l'/\p∈l':=λ{α} f xs=>by
   induction xs with
   |nil=>intro l h;simp only[List.map_nil,ea3] at h;injection h with h;subst h;simp
   |cons a xs ih =>
    intro l h p hp;simp only[List.map_cons,ea3] at h;cases h1:f a with
    |none=>simp[h1] at h
    |some l1 =>
    cases h2:ea3 (xs.map f) with
    |none=>simp[h1,h2] at h
    |some l2 =>
    simp only[h1,h2] at h;injection h with h;subst h
    rcases Qkl.1 hp with hp|hp
    ·exact⟨a,by simp,l1,h1,hp⟩
    ·obtain⟨b,hb,r⟩:=ih l2 h2 p hp;exact⟨b,by simp[hb],r⟩
  unfold R9 at h;cases hu:P.underlying t with
  |none=>simp[hu] at h
  |some u =>
  cases u with
  |int k =>
   simp only[hu] at h;injection h with h;subst h
   obtain⟨n,rfl,_,_⟩:=ue9 hu hx;intro p hp;simp at hp;subst hp;exact⟨n,rfl⟩
  |bool =>
   simp only[hu] at h;injection h with h;subst h
   obtain⟨n,rfl,_⟩:=he6 hu hx;intro p hp;simp at hp;subst hp;exact⟨n,rfl⟩
  |struct fs =>
   simp only[hu] at h
   split at h
   ·cases h
   obtain⟨_,fuel',xs,_,_,hxs⟩:=Dd7 hu hx;intro p hp;obtain⟨f,hf,l',h1,h2⟩:=hcat _ _ _ h p hp
   split at h1
   ·cases h1
   obtain⟨j,hj⟩:=List.getElem?_of_mem hf;obtain⟨y,_,hy⟩:=hxs j f (by simpa using hj)
   have hc:P.cellsOf f.type=szT P f.type:=by
    unfold Program.cellsOf szT;cases P.info? f.type<;>rfl
   rw[hc] at hy;exact hpart h1 hy p h2
  |array n e =>
   simp only[hu] at h
   split at h
   case isFalse=>cases h
   obtain⟨_,fuel',xs,hn,_,hxs⟩:=Td8 hu hx;intro p hp;obtain⟨j,hj,l',h1,h2⟩:=hcat _ _ _ h p hp;have hj':j<xs.length:=by rw[hn];simpa using hj
   have hy:=hxs j _ (Qkm hj');have hc:P.cellsOf e=szT P e:=by
    unfold Program.cellsOf szT;cases P.info? e<;>rfl
   rw[hc] at hy;exact hpart h1 hy p h2
  |_=>simp[hu] at h
def ha5(k:IntKind)(es:Nat)(g:Nat->Int):List b7:=(List.range es).map λc=>.v (.int k (g c))
def xa1(k:IntKind)(es:Nat):List (Nat×CK):=(List.range es).map λc=>(c,.int k)
theorem ud9 {d : Nat} {t : TypeId} {k : IntKind} {es : Nat} (hf : R9 P d t = some (xa1 k es)) {fuel : Nat} {cs : List Value} {x : DataW D × List MemPlace} (hx : DataW.trod enc P w base spare held fuel t cs = some x) (hl : cs.length = es) :
  ∃g:Nat->Int,∀c,c<es->cs[c]?=some (.int k (g c)):=by
 have h:=ud8 d t _ hf fuel cs x hx;have h':∀c,∃n:Int,c<es->cs[c]?=some (.int k n):=λc=>by
  by_cases hc:c<es
  ·have:=h (c,.int k) (Qkb.2 ⟨c,by simpa using hc,rfl⟩)
   obtain⟨n,hn⟩:=this;exact⟨n,λ_=>by simpa using hn⟩
  ·exact⟨0,λh=>absurd h hc⟩
 exact⟨λc=>Classical.choose (h' c),λc hc=>Classical.choose_spec (h' c) hc⟩
theorem Ud0{F:Fz}{w:World}(k:IntKind)(n:Int):U9 F w (.v (.int k n)) (.int k n):=.v _ rfl
theorem xc1{k:IntKind}{es:Nat}{g:Nat->Int}{c:Nat}{x:b7}(h:(ha5 k es g)[c]?=some x):c<es/\x=.v (.int k (g c)):=by
 unfold ha5 at h;obtain⟨h1,h2⟩:=za9 h;exact⟨h1,h2.symm⟩
theorem Bc7 {t e : TypeId} {k : IntKind} {es d : Nat} (ht : P.underlying t = some (.slice e)) (hf : R9 P d e = some (xa1 k es)) (hes : P.cellsOf e = es) (h0 : 0 < es) {fuel : Nat} {cs : List Value} {x : DataW D × List MemPlace} (hx : DataW.trod enc P w 0 spare held fuel t cs = some x) :
  ∃(v:Value) (n:Nat) (g:Nat->Nat->Int),cs=[v]/\n<=maxLen/\U9 (ed3 w) w (.tree es n λj=>ha5 k es (g j)) v:=by
 rcases Td9 ht hx with rfl|⟨a,n,cap,fuel',rfl,hn,hc,hel⟩
 ·exact⟨_,0,λ_ _=>0,rfl,Qkt _,.nil _ _⟩
 ·rw[hes] at hel;have hcell:∀j,j<n->∃g:Nat->Int,∀c,c<es->w.cell? ((a.add (j*es)).add c)=some (.int k (g c)):=λj hj=>by
   obtain⟨row,y,h1,h2⟩:=hel j hj;unfold World.cells? at h1
   split at h1
   ·obtain⟨l1,l2⟩:=vb2 h1;have hl:row.length=es:=by simpa using l1
    obtain⟨g,hg⟩:=ud9 hf h2 hl;refine⟨g,λc hc=>?_⟩
    obtain⟨i,hi,hi2⟩:=l2 c _ (hg c hc);rw[Qkaf hc] at hi;injection hi with hi;subst hi;exact hi2
   ·cases h1
  have hg:∀j,∃g:Nat->Int,j<n->∀c,c<es->w.cell? ((a.add (j*es)).add c)=some (.int k (g c)):=λj=>by
   by_cases hj:j<n
   ·obtain⟨g,hg⟩:=hcell j hj;exact⟨g,λ_=>hg⟩
   ·exact⟨λ_=>0,λh=>absurd h hj⟩
  obtain⟨g,hg⟩:=Classical.axiomOfChoice hg;have hspot:0<n->a.spot=none:=λhn=>by
   have:=hg 0 hn 0 h0
   simpa [Addr.add] using World.cell?_spot this
  have hw:∀j c,j<n->c<es->w.cell? ⟨a.block,a.off+(j*es+c),none⟩=some (.int k (g j c)):=λj c hj hc=>by
   have:=hg j hj c hc
   rw[S1 (hspot (by omega)),S1 rfl] at this
   simpa [Nat.add_assoc] using this
  refine⟨_,n,g,rfl,Qkak hn hc,.tree es n _ a cap (λj c=>.int k (g j c)) hspot hn (λi hi=>by simp[ha5]) (λi c hi hc=>?_) hw λi c hi hc=>?_⟩
  ·unfold ed3;rw[hw i c hi hc];rfl
  ·have:=(xc1 (Qkm hc)).2
   rw[this];exact Ud0 _ _
theorem Dd8(w:World):r9 (λk=>w.heap.size<=k) (λ_=>⟨0,0,0⟩) [] (ed3 w) w :=
 ⟨λid b h=>by simp at h,λid id' b b' h=>by simp at h,λ_ _ h=>h,λ_ h=>h⟩
theorem Dd9 {G : Nat → List Value} {f : FuncId} {S : Sum} (hS : i5 P G f S) {aargs : List b7} {args : List Value} (hrun : ∃ out, (S aargs []).run = some (b true, out)) (hl : aargs.length = args.length)
  (ha:∀(i:Nat) x x',aargs[i]?=some x->args[i]?=some x'->V8 (λ_=>⟨0,0,0⟩) [] (ed3 w) w x x') (hG:∀g (c:Nat) x,(G g)[c]?=some x->x.oneCell'=true/\w.cell? ⟨g,c,none⟩=some x) :
  Calls P f args.toArray w λe w'=>e=.returned (.bool true)/\xc0 w w':=by
 obtain⟨out,hrun⟩:=hrun;obtain⟨_,hc⟩:=hS aargs [] (b true) out hrun (λk=>w.heap.size<=k) (λ_=>⟨0,0,0⟩) (ed3 w) w args (Dd8 w) hl (λi x x' h1 h2=>.val (ha i x x' h1 h2)) (λg c x hx=>by
  obtain⟨h1,h2⟩:=hG g c x hx;exact⟨h1,by unfold ed3;rw[h2];rfl,h2⟩)
 refine hc.mono λe w' ⟨r',he,ρ',F',hA,hH,hW⟩=>?_
 have:=X8 hW
 subst this;exact⟨he,hA.ext.os,hA.ext.output,hA.ext.size,λk hk=>hA.ext.block k hk (by omega)⟩
theorem he7 {ρ : Rho} {H : List c8} {F : Fz} {t : TypeId} {k : IntKind} {es d : Nat} {v : Value} {dd : DataW D} {pp : List MemPlace} {bs : Nat} {r : Reach} (hag : agT P t = true) (hf : R9 P d t = some (xa1 k es)) (hes : P.cellsOf t = es)
  (hok:Value.okWide P w r bs t v) (h:DataW.Trod enc P w base spare held t v dd pp):∃g:Nat->Int,V8 ρ H F w (.agg (ha5 k es g)) v:=by
 have hv:∃cs:Array Value,v=.agg cs/\cs.size=P.cellsOf t:=by
  unfold agT at hag;unfold Value.okWide at hok
  split at hag
  ·rename_i fs hu;rw[hu] at hok;obtain⟨cs,h1,h2,_⟩:=hok;exact⟨cs,h1,h2⟩
  ·rename_i n e hu;rw[hu] at hok;obtain⟨cs,h1,h2,_⟩:=hok;exact⟨cs,h1,h2⟩
  ·cases hag
 obtain⟨cs,rfl,hsz⟩:=hv;obtain⟨fuel,hx⟩:=h;have hx:DataW.trod enc P w base spare held fuel t cs.toList=some (dd,pp):=hx;obtain⟨g,hg⟩:=ud9 hf hx (by simpa [hes] using hsz)
 refine⟨g,.agg _ _ (by simp[ha5,hsz,hes]) λc x x' h1 h2=>?_⟩
 obtain⟨hc,rfl⟩:=xc1 h1
 have:=hg c hc
 have h3:some x'=some (.int k (g c)):=by rw[<- h2];simpa using this
 injection h3 with h3;subst h3;exact .v _
theorem Ed0 {ρ : Rho} {H : List c8} {t e : TypeId} {k : IntKind} {es d : Nat} {v : Value} {dd : DataW D} {pp : List MemPlace} {bs : Nat} {r : Reach} (ht : P.underlying t = some (.slice e)) (hf : R9 P d e = some (xa1 k es)) (hes : P.cellsOf e = es) (h0 : 0 < es)
  (hok:Value.okWide P w r bs t v) (h:DataW.Trod enc P w 0 spare held t v dd pp):∃(n:Nat) (g:Nat->Nat->Int),n<=maxLen/\V8 ρ H (ed3 w) w (.tree es n λj=>ha5 k es (g j)) v:=by
 obtain⟨fuel,hx⟩:=h;obtain⟨v',n,g,h1,h2,h3⟩:=Bc7 ht hf hes h0 hx;have hv:v.cells=#[v]:=by
  unfold Value.okWide at hok;rw[ht] at hok;cases v with
  |agg cs=>exfalso;simp[Cell.okWide,Cell.ok,ht] at hok
  |_=>rfl
 rw[hv] at h1
 have:v=v':=by simpa using h1
 subst this;exact⟨n,g,h2,.cell (.mem h3)⟩
end
end Go.Ev
namespace Go.Ev.L
open Go Go.Ev
theorem Ud1 {α : Type} (t : Ty α) (n : Nat) (g : Nat → Nat → Int) (f : (Nat → Int) → α) (h : ∀ j, ha5 .i64 t.es (g j) = t.row (f (g j))) :
  ∃l,(xa0 t).dec (.tree t.es n λj=>ha5 .i64 t.es (g j))=some l/\(xa0 t).grd (.tree t.es n λj=>ha5 .i64 t.es (g j))=true:=by
 refine⟨lsL t n λj=>ha5 .i64 t.es (g j),?_,bb1 t (f:=λk=>f (g k)) λk _=>h k⟩
 show Bool.rec (motive:=λ_=>Option (List α)) none (some (lsL t n λj=>ha5 .i64 t.es (g j))) (Nat.beq t.es t.es)=_
 rw[Nat.beq_refl]
def Rdg{α:Type}(c:Cod α)(x:b7)(a:α):Prop:=c.dec x=some a/\c.grd x=true
theorem Ud2{α:Type}(t:Ty α)(n:Nat)(g:Nat->Nat->Int)(f:(Nat->Int)->α)(h:∀j,ha5 .i64 t.es (g j)=t.row (f (g j))):∃l,Rdg (xa0 t) (.tree t.es n λj=>ha5 .i64 t.es (g j)) l:=Ud1 t n g f h
theorem Ud3(n:Nat)(g:Nat->Nat->Int):∃l,Rdg (xa0 tI) (.tree 1 n λj=>ha5 .i64 1 (g j)) l:=Ud2 tI n g (λg=>g 0) λ_=>rfl
section
variable{α β γ δ ε:Type}{c:Cod α}{d:Cod β}{e:Cod γ}{f:Cod δ}{c5:Cod ε}{x y z w v:b7}{a:α}{b':β}{g:γ}{j:δ}{m:ε}{r:b7×List c8}
theorem Je0{k:α->β->DT (b7×List c8)}(h1:Rdg c x a)(h2:Rdg d y b')(h:(k a b').run=some r):(za1 c d k [x,y] []).run=some r:=by
 unfold za1;simp only[h1.1,h1.2,h2.1,h2.2];exact h
end
theorem ve0{g p:Bool}(hg:g=true)(hp:p=true):(DT.guard g (.ret ((one r1B).enc p,([]:List c8)))).run=some (b true,([]:List c8)):=by subst hg;subst hp;rfl
end Go.Ev.L
namespace Go.Ev.Ce
open Go Go.Ev Go.Ev.L Go.Proofs
structure B3 where
 b0:Int
 b1:Int
 b2:Int
structure B2 where
 d0:Int
 d1:Int
def Ce2:List b7->Bool
 |[.v (.int .u8 _),.v (.int .u8 _)]=>true
 |_=>false
def Je1:List b7->B2
 |[.v (.int .u8 x),.v (.int .u8 y)]=>⟨x,y⟩
 |_=>⟨0,0⟩
noncomputable def tM:Ty B2 where
 es:=2
 row x:=[.v (.int .u8 x.d0),.v (.int .u8 x.d1)]
 rd:=Je1
 ok:=Ce2
 cks:=List.replicate 2 (.int .u8)
 d:=⟨0,0⟩
 h0 _:=rfl
 h1 _:=rfl
 h2 _:=rfl
 h3 r h:=by
  unfold Ce2 at h
  split at h
  ·exact .refl _
  ·cases h
 h4 _:=rfl
 h5 _:=rfl
structure LL where
 u:List Int
 v:List Int
set_option maxRecDepth 100000
noncomputable def Bc8:List (Nat×Sum):=[]
theorem xc2:k8 prog G Bc8:=trivial
noncomputable def Ca9(x:V3)(y:V3):Option (b7×List c8):=(sl (decide (y.x<=x.x)) (some (i 0,[])) (sl (decide (y.y<=x.y)) (some (i 0,[])) (sl (decide (y.z<=x.z)) (some (i 0,[])) (some (i (W ((W ((W (y.x-x.x))*(W (y.y-x.y))))*(W (y.z-x.z)))),[])))))
noncomputable def K5(x:V3)(y:V3):Int:=V1 (one r1I) (Ca9 x y)
noncomputable def R8(x:V3)(y:V3):Bool:=okO (one r1I) (Ca9 x y)
noncomputable def mb0:Sum:=za1 (Z4 tV) (Z4 tV) (λx y=>.guard (R8 x y) (.ret ((one r1I).enc (K5 x y),[])))
theorem Eb0:i5 prog G 15 mb0:=Lb5 (bd b15 xc2) (one r1I) (o:=Ca9) λx y=>A6 (by kernel_rfl)
noncomputable def xc3:List (Nat×Sum):=[(11,Ca6),(25,vc8),(15,mb0)]
theorem ic7:k8 prog G xc3:=⟨Ha8,dd6,Eb0,trivial⟩
noncomputable def va3(x:List V3)(y:V3)(z:V3):Option (b7×List c8):=let t1:=(D6 (rt tV x));let t2:=(lb3 (rt tV x));let t3:=(K5 (⟨(if t2.1.x>y.x then t2.1.x else y.x),(if t2.1.y>y.y then t2.1.y else y.y),(if t2.1.z>y.z then t2.1.z else y.z)⟩:V3) (⟨(if t2.2.1.x<z.x then t2.2.1.x else z.x),(if t2.2.1.y<z.y then t2.2.1.y else z.y),(if t2.2.1.z<z.z then t2.2.1.z else z.z)⟩:V3));(sl (okE tV x) (sl (B9 (rt tV x)) (sl (t1.2 != 0) (some (.tup [i 0,i t1.2],[])) (sl (okE tV x) (sl (lb4 (rt tV x)) (sl (R8 (⟨(if t2.1.x>y.x then t2.1.x else y.x),(if t2.1.y>y.y then t2.1.y else y.y),(if t2.1.z>y.z then t2.1.z else y.z)⟩:V3) (⟨(if t2.2.1.x<z.x then t2.2.1.x else z.x),(if t2.2.1.y<z.y then t2.2.1.y else z.y),(if t2.2.1.z<z.z then t2.2.1.z else z.z)⟩:V3)) (some ((.tup [(i (if (W (6*t3))<t1.1 then (W (6*t3)) else t1.1)),i 0]),[])) none) none) none)) none) none)
noncomputable def Ha9(x:List V3)(y:V3)(z:V3):Int×Int:=V1 (two r1I r1I) (va3 x y z)
noncomputable def Ia0(x:List V3)(y:V3)(z:V3):Bool:=okO (two r1I r1I) (va3 x y z)
noncomputable def Eb1:Sum:=oc2 (xa0 tV) (Z4 tV) (Z4 tV) (λx y z=>.guard (Ia0 x y z) (.ret ((two r1I r1I).enc (Ha9 x y z),[])))
theorem xc4:i5 prog G 13 Eb1:=oe2 (bd b13 ic7) (two r1I r1I) (o:=va3) λx y z=>A6 (by kernel_rfl)
noncomputable def Rc7:List (Nat×Sum):=[]
theorem Bc9:k8 prog G Rc7:=trivial
noncomputable def y5(x:Int)(y:Int)(z:Int):V3:=(⟨x,y,z⟩:V3)
noncomputable def vb3:Sum:=oc2 cI cI cI (λx y z=>.ret ((one r1V).enc (y5 x y z),[]))
theorem Rb5:i5 prog G 17 vb3:=pd7 (bd b17 Bc9) λx y z=>A6 (by kernel_rfl)
noncomputable def ic8:List (Nat×Sum):=[(33,Db8)]
theorem Zb2:k8 prog G ic8:=⟨wc9,trivial⟩
noncomputable def qa9(x:List Int):Option (b7×List c8):=let t1:=(R7 (lsL tI ((if 40<(↑(List.length x):Int) then 40 else (↑(List.length x):Int)).toNat-0) (λk=>(λk=>(tI).row (gL tI x k)) (0+k))));(sl (inB (if 40<(↑(List.length x):Int) then 40 else (↑(List.length x):Int)) ((List.length x)+1)) (sl (okL tI ((if 40<(↑(List.length x):Int) then 40 else (↑(List.length x):Int)).toNat-0) (λk=>(λk=>(tI).row (gL tI x k)) (0+k))) (sl (Na2 (lsL tI ((if 40<(↑(List.length x):Int) then 40 else (↑(List.length x):Int)).toNat-0) (λk=>(λk=>(tI).row (gL tI x k)) (0+k)))) (sl (Nat.ble 1 (List.length (p7 (lsL tI ((if 40<(↑(List.length x):Int) then 40 else (↑(List.length x):Int)).toNat-0) (λk=>(λk=>(tI).row (gL tI x k)) (0+k)))))) (some (eL tV (t1.1::t1.2),[])) none) none) none) none)
noncomputable def Da0(x:List Int):List V3:=V1 (one (r1L tV)) (qa9 x)
noncomputable def Da1(x:List Int):Bool:=okO (one (r1L tV)) (qa9 x)
noncomputable def vb4:Sum:=L4 (xa0 tI) (λx=>.guard (Da1 x) (.ret ((one (r1L tV)).enc (Da0 x),[])))
theorem ic9:i5 prog G 9 vb4:=Ea5 (bd b9 Zb2) (one (r1L tV)) (o:=qa9) λx=>A6 (by kernel_rfl)
noncomputable def Rc8:List (Nat×Sum):=[(11,Ca6)]
theorem Cc0:k8 prog G Rc8:=⟨Ha8,trivial⟩
noncomputable def Ja7(x:List V3)(y:Int):Option (b7×List c8):=let t1:=(D6 (rt tV x));(sl (okE tV x) (sl (B9 (rt tV x)) (sl (t1.2==0) (some (b (t1.1==y),[])) (some (b false,[]))) none) none)
noncomputable def ra0(x:List V3)(y:Int):Bool:=V1 (one r1B) (Ja7 x y)
noncomputable def ra1(x:List V3)(y:Int):Bool:=okO (one r1B) (Ja7 x y)
noncomputable def cc9:Sum:=za1 (xa0 tV) cI (λx y=>.guard (ra1 x y) (.ret ((one r1B).enc (ra0 x y),[])))
theorem Rc9:i5 prog G 21 cc9:=Lb5 (bd b21 Cc0) (one r1B) (o:=Ja7) λx y=>A6 (by kernel_rfl)
noncomputable def Cc1:List (Nat×Sum):=[(13,Eb1)]
theorem xc5:k8 prog G Cc1:=⟨xc4,trivial⟩
noncomputable def Da2(x:List V3)(y:V3)(z:V3)(w:Int):Option (b7×List c8):=let t1:=(Ha9 (rt tV x) y z);(sl (okE tV x) (sl (Ia0 (rt tV x) y z) (sl (t1.2==0) (some (b (t1.1==w),[])) (some (b false,[]))) none) none)
noncomputable def X7(x:List V3)(y:V3)(z:V3)(w:Int):Bool:=V1 (one r1B) (Da2 x y z w)
noncomputable def ja1(x:List V3)(y:V3)(z:V3)(w:Int):Bool:=okO (one r1B) (Da2 x y z w)
noncomputable def Rb6:Sum:=yd2 (xa0 tV) (Z4 tV) (Z4 tV) cI (λx y z w=>.guard (ja1 x y z w) (.ret ((one r1B).enc (X7 x y z w),[])))
theorem Cc2:i5 prog G 26 Rb6:=De4 (bd b26 xc5) (one r1B) (o:=Da2) λx y z w=>A6 (by kernel_rfl)
noncomputable def jc0:List (Nat×Sum):=[(17,vb3),(11,Ca6),(21,cc9),(24,Db4),(15,mb0),(26,Rb6)]
theorem Zb3:k8 prog G jc0:=⟨Rb5,Ha8,Rc9,wc0,Eb0,Cc2,trivial⟩
noncomputable def ra2  : Option (b7×List c8):=let t1:=(y5 0 0 0);let t2:=(y5 5 5 5);let t3:=(y5 2 0 0);let t4:=(y5 0 2 0);let t5:=(y5 0 0 2);let t6:=(y5 1 0 0);let t7:=(y5 0 1 0);let t8:=(y5 1 1 0);let t9:=(D6 [t1,t6,t7,t8]);let t10:=(D6 [(⟨0,0,0⟩:V3),(⟨0,0,0⟩:V3),(⟨0,0,0⟩:V3),(⟨0,0,0⟩:V3),(⟨0,0,0⟩:V3),(⟨0,0,0⟩:V3),(⟨0,0,0⟩:V3),(⟨0,0,0⟩:V3),(⟨0,0,0⟩:V3),(⟨0,0,0⟩:V3),(⟨0,0,0⟩:V3),(⟨0,0,0⟩:V3),(⟨0,0,0⟩:V3),(⟨0,0,0⟩:V3),(⟨0,0,0⟩:V3),(⟨0,0,0⟩:V3),(⟨0,0,0⟩:V3),(⟨0,0,0⟩:V3),(⟨0,0,0⟩:V3),(⟨0,0,0⟩:V3),(⟨0,0,0⟩:V3),(⟨0,0,0⟩:V3),(⟨0,0,0⟩:V3),(⟨0,0,0⟩:V3),(⟨0,0,0⟩:V3),(⟨0,0,0⟩:V3),(⟨0,0,0⟩:V3),(⟨0,0,0⟩:V3),(⟨0,0,0⟩:V3),(⟨0,0,0⟩:V3),(⟨0,0,0⟩:V3),(⟨0,0,0⟩:V3),(⟨0,0,0⟩:V3),(⟨0,0,0⟩:V3),(⟨0,0,0⟩:V3),(⟨0,0,0⟩:V3),(⟨0,0,0⟩:V3),(⟨0,0,0⟩:V3),(⟨0,0,0⟩:V3),(⟨0,0,0⟩:V3),(⟨0,0,0⟩:V3),(⟨0,0,0⟩:V3),(⟨0,0,0⟩:V3),(⟨0,0,0⟩:V3),(⟨0,0,0⟩:V3),(⟨0,0,0⟩:V3),(⟨0,0,0⟩:V3),(⟨0,0,0⟩:V3),(⟨0,0,0⟩:V3)]);let t11:=(ra0 [t1,t3,t4,t5] 8);let t12:=(y5 1 2 3);let t13:=(db6 t1 t12);let t14:=(ra0 (rt tV t13) 36);let t15:=(K5 t1 t12);let t16:=(y5 1 0 3);let t17:=(K5 t1 t16);let t18:=(y5 (-1) (-1) 3);let t19:=(K5 t1 t18);let t20:=(y5 1 1 1);let t21:=(X7 [t1,t3,t4,t5] t1 t20 6);let t22:=(X7 [t1,t3,t4,t5] t1 t2 8);let t23:=(y5 3 0 0);let t24:=(y5 4 4 4);let t25:=(X7 [t1,t3,t4,t5] t23 t24 0);let w0:Option (b7×List c8):=(sl (R8 t1 t12) (sl (t15==6) (sl (R8 t1 t16) (sl (t17==0) (sl (R8 t1 t18) (some (b false,[])) none) (some (b false,[]))) none) (some (b false,[]))) none);(sl (B9 [t1,t6,t7,t8]) (sl (B9 [(⟨0,0,0⟩:V3),(⟨0,0,0⟩:V3),(⟨0,0,0⟩:V3),(⟨0,0,0⟩:V3),(⟨0,0,0⟩:V3),(⟨0,0,0⟩:V3),(⟨0,0,0⟩:V3),(⟨0,0,0⟩:V3),(⟨0,0,0⟩:V3),(⟨0,0,0⟩:V3),(⟨0,0,0⟩:V3),(⟨0,0,0⟩:V3),(⟨0,0,0⟩:V3),(⟨0,0,0⟩:V3),(⟨0,0,0⟩:V3),(⟨0,0,0⟩:V3),(⟨0,0,0⟩:V3),(⟨0,0,0⟩:V3),(⟨0,0,0⟩:V3),(⟨0,0,0⟩:V3),(⟨0,0,0⟩:V3),(⟨0,0,0⟩:V3),(⟨0,0,0⟩:V3),(⟨0,0,0⟩:V3),(⟨0,0,0⟩:V3),(⟨0,0,0⟩:V3),(⟨0,0,0⟩:V3),(⟨0,0,0⟩:V3),(⟨0,0,0⟩:V3),(⟨0,0,0⟩:V3),(⟨0,0,0⟩:V3),(⟨0,0,0⟩:V3),(⟨0,0,0⟩:V3),(⟨0,0,0⟩:V3),(⟨0,0,0⟩:V3),(⟨0,0,0⟩:V3),(⟨0,0,0⟩:V3),(⟨0,0,0⟩:V3),(⟨0,0,0⟩:V3),(⟨0,0,0⟩:V3),(⟨0,0,0⟩:V3),(⟨0,0,0⟩:V3),(⟨0,0,0⟩:V3),(⟨0,0,0⟩:V3),(⟨0,0,0⟩:V3),(⟨0,0,0⟩:V3),(⟨0,0,0⟩:V3),(⟨0,0,0⟩:V3),(⟨0,0,0⟩:V3)]) (sl (ra1 [t1,t3,t4,t5] 8) (sl t11 (sl (db7 t1 t12) (sl (okE tV t13) (sl (ra1 (rt tV t13) 36) (sl t14 (sl (t9.2==11) (sl (R8 t1 t12) (sl (t15==6) (sl (R8 t1 t16) (sl (t17==0) (sl (R8 t1 t18) (sl (t10.2==2) (sl (t19==0) (sl (ja1 [t1,t3,t4,t5] t1 t20 6) (sl t21 (sl (ja1 [t1,t3,t4,t5] t1 t2 8) (sl t22 (sl (ja1 [t1,t3,t4,t5] t23 t24 0) (some (b t25,[])) none) (some (b false,[]))) none) (some (b false,[]))) none) (some (b false,[]))) (some (b false,[]))) none) (sl (t10.2==2) (some (b false,[])) (some (b false,[])))) none) (sl (t10.2==2) (some (b false,[])) (some (b false,[])))) none) w0) w0) none) none) none) w0) none) none) none)
noncomputable def Da3  : Bool:=V1 (one r1B) ra2
noncomputable def Da4  : Bool:=okO (one r1B) ra2
noncomputable def vb5:Sum:=id8  (.guard Da4 (.ret ((one r1B).enc Da3,[])))
theorem jc1:i5 prog G 8 vb5:=De3 (bd b8 Zb3) (one r1B) (o:=ra2) (A6 (by kernel_rfl))
structure Ed1 where
 Y5:List V3
 De2:List Pln
 (v8 Wd1:Int)
 Je2:List V3
 (Xa7 d9 d8 f7 j6:Int)
structure Ed2 where
 I5:Int
structure Ed3 where
 v8:Int
structure Ed4 where
 Y5:List V3
 De2:List Pln
 Wd1:Int
noncomputable def bxS(s:V3×V3)(v:V3):V3×V3:=(⟨if v.x<s.1.x then v.x else s.1.x,if v.y<s.1.y then v.y else s.1.y,if v.z<s.1.z then v.z else s.1.z⟩,⟨if v.x>s.2.x then v.x else s.2.x,if v.y>s.2.y then v.y else s.2.y,if v.z>s.2.z then v.z else s.2.z⟩)
noncomputable def bxL:List V3->V3×V3×Bool
 |[]=>(⟨0,0,0⟩,⟨0,0,0⟩,false)
 |v::l=>(((v::l).foldl bxS (v,v)).1,((v::l).foldl bxS (v,v)).2,true)
noncomputable def bxT(l:List V3)(j:Nat):V3×V3:=(l.take j).foldl bxS (gL tV l 0,gL tV l 0)
theorem Ud4{l:List V3}{j:Nat}(hj:j<l.length):bxT l (j+1)=bxS (bxT l j) (gL tV l j):=by
 unfold bxT;rw[Oa8 tV hj,List.foldl_append];rfl
theorem Ce3{l:List V3}(h:l≠[]):bxL l=((bxT l l.length).1,(bxT l l.length).2,true):=by
 cases l with
 |nil=>exact absurd rfl h
 |cons v l =>
  unfold bxT;rw[Qkab];rfl
theorem le8(l:List V3)(hl:l.length<=1000000):Wa4 l=some (.tup [.agg [i (bxL l).1.x,i (bxL l).1.y,i (bxL l).1.z],.agg [i (bxL l).2.1.x,i (bxL l).2.1.y,i (bxL l).2.1.z],b (bxL l).2.2],[]):=by
 by_cases hne:l=[]
 ·subst hne;rfl
 have hp:0<l.length:=List.length_pos_iff.2 hne;obtain⟨t,s,h,rfl,k,rfl⟩:=R6 (step:=ma4 ⟨l,(l.length:Int)⟩) (mk:=λj (q:V3×V3)=>(⟨(j:Int),q.1.x,q.1.y,q.1.z,q.2.x,q.2.y,q.2.z⟩:da5)) l.length (λj q=>j<=l.length/\q=bxT l j) (λt s=>t=1/\∃k:Int,s=⟨k,(bxT l l.length).1.x,(bxT l l.length).1.y,(bxT l l.length).1.z,(bxT l l.length).2.x,(bxT l l.length).2.y,(bxT l l.length).2.z⟩) (by omega)
  (λj q hj hi=>by
   obtain⟨_,rfl⟩:=hi;have hn:=C0 hj (show l.length<=4611686018427387904 by omega)
   simp only[ma4,qa4,Int.toNat_natCast,hn];rw[btD (o5 hj),bt (i6 hj)];exact .nx ⟨bxT l (j+1),by rw[Ud4 hj];rfl,by omega,rfl⟩)
  (λj q hj hi=>by
   obtain⟨hje,rfl⟩:=hi;have hje:j=l.length:=by omega
   subst hje;refine⟨1,?_,rfl,_,rfl⟩;simp only[ma4,qa4];rw[bfD (u9 (Qkp _))]) 0 (bxT l 0) ⟨Qkt _,rfl⟩
 have h:lp (ma4 ⟨l,(l.length:Int)⟩) ⟨0,(gL tV l 0).x,(gL tV l 0).y,(gL tV l 0).z,(gL tV l 0).x,(gL tV l 0).y,(gL tV l 0).z⟩=_:=h;unfold Wa4;simp only[o6,l9,h];rw[bf (show ((l.length:Int)==0)=false from by rw[beq_eq_false_iff_ne];omega),bt (show inB 0 l.length=true from i6 (j:=0) hp),Ce3 hne,bt (show inB 0 l.length=true from i6 (j:=0) hp)]
 rfl
theorem Ce4(l:List V3)(hl:l.length<=1000000):lb3 l=bxL l:=by unfold lb3;rw[le8 l hl];rfl
theorem Ce5(l:List V3)(hl:l.length<=1000000):lb4 l=true:=by unfold lb4;rw[le8 l hl];rfl
theorem ve1(x y:V3):∃n,Ca9 x y=some (i n,[]):=by
 unfold Ca9 sl;cases decide (y.x<=x.x)<;>cases decide (y.y<=x.y)<;>cases decide (y.z<=x.z)<;>exact⟨_,rfl⟩
theorem Ud5(x y:V3):R8 x y=true:=by
 obtain⟨n,h⟩:=ve1 x y;unfold R8;rw[h];rfl
noncomputable def he8(s:V3×V3×Bool)(y:V3):V3:=⟨if s.1.x>y.x then s.1.x else y.x,if s.1.y>y.y then s.1.y else y.y,if s.1.z>y.z then s.1.z else y.z⟩
noncomputable def vd0(s:V3×V3×Bool)(z:V3):V3:=⟨if s.2.1.x<z.x then s.2.1.x else z.x,if s.2.1.y<z.y then s.2.1.y else z.y,if s.2.1.z<z.z then s.2.1.z else z.z⟩
noncomputable def ob2(l:List V3)(y z:V3):Int×Int:=if (ba5 l).2=0 then ((if W (6*K5 (he8 (bxL l) y) (vd0 (bxL l) z))<(ba5 l).1 then W (6*K5 (he8 (bxL l) y) (vd0 (bxL l) z)) else (ba5 l).1),0) else (0,(ba5 l).2)
theorem Ud6(l:List V3)(y z:V3)(hl:l.length<=900000):va3 l y z=some (.tup [i (ob2 l y z).1,i (ob2 l y z).2],[]):=by
 unfold va3 ob2;simp only[o6,ha9,l9,Ic4 l hl,Ic5 l hl,Ce4 l (by omega),Ce5 l (by omega),Ud5]
 by_cases h:(ba5 l).2=0
 ·rw[if_pos h,bf (show ((ba5 l).2 != 0)=false from by rw[bne_eq_false_iff_eq];exact h)]
  rfl
 ·rw[if_neg h,bt (show ((ba5 l).2 != 0)=true from bne_iff_ne.2 h)]
  rfl
theorem ve2(l:List V3)(y z:V3)(hl:l.length<=900000):Ha9 l y z=ob2 l y z:=by unfold Ha9;rw[Ud6 l y z hl];rfl
theorem ve3(l:List V3)(y z:V3)(hl:l.length<=900000):Ia0 l y z=true:=by unfold Ia0;rw[Ud6 l y z hl];rfl
theorem Ud7(l:List V3)(n:Int)(hl:l.length<=900000):Ja7 l n=some (b (decide ((ba5 l).2=0/\(ba5 l).1=n)),[]):=by
 unfold Ja7;simp only[o6,ha9,Ic4 l hl,Ic5 l hl];by_cases h:(ba5 l).2=0
 ·rw[bt rfl,bt rfl,bt (beq_iff_eq.2 h)];by_cases h2:(ba5 l).1=n
  ·rw[decide_eq_true ⟨h,h2⟩,beq_iff_eq.2 h2]
  ·rw[decide_eq_false (λk=>h2 k.2),beq_eq_false_iff_ne.2 h2]
 ·rw[bt rfl,bt rfl,bf (beq_eq_false_iff_ne.2 h),decide_eq_false (λk=>h k.1)]
theorem Ud8(l:List V3)(n:Int)(hl:l.length<=900000):ra0 l n=decide ((ba5 l).2=0/\(ba5 l).1=n):=by unfold ra0;rw[Ud7 l n hl];rfl
theorem Ud9(l:List V3)(n:Int)(hl:l.length<=900000):ra1 l n=true:=by unfold ra1;rw[Ud7 l n hl];rfl
theorem vd1(l:List V3)(y z:V3)(n:Int)(hl:l.length<=900000):Da2 l y z n=some (b (decide ((ob2 l y z).2=0/\(ob2 l y z).1=n)),[]):=by
 unfold Da2;simp only[o6,ha9,ve2 l y z hl,ve3 l y z hl];by_cases h:(ob2 l y z).2=0
 ·rw[bt rfl,bt rfl,bt (beq_iff_eq.2 h)];by_cases h2:(ob2 l y z).1=n
  ·rw[decide_eq_true ⟨h,h2⟩,beq_iff_eq.2 h2]
  ·rw[decide_eq_false (λk=>h2 k.2),beq_eq_false_iff_ne.2 h2]
 ·rw[bt rfl,bt rfl,bf (beq_eq_false_iff_ne.2 h),decide_eq_false (λk=>h k.1)]
theorem Sc0(l:List V3)(y z:V3)(n:Int)(hl:l.length<=900000):X7 l y z n=decide ((ob2 l y z).2=0/\(ob2 l y z).1=n):=by unfold X7;rw[vd1 l y z n hl];rfl
theorem he9(l:List V3)(y z:V3)(n:Int)(hl:l.length<=900000):ja1 l y z n=true:=by unfold ja1;rw[vd1 l y z n hl];rfl
theorem Vd0{l d:List V3}{n:Int}(hc:aa6 l=0)(hd:d.Pairwise LtV)(hm:∀v,v∈l↔v∈d)(hn:V6l (d.filter (kv (F0 l)))=n):ba5 l=(n,0):=by
 have e:dis l=d:=vb1 _ _ (md5 _) hd λv=>by rw[yb3];exact hm v
 unfold ba5 na2;rw[if_pos hc,e,hn]
noncomputable def tt:List V3:=[⟨0,0,0⟩,⟨2,0,0⟩,⟨0,2,0⟩,⟨0,0,2⟩]
theorem Vd1:ba5 tt=(8,0):=by
 refine Vd0 (d:=[⟨0,0,0⟩,⟨0,0,2⟩,⟨0,2,0⟩,⟨2,0,0⟩]) (by kernel_rfl) (by simp[LtV]) (λv=>?_) (by kernel_rfl)
 unfold tt;simp only[Qke,Qkz,or_false]
 constructor<;>rintro (h | h | h | h)<;>simp[h]
noncomputable def qd:List V3:=[⟨0,0,0⟩,⟨1,0,0⟩,⟨0,2,0⟩,⟨1,2,0⟩,⟨0,0,3⟩,⟨1,0,3⟩,⟨0,2,3⟩,⟨1,2,3⟩]
theorem ve4:ba5 qd=(36,0):=by
 refine Vd0 (d:=[⟨0,0,0⟩,⟨0,0,3⟩,⟨0,2,0⟩,⟨0,2,3⟩,⟨1,0,0⟩,⟨1,0,3⟩,⟨1,2,0⟩,⟨1,2,3⟩]) (by kernel_rfl) (by simp[LtV]) (λv=>?_) (by kernel_rfl)
 unfold qd;simp only[Qke,Qkz,or_false]
 constructor<;>rintro (h | h | h | h | h | h | h | h)<;>simp[h]
theorem ve5:ba5 [⟨0,0,0⟩,⟨1,0,0⟩,⟨0,1,0⟩,⟨1,1,0⟩]=(0,11):=by
 have h:aa6 [⟨0,0,0⟩,⟨1,0,0⟩,⟨0,1,0⟩,⟨1,1,0⟩]=11:=by kernel_rfl
 unfold ba5;rw[h,if_neg (by omega)]
theorem Vd2:ba5 (List.replicate 49 ⟨0,0,0⟩)=(0,2):=by
 have h:aa6 (List.replicate 49 ⟨0,0,0⟩)=2:=by kernel_rfl
 unfold ba5;rw[h,if_neg (by omega)]
theorem ve6:bxL tt=(⟨0,0,0⟩,⟨2,2,2⟩,true):=by kernel_rfl
theorem Sc1(y z:V3)(n:Int)(h:(if W (6*K5 (he8 (⟨0,0,0⟩,⟨2,2,2⟩,true) y) (vd0 (⟨0,0,0⟩,⟨2,2,2⟩,true) z))<8 then W (6*K5 (he8 (⟨0,0,0⟩,⟨2,2,2⟩,true) y) (vd0 (⟨0,0,0⟩,⟨2,2,2⟩,true) z)) else 8)=n):ob2 tt y z=(n,0):=by
 unfold ob2;rw[Vd1,ve6,if_pos rfl];show (_,_)=_;rw[h]
theorem ed4:ra2=some (b true,[]):=by
 have e49:∀n m:V3,D6 (List.replicate 49 ⟨0,0,0⟩)=(0,2)/\B9 (List.replicate 49 ⟨0,0,0⟩)=true:=λ_ _=>⟨by rw[Ic4 _ (by simp),Vd2],Ic5 _ (by simp)⟩
 have v:∀x y z,y5 x y z=⟨x,y,z⟩:=λ_ _ _=>rfl
 have hc:db6 ⟨0,0,0⟩ ⟨1,2,3⟩=qd:=by kernel_rfl
 have hcg:db7 ⟨0,0,0⟩ ⟨1,2,3⟩=true:=by kernel_rfl
 have s1:ra0 tt 8=true:=by rw[Ud8 _ _ (by simp[tt]),Vd1];rfl
 have s1g:ra1 tt 8=true:=Ud9 _ _ (by simp[tt])
 have s2:ra0 qd 36=true:=by rw[Ud8 _ _ (by simp[qd]),ve4];rfl
 have s2g:ra1 qd 36=true:=Ud9 _ _ (by simp[qd])
 have f1:D6 [⟨0,0,0⟩,⟨1,0,0⟩,⟨0,1,0⟩,⟨1,1,0⟩]=(0,11):=by rw[Ic4 _ (by simp),ve5]
 have f1g:B9 [⟨0,0,0⟩,⟨1,0,0⟩,⟨0,1,0⟩,⟨1,1,0⟩]=true:=Ic5 _ (by simp)
 have m1:X7 tt ⟨0,0,0⟩ ⟨1,1,1⟩ 6=true:=by rw[Sc0 _ _ _ _ (by simp[tt]),Sc1 _ _ 6 (by kernel_rfl)];rfl
 have m2:X7 tt ⟨0,0,0⟩ ⟨5,5,5⟩ 8=true:=by rw[Sc0 _ _ _ _ (by simp[tt]),Sc1 _ _ 8 (by kernel_rfl)];rfl
 have m3:X7 tt ⟨3,0,0⟩ ⟨4,4,4⟩ 0=true:=by rw[Sc0 _ _ _ _ (by simp[tt]),Sc1 _ _ 0 (by kernel_rfl)];rfl
 have mg:∀y z n,ja1 tt y z n=true:=λy z n=>he9 _ _ _ _ (by simp[tt])
 have b1:K5 ⟨0,0,0⟩ ⟨1,2,3⟩=6:=by kernel_rfl
 have b2:K5 ⟨0,0,0⟩ ⟨1,0,3⟩=0:=by kernel_rfl
 have b3:K5 ⟨0,0,0⟩ ⟨-1,-1,3⟩=0:=by kernel_rfl
 have t0:[(⟨0,0,0⟩:V3),⟨2,0,0⟩,⟨0,2,0⟩,⟨0,0,2⟩]=tt:=rfl;obtain⟨q1,q2⟩:=e49 ⟨0,0,0⟩ ⟨0,0,0⟩;simp only[List.replicate] at q1 q2;unfold ra2;simp only[v,o6,ha9,q1,q2,hc,hcg,t0,s1,s1g,s2,s2g,f1,f1g,m1,m2,m3,mg,b1,b2,b3,Ud5];rfl
theorem nd8:Da3=true:=by unfold Da3;rw[ed4];rfl
theorem nd9:Da4=true:=by unfold Da4;rw[ed4];rfl
noncomputable def da8(l:List V3):List V3:=na2 (F0 l) l
theorem ed5(l:List V3):(da8 l).Pairwise LtV:=(md5 l).filter _
noncomputable def CN(p:Pln)(X:List V3)(o:V3):Int:=AR (onF p X) p.n (e7 (ptF p X) o)
theorem Ce6{p:Pln}{X Y:List V3}(h:onF p X=onF p Y)(o:V3):CN p X o=CN p Y o:=by unfold CN ptF;rw[h]
theorem Vd3{l:List V3}(hl:l.all inV=true)(h4:Sol l){p:Pln}(hp:∀u∈l,dot p.n u<=p.b){w:V3}:w∈onF p (da8 l)↔w∈l/\dot p.n w=p.b/\∃m,∀u∈l,dot p.n u=p.b->u≠w->dot m u<dot m w:=by
 rw[G9];constructor
 ·rintro⟨hw,e⟩;have hwl:=Ca8 hl h4 hw;obtain⟨m,hm⟩:=(Rb4 hl h4 hwl).1 hw;exact⟨hwl,e,m,λu hu _ hne=>hm u hu hne⟩
 ·rintro⟨hw,e,m,hm⟩;refine⟨(Rb4 hl h4 hw).2 ?_,e⟩;obtain⟨N,hN,hb⟩:=big m (l.map λu=>⟨e7 u w,0⟩)
  refine⟨⟨m.x+(N+1)*p.n.x,m.y+(N+1)*p.n.y,m.z+(N+1)*p.n.z⟩,λu hu hne=>?_⟩
  have hd:∀t:V3,dot ⟨m.x+(N+1)*p.n.x,m.y+(N+1)*p.n.y,m.z+(N+1)*p.n.z⟩ t=dot m t+(N+1)*dot p.n t:=λt=>by simp only[dot];grind
  rw[hd,hd,e];by_cases hup:dot p.n u=p.b
  ·rw[hup]
   have:=hm u hu hup hne
   omega
  ·have h1:=hp u hu;have h2:dot (e7 u w) m<=N:=(hb _ (Qkb.2 ⟨u,hu,rfl⟩)).1;have h3:dot (e7 u w) m=dot m u-dot m w:=by simp only[dot,e7];grind
   have h5:(N+1)*dot p.n u<=(N+1)*(p.b-1):=Qkad (by omega) (by omega)
   rw[Int.mul_sub,Int.mul_one] at h5;omega
theorem Ce7{l l':List V3}(hl:l.all inV=true)(h4:Sol l)(hl':l'.all inV=true)(h4':Sol l'){p:Pln}(hp:∀u∈l,dot p.n u<=p.b)(hp':∀u∈l',dot p.n u<=p.b)(hs:∀u,dot p.n u=p.b->(u∈l↔u∈l')):onF p (da8 l)=onF p (da8 l'):=by
 refine vb1 _ _ ((ed5 l).filter _) ((ed5 l').filter _) λw=>?_
 rw[Vd3 hl h4 hp,Vd3 hl' h4' hp'];constructor
 ·rintro⟨hw,e,m,hm⟩;exact⟨(hs w e).1 hw,e,m,λu hu eu hne=>hm u ((hs u eu).2 hu) eu hne⟩
 ·rintro⟨hw,e,m,hm⟩;exact⟨(hs w e).2 hw,e,m,λu hu eu hne=>hm u ((hs u eu).1 hu) eu hne⟩
theorem Sol.same{l l':List V3}(h:Sol l)(hs:∀u∈l,u∈l'):Sol l':=by
 obtain⟨a,c,k,v,ha,hc,hk,hv,hne⟩:=h;exact⟨a,c,k,v,hs a ha,hs c hc,hs k hk,hs v hv,hne⟩
theorem ie0{u w x v n:V3}(h3:N3 u w x≠⟨0,0,0⟩)(e1:dot n w=dot n u)(e2:dot n x=dot n u)(hv:dot n v≠dot n u):dot (N3 u w x) (e7 v u)≠0:=λe=>by
 have hN:dot (N3 u w x) (N3 u w x)>0:=da6 h3;have c1:c7 n (N3 u w x)=⟨0,0,0⟩:=qa8 (by rw[F9];omega) (by rw[F9];omega)
 have d1:=na9 (d:=e7 v u) c1;rw[e,Qkc,F9] at d1
 have:=ha4 hN d1
 omega
section
variable{l:List V3}(hc:aa6 l=0)
include hc
theorem Rb7:Pol (da8 l):=by
 obtain⟨_,hl,h4⟩:=Q6 hc;exact ud6 hl h4
theorem xc6(o:V3):ba5 l=(sig (F0 l) λp=>CN p (da8 l) o,0):=by
 obtain⟨_,hl,h4⟩:=Q6 hc;have h:=(Rb7 hc).v6l o;unfold ba5;rw[if_pos hc];show (V6l (da8 l),(0:Int))=_;rw[<- h];unfold V6;rw[show F0 (da8 l)=F0 l from ue6 hl h4]
 rfl
theorem Rb8{p:Pln}(hp:p∈F0 l)(o:V3):(dot p.n o<p.b->0<CN p (da8 l) o)/\(dot p.n o=p.b->CN p (da8 l) o=0)/\(p.b<dot p.n o->CN p (da8 l) o<0):=by
 obtain⟨_,hl,h4⟩:=Q6 hc;exact (Rb7 hc).cone (ud2 hl h4 ((B7 hl p).1 hp)) o
theorem vd2:0<(ba5 l).1:=by
 have h:=(Rb7 hc).pos;have h2:=(Rb7 hc).v6l ⟨0,0,0⟩;unfold ba5;rw[if_pos hc];show 0<V6l (da8 l);rw[<- h2];exact h
theorem ie1{p:Pln}(hp:p∈F0 l){v:V3}(hv:inV v=true)(hlt:dot p.n v<p.b){l':List V3}(h48:l'.length<=48)(hs:∀u,u∈l'↔(u∈l/\dot p.n u=p.b)\/u=v):aa6 l'=0/\ba5 l'=(CN p (da8 l) v,0)/\0<CN p (da8 l) v:=by
 obtain⟨_,hl,h4⟩:=Q6 hc;have hpS:=(B7 hl p).1 hp;have hl':l'.all inV=true:=Qkd.2 λu hu=>by
  rcases (hs u).1 hu with h|rfl
  ·exact Qkd.1 hl u h.1
  ·exact hv
 obtain⟨u,w,x,hu,hw,hx,h3,e1,e2,e3⟩:=hpS.on;have mu:=(hs u).2 (.inl ⟨hu,e1⟩);have mw':=(hs w).2 (.inl ⟨hw,e2⟩);have mx:=(hs x).2 (.inl ⟨hx,e3⟩);have mv:=(hs v).2 (.inr rfl);have h4':Sol l':=⟨u,w,x,v,mu,mw',mx,mv,ie0 h3 (n:=p.n) (by omega) (by omega) (by omega)⟩
 have hc':=hb7 h48 hl' h4';have hd':∀t∈l',dot p.n t<=p.b:=λt ht=>by
  rcases (hs t).1 ht with h|rfl
  ·omega
  ·omega
 have hp':Ca2 l' p:=⟨⟨hd',u,w,x,mu,mw',mx,h3,e1,e2,e3⟩,hpS.ok⟩;have hp0:=(B7 hl' p).2 hp';refine⟨hc',?_,(Rb8 hc hp v).1 hlt⟩;rw[xc6 hc' v];congr 1;rw[lb8 (le6 l') hp0 λq hq hne=>?_]
 ·exact Ce6 (Ce7 hl' h4' hl h4 hd' hpS.hd fun t ht => by
   rw[hs];constructor
   ·rintro (h|rfl)
    ·exact h.1
    ·omega
   ·intro h;exact .inl ⟨h,ht⟩) v
 ·have hqS:=(B7 hl' q).1 hq;refine (Rb8 hc' hq v).2.1 ?_;apply Qka;intro hoff;obtain⟨a,c,k,ha,hc2,hk,g3,f1,f2,f3⟩:=hqS.on;have onp:∀t∈l',dot q.n t=q.b->dot p.n t=p.b:=λt ht et=>by
   rcases (hs t).1 ht with h|rfl
   ·exact h.2
   ·exact absurd et hoff
  exact hne (Rb3 hl' h4' hqS hp' ha hc2 hk g3 f1 f2 f3 (onp a ha f1) (onp c hc2 f2) (onp k hk f3))
end
theorem ie2(p:Pln)(v:V3):Pa3 ⟨p.n.x,p.n.y,p.n.z,p.b,v.x,v.y,v.z⟩=⟨1,decide (Q5 p v>0)⟩:=by
 unfold Pa3 sa9;simp only[kb9,Oa9];rfl
theorem ie3 (l : List Pln) (v : V3) (hl : l.length ≤ 1000000000) :
  O8 ⟨l,v.x,v.y,v.z⟩=⟨1,if l.any (λp=>decide (Q5 p v>0)) then ((l.findIdx (λp=>decide (Q5 p v>0)):Nat):Int) else -1⟩:=by
 have h:=Oa4 (step:=C3 ⟨l,(l.length:Int),v.x,v.y,v.z⟩) (mk:=λj=>(⟨(j:Int)⟩:l7)) (c:=λp=>decide (Q5 p v>0)) (u:=1) (fin:=2) tP l hl
  (λj hj=>by
   simp only[C3,A9,Int.toNat_natCast,ie2,C0 hj (show l.length<=4611686018427387904 by omega)]
   rw[btD (o5 hj),bt (i6 hj)]
   rfl)
  (by simp only[C3,A9];rw[bfD (u9 (Qkp _))]) 0 (Qkt _)
 rw[List.drop_zero] at h;unfold O8 B5;simp only[o6,l9];rw[show (⟨0⟩:l7)=⟨((0:Nat):Int)⟩ from rfl,h]
 split
 ·simp only[Qkaj];rfl
 ·rfl
theorem vd3(l:List Pln)(v:V3)(hl:l.length<=1000000000):K4 ⟨l,v.x,v.y,v.z⟩=⟨1,l.any λp=>decide (Q5 p v>0)⟩:=by
 unfold K4 s8;simp only[o6,l9,ie3 l v hl];split
 ·rename_i h;rw[h,show decide (((l.findIdx (λp=>decide (Q5 p v>0)):Nat):Int)>=0)=true from decide_eq_true (by omega)];rfl
 ·rename_i h;rw[Bool.not_eq_true] at h;rw[h];rfl
theorem ve7{l:List V3}(hc:aa6 l=0){v:V3}(hv:inV v=true)(hf:∀p∈F0 l,dot p.n v<=p.b):xa8 l v=some (b true,[]):=by
 obtain⟨h48,hl,h4⟩:=Q6 hc;have hne:1<=l.length:=by
  obtain⟨a,ha⟩:=h4.ne;exact Qkam ha
 have hg:va1 l=true:=decide_eq_true ⟨hne,by omega⟩
 have hp:ma3 l=(F0 l,0):=by unfold ma3 X5;rw[if_pos hc]
 have hF:=hb8 h48 hl;have hany:(F0 l).any (λp=>decide (Q5 p v>0))=false:=by
  rw[List.any_eq_false];intro p hp' hs
  have:=(Pb9 ((B7 hl p).1 hp').ok hv).1 (of_decide_eq_true hs)
  have:=hf p hp'
  omega
 unfold xa8;simp only[o6,ha9,l9,hg,hp,(db3 v).1,(db3 v).2,hv,vd3 (F0 l) v (by omega),hany]
 rfl
theorem pcE(x:List Int):(R7 x).1::(R7 x).2=p7 x:=by
 have h:=ad9 x;unfold R7;cases hL:p7 x with
 |nil=>rw[hL] at h;simp at h
 |cons a l=>rfl
theorem xc7(x:List Int):qa9 x=some (eL tV (p7 (x.take 40)),[]):=by
 have hwl:((if (40:Int)<(↑(List.length x):Int) then (40:Int) else (↑(List.length x):Int)).toNat-0)=(x.take 40).length:=by
  rw[List.length_take];split<;>omega
 have hin:inB (if (40:Int)<(↑(List.length x):Int) then (40:Int) else (↑(List.length x):Int)) (x.length+1)=true:=by
  split
  ·exact i6 (j:=40) (by omega)
  ·exact i6 (by omega)
 have hg:∀k,k<(x.take 40).length->(λk=>(λk=>tI.row (gL tI x k)) (0+k)) k=tI.row (gL tI (x.take 40) k):=λk hk=>by
  show tI.row (gL tI x (0+k))=_;have hk8:k<40:=by rw[List.length_take] at hk;omega
  rw[Qkaj,vc0 tI x hk8]
 have h4:Nat.ble 1 (p7 (x.take 40)).length=true:=by
  have:=(ad9 (x.take 40)).1
  rw[Nat.ble_eq];omega
 unfold qa9;rw[hin,hwl,Tb1 tI rfl hg,bb1 tI (f:=λk=>gL tI (x.take 40) k) hg]
 simp only[Nd1,h4,pcE];rfl
theorem od0(x:List Int):Da0 x=p7 (x.take 40):=by
 unfold Da0;rw[xc7];exact Gc7 _ (by
  show (r1L tV).rd [] (eL tV _)=_;show Bool.rec (motive:=λ_=>Option (List V3)) none (some (rL tV (eL tV (p7 (x.take 40))))) (okE tV (p7 (x.take 40)))=_
  rw[ha9];exact congrArg some (o6 tV _))
theorem od1(x:List Int):Da1 x=true:=by
 unfold Da1;rw[xc7];exact ad3 (one (r1L tV)) (r:=p7 (x.take 40)) (by
  show Bool.rec (motive:=λ_=>Option (List V3)) none (some (rL tV (eL tV (p7 (x.take 40))))) (okE tV (p7 (x.take 40)))=_
  rw[ha9];exact congrArg some (o6 tV _))
theorem Mp.chk{l:List V3}(h:Mp l):aa6 l=0:=hb7 (by have:=h.l8;omega) h.inV (te3 h.nf)
theorem vd4{l:List V3}(hc:aa6 l=0){v:V3}(hv:inV v=true):xa8 l v=some (b (decide (∀p∈F0 l,dot p.n v<=p.b)),[]):=by
 by_cases hf:∀p∈F0 l,dot p.n v<=p.b
 ·rw[ve7 hc hv hf,decide_eq_true hf]
 obtain⟨h48,hl,h4⟩:=Q6 hc;have hne:1<=l.length:=by
  obtain⟨a,ha⟩:=h4.ne;exact Qkam ha
 have hg:va1 l=true:=decide_eq_true ⟨hne,by omega⟩
 have hp:ma3 l=(F0 l,0):=by unfold ma3 X5;rw[if_pos hc]
 have hF:=hb8 h48 hl;have hany:(F0 l).any (λp=>decide (Q5 p v>0))=true:=by
  rw[List.any_eq_true];apply Qka;intro hno;refine hf λp hp'=>?_
  apply Qka;intro hlt;exact hno ⟨p,hp',decide_eq_true ((Pb9 ((B7 hl p).1 hp').ok hv).2 (by omega))⟩
 rw[decide_eq_false hf];unfold xa8;simp only[o6,ha9,l9,hg,hp,(db3 v).1,(db3 v).2,hv,vd3 (F0 l) v (by omega),hany]
 rfl
theorem Ed5{l:List V3}(hc:aa6 l=0){v:V3}(hv:inV v=true):Wa2 l v=decide (∀p∈F0 l,dot p.n v<=p.b):=by unfold Wa2;rw[vd4 hc hv];rfl
theorem Ed6{l:List V3}(hc:aa6 l=0){v:V3}(hv:inV v=true):Wa3 l v=true:=by unfold Wa3;rw[vd4 hc hv];rfl
noncomputable def xc8:List (Nat×Sum):=[(54,Hb1)]
theorem ed6:k8 prog G xc8:=⟨bc7,trivial⟩
structure da9 where
 Y5:List V3
 (d9 d8 f7 j6:Int)
structure B0 where
 ph:Nat
 is6:Int
 ns5:Nat
 eh1:List (List b7)
noncomputable def Eb2(p:da9)(s:B0):St:=⟨.unk::eL tV p.Y5::.ptr 0 0 0 0::.unk::.unk::.v (.slice none 0 0)::i s.is6::ra 21 [],[⟨0,4,[[i p.d9,i p.d8,i p.f7,i p.j6]],true,false,0⟩]⟩
noncomputable def Eb3(p:da9)(s:B0):St:=⟨.unk::eL tV p.Y5::.ptr 0 0 0 0::.unk::.unk::.sl 1 0 s.ns5 0::i s.is6::ra 21 [],[⟨0,4,[[i p.d9,i p.d8,i p.f7,i p.j6]],true,false,0⟩,⟨25,3,s.eh1,true,false,0⟩]⟩
noncomputable def Sc2(p:da9)(s:B0):St:=(sel (Nat.beq s.ph 1) (Eb3 p s) (Eb2 p s))
noncomputable def fa1{α:Type}(k:B0->α)(e:Nat->α)(z:α)(p:da9)(s:B0):α:=let t1:=(oa8 (⟨(⟨p.d9,p.d8,p.f7⟩:V3),p.j6⟩:Pln) (gL tV p.Y5 s.is6.toNat));(sl (decide (s.is6<(↑(List.length p.Y5):Int))) (sl (inB s.is6 (List.length p.Y5)) (sl (Ta8 (⟨(⟨p.d9,p.d8,p.f7⟩:V3),p.j6⟩:Pln) (gL tV p.Y5 s.is6.toNat)) (sl (t1==0) (sl (inB s.is6 (List.length p.Y5)) (k ⟨1,W (s.is6+1),1,[[i (gL tV p.Y5 s.is6.toNat).x,i (gL tV p.Y5 s.is6.toNat).y,i (gL tV p.Y5 s.is6.toNat).z]]⟩) z) (k ⟨0,W (s.is6+1),0,[]⟩)) z) z) (e 1))
noncomputable def fa2{α:Type}(k:B0->α)(e:Nat->α)(z:α)(p:da9)(s:B0):α:=let t1:=(oa8 (⟨(⟨p.d9,p.d8,p.f7⟩:V3),p.j6⟩:Pln) (gL tV p.Y5 s.is6.toNat));(sl (decide (s.is6<(↑(List.length p.Y5):Int))) (sl (inB s.is6 (List.length p.Y5)) (sl (Ta8 (⟨(⟨p.d9,p.d8,p.f7⟩:V3),p.j6⟩:Pln) (gL tV p.Y5 s.is6.toNat)) (sl (t1==0) (sl (inB s.is6 (List.length p.Y5)) (sl (Nat.beq s.ns5 (len s.eh1)&&Nat.ble ((s.ns5+1)*24) room) (k ⟨1,W (s.is6+1),s.ns5+1,app s.eh1 [[i (gL tV p.Y5 s.is6.toNat).x,i (gL tV p.Y5 s.is6.toNat).y,i (gL tV p.Y5 s.is6.toNat).z]]⟩) z) z) (k ⟨1,W (s.is6+1),s.ns5,s.eh1⟩)) z) z) (e 2))
noncomputable def Da5(p:da9)(s:B0):Stp B0:=(sel (Nat.beq s.ph 1) (fa2 .next .exit .fail p s) (fa1 .next .exit .fail p s))
noncomputable def vb6:Lo da9 B0:=⟨En xc8,0,ye3,[1,1,0,1,4,4],[1,2,5,6],.p,[⟨sUq::sLq tV::sPq 0::sUq::sUq::.s (.o .nil)::sIq::ru2 21 [],[⟨0,4,true,some [kLq 4]⟩],λa H=>(⟨aLq tV a 1,hIq H 0 0 0,hIq H 0 0 1,hIq H 0 0 2,hIq H 0 0 3⟩,⟨0,aIq a 6,0,[]⟩)⟩,⟨sUq::sLq tV::sPq 0::sUq::sUq::.s (.o (.sl 1 0 (some 0) none))::sIq::ru2 21 [],[⟨0,4,true,some [kLq 4]⟩,⟨25,3,true,none⟩],λa H=>(⟨aLq tV a 1,hIq H 0 0 0,hIq H 0 0 1,hIq H 0 0 2,hIq H 0 0 3⟩,⟨1,aIq a 6,slN (slT a 5),elT H 1⟩)⟩],Da5,[(some 0,λp s=>upq (Eb2 p s) [(7,i s.is6),(8,eL tV p.Y5),(9,i (↑(List.length p.Y5):Int)),(10,b (decide (s.is6<(↑(List.length p.Y5):Int))))]),(some 0,λp s=>upq (Eb3 p s) [(7,i s.is6),(8,eL tV p.Y5),(9,i (↑(List.length p.Y5):Int)),(10,b (decide (s.is6<(↑(List.length p.Y5):Int))))])],Sc2⟩
theorem Sc3:vb6.Ok:=Lo.ok [] (by kernel_rfl) .nil rfl (.cons (λa H=>by kernel_rfl) (.cons (λa H=>by kernel_rfl) .nil)) λp s=>(.sel (Nat.beq s.ph 1) (.of @fa2 (λF _ _ _ _ _=>by unfold fa2;(repeat' apply q8 (f:=F))<;>rfl) (by kernel_rfl)) (.of @fa1 (λF _ _ _ _ _=>by unfold fa1;(repeat' apply q8 (f:=F))<;>rfl) (by kernel_rfl)))
structure yb6 where
 (alt ns0:Nat)
 eh0:List (List b7)
noncomputable def Qa8{α:Type}(kk:yb6->α)(x:Pln)(y:List V3):α:=let t1:=(lp (Da5 (⟨rt tV y,x.n.x,x.n.y,x.n.z,x.b⟩:da9)) (⟨0,0,0,[]⟩:B0));(sl ((cnE tV y)&&true) (sl (Nat.beq t1.1 1) (kk ⟨1,0,[]⟩) (sl (Nat.beq t1.1 2) (kk ⟨2,t1.2.ns5,t1.2.eh1⟩) (kk ⟨0,0,[]⟩))) (kk ⟨0,0,[]⟩))
noncomputable def yb7(x:Pln)(y:List V3):yb6:=Qa8 (λr=>r) x y
noncomputable def Ib1(r:yb6):DT (b7×List c8):=(.ite (Nat.beq r.alt 1) (.ret (.v (.slice none 0 0),[])) (.ite (Nat.beq r.alt 2) (.ret (.sl 0 0 r.ns0 0,[⟨25,3,r.eh0,true,false,0⟩])) .fail))
theorem Ed7{α β:Type}(F:α->β)(kk:yb6->α)(x:Pln)(y:List V3):F (Qa8 kk x y)=Qa8 (λr=>F (kk r)) x y:=by unfold Qa8;(repeat' apply q8 (f:=F))<;>rfl
noncomputable def Ic6:Sum:=za1 (Z4 tP) (xa0 tV) (λx y=>Ib1 (yb7 x y))
theorem od2:i5 prog G 31 Ic6:=Ya7 (bd b31 ed6) λx y=>bb3 (.s .p (.s .p (.s (.s .p (.b (.u vb6.ls))) .p))) [vb6.pr] (by kernel_rfl) (.cons Sc3 .nil) (Eq.trans (b:=Qa8 (λr=>(Ib1 r).run) x y) (by kernel_rfl) (Ed7 (λr=>(Ib1 r).run) (λr=>r) x y).symm)
noncomputable def Ja8:List (Nat×Sum):=[(8,vb5),(9,vb4),(17,vb3),(29,vc7),(11,Ca6),(22,db9),(30,ia6),(31,Ic6)]
theorem ob8:k8 prog G Ja8:=⟨jc1,ic9,Rb5,dd5,Ha8,vb0,la9,od2,trivial⟩
structure C5 where
 bs5:Bool
 Ic8:List V3
 v8:Int
 Zb5:List Pln
 (je1 d9 d8 f7:Int)
structure j9 where
 (Zb4 Cc3:Int)
noncomputable def Da6(p:C5)(s:j9):St:=⟨ra 5 (b p.bs5::eL tV p.Ic8::.unk::.unk::.ptr 0 0 0 0::i p.v8::ra 3 (i s.Zb4::ra 74 (eL tP p.Zb5::i p.je1::i s.Cc3::ra 33 []))),[⟨0,3,[[i p.d9,i p.d8,i p.f7]],true,false,0⟩]⟩
noncomputable def r7{α:Type}(k:j9->α)(e:Nat->α)(z:α)(p:C5)(s:j9):α:=let t1:=(C7 (gL tP p.Zb5 s.Cc3.toNat) (⟨p.d9,p.d8,p.f7⟩:V3));let t2:=(yb7 (gL tP p.Zb5 s.Cc3.toNat) (rt tV p.Ic8));let t3:=(D6 [(⟨p.d9,p.d8,p.f7⟩:V3)]);let t4:=(D6 (slR tV (app t2.eh0 [[i p.d9,i p.d8,i p.f7]]) 0 (t2.ns0+1)));(sl (decide (s.Cc3<p.je1)) (sl (inB s.Cc3 (List.length p.Zb5)) (sl (L9 (gL tP p.Zb5 s.Cc3.toNat) (⟨p.d9,p.d8,p.f7⟩:V3)) (sl (t1==0) (k ⟨s.Zb4,W (s.Cc3+1)⟩) (sl (okE tV p.Ic8) (sl (Nat.beq t2.alt 1) (sl (B9 [(⟨p.d9,p.d8,p.f7⟩:V3)]) (sl (t3.2 != 0) (e 1) (sl (decide (t3.1<1)) (e 1) (k ⟨W (s.Zb4+t3.1),W (s.Cc3+1)⟩))) z) (sl (Nat.beq t2.alt 2) (sl (Nat.beq t2.ns0 (len t2.eh0)&&Nat.ble ((t2.ns0+1)*24) room) (sl (okS tV (app t2.eh0 [[i p.d9,i p.d8,i p.f7]]) 0 (t2.ns0+1)) (sl (B9 (slR tV (app t2.eh0 [[i p.d9,i p.d8,i p.f7]]) 0 (t2.ns0+1))) (sl (t4.2 != 0) (e 1) (sl (decide (t4.1<1)) (e 1) (k ⟨W (s.Zb4+t4.1),W (s.Cc3+1)⟩))) z) z) z) z)) z)) z) z) (e 2))
noncomputable def H4(p:C5)(s:j9):Stp j9:=r7 .next .exit .fail p s
noncomputable def na4:Lo C5 j9:=⟨En Ja8,0,pf6,[1,1,1,1,1,1,1,1,1,1,0,1,4,4],[5,6,9,10,14,89,90,91],.p,[⟨ru2 5 (sBq::sLq tV::sUq::sUq::sPq 0::sIq::ru2 3 (sIq::ru2 74 (sLq tP::sIq::sIq::ru2 33 []))),[⟨0,3,true,some [kLq 3]⟩],λa H=>(⟨aBq a 5,aLq tV a 6,aIq a 10,aLq tP a 89,aIq a 90,hIq H 0 0 0,hIq H 0 0 1,hIq H 0 0 2⟩,⟨aIq a 14,aIq a 91⟩)⟩],H4,[(none,λp s=>⟨[b false],[]⟩),(some 0,λp s=>upq (Da6 p s) [(92,b (decide (s.Cc3<p.je1)))])],Da6⟩
theorem mb1:na4.Ok:=Lo.ok [] (by kernel_rfl) .nil rfl (.cons (λa H=>by kernel_rfl) .nil) λp s=>(.of @r7 (λF _ _ _ _ _=>by unfold r7;(repeat' apply q8 (f:=F))<;>rfl) (by kernel_rfl))
noncomputable def W5(x:List Int)(y:B2):Option (b7×List c8):=let t1:=Da3;let t2:=(Da0 (rt tI x));let t3:=(y5 (W (Int.tdiv (W ((gL tV t2 (Int.tmod (W y.d0) (↑(List.length t2):Int)).toNat).x+(gL tV t2 (Int.tmod (W y.d1) (↑(List.length t2):Int)).toNat).x)) 2)) (W (Int.tdiv (W ((gL tV t2 (Int.tmod (W y.d0) (↑(List.length t2):Int)).toNat).y+(gL tV t2 (Int.tmod (W y.d1) (↑(List.length t2):Int)).toNat).y)) 2)) (W (Int.tdiv (W ((gL tV t2 (Int.tmod (W y.d0) (↑(List.length t2):Int)).toNat).z+(gL tV t2 (Int.tmod (W y.d1) (↑(List.length t2):Int)).toNat).z)) 2)));let t4:=(Wa2 (rt tV t2) t3);let t5:=(D6 (rt tV t2));let t6:=(va2 (rt tV t2));let t7:=(lp (H4 (⟨t1,rt tV t2,t5.1,rt tP t6.1,(↑(List.length t6.1):Int),(gL tV t2 (Int.tmod (W y.d0) (↑(List.length t2):Int)).toNat).x,(gL tV t2 (Int.tmod (W y.d0) (↑(List.length t2):Int)).toNat).y,(gL tV t2 (Int.tmod (W y.d0) (↑(List.length t2):Int)).toNat).z⟩:C5)) (⟨0,0⟩:j9));let t8:=(lp (H4 (⟨t1,rt tV t2,t5.1,rt tP t6.1,(↑(List.length t6.1):Int),t3.x,t3.y,t3.z⟩:C5)) (⟨0,0⟩:j9));(sl Da4 (sl (okE tI x) (sl (Da1 (rt tI x)) (sl ((↑(List.length t2):Int)==0) none (sl (inB (Int.tmod (W y.d0) (↑(List.length t2):Int)) (List.length t2)) (sl ((↑(List.length t2):Int)==0) none (sl (inB (Int.tmod (W y.d1) (↑(List.length t2):Int)) (List.length t2)) (sl (okE tV t2) (sl (Wa3 (rt tV t2) t3) (sl (!t4) (sl (okE tV t2) (sl (B9 (rt tV t2)) (sl (okE tV t2) (sl (ma5 (rt tV t2)) (sl (t5.2 != 0) (some (b false,[])) (sl (t6.2 != 0) (some (b false,[])) (sl (decide (t5.1<1)) (some (b false,[])) (sl (decide ((↑(List.length t6.1):Int)<4)) (some (b false,[])) (sl ((cnE tV t2)&&((cnE tP t6.1)&&true)) (sl (Nat.beq t7.1 1) (some (b false,[])) (sl (Nat.beq t7.1 2) (sl t1 (some (b (t7.2.Zb4==t5.1),[])) (some (b false,[]))) none)) none))))) none) none) none) none) (sl (okE tV t2) (sl (B9 (rt tV t2)) (sl (okE tV t2) (sl (ma5 (rt tV t2)) (sl (t5.2 != 0) (some (b false,[])) (sl (t6.2 != 0) (some (b false,[])) (sl (decide (t5.1<1)) (some (b false,[])) (sl (decide ((↑(List.length t6.1):Int)<4)) (some (b false,[])) (sl ((cnE tV t2)&&((cnE tP t6.1)&&true)) (sl (Nat.beq t8.1 1) (some (b false,[])) (sl (Nat.beq t8.1 2) (sl t1 (some (b (t8.2.Zb4==t5.1),[])) (some (b false,[]))) none)) none))))) none) none) none) none)) none) none) none)) none)) none) none) none)
noncomputable def fa8(x:List Int)(y:B2):Bool:=V1 (one r1B) (W5 x y)
noncomputable def fa9(x:List Int)(y:B2):Bool:=okO (one r1B) (W5 x y)
noncomputable def Ab1:Sum:=za1 (xa0 tI) (Z4 tM) (λx y=>.guard (fa9 x y) (.ret ((one r1B).enc (fa8 x y),[])))
theorem vb7:i5 prog G 6 Ab1:=Lb5 (bd b6 ob8) (one r1B) (o:=W5) λx y=>bb3 (.s .p (.s .p (.s .p (.s .p (.s .p (.s .p (.s .p (.s .p (.s .p (.s .p (.s (.s .p (.b (.u na4.ls))) .p))))))))))) [na4.pr] (by kernel_rfl) (.cons mb1 .nil) (by kernel_rfl)
theorem le9(l:List V3)(v:V3):app (bL tV l) [[i v.x,i v.y,i v.z]]=bL tV (l++[v]):=ub2 l v.x v.y v.z
theorem Sc4 (P : da9) (p : Pln) (X : List V3) (h1 : P.Y5 = X) (h3 : P.d9 = p.n.x ∧ P.d8 = p.n.y ∧ P.f7 = p.n.z ∧ P.j6 = p.b) (hp : okp p = true) (hX : ∀ v ∈ X, inV v = true) (hl : X.length ≤ 1000000) :
  ∃j,lp (Da5 P) ⟨0,0,0,[]⟩=(phV (onF p X)+1,⟨phV (onF p X),j,(onF p X).length,bL tV (onF p X)⟩):=by
 suffices key:∃t s,lp (Da5 P) ⟨0,0,0,[]⟩=(t,s)/\(t=phV (onF p X)+1/\∃j,s=⟨phV (onF p X),j,(onF p X).length,bL tV (onF p X)⟩) by
  obtain⟨t,s,h,rfl,j,rfl⟩:=key;exact⟨j,h⟩
 refine R6 (step:=Da5 P) (mk:=λj (o:List V3)=>(⟨phV o,(j:Int),o.length,bL tV o⟩:B0)) X.length (λj o=>j<=X.length/\o=onF p (X.take j)) (λt s=>t=phV (onF p X)+1/\∃j,s=⟨phV (onF p X),j,(onF p X).length,bL tV (onF p X)⟩) (by omega)
  (λj o hj hi=>?_) (λj o hj hi=>?_) 0 [] ⟨Qkt _,by simp[onF]⟩
 ·obtain⟨_,hi⟩:=hi;have hN:=C0 hj (show X.length<=4611686018427387904 by omega)
  have hv:=hX _ (Ba8 tV hj);have hlen:o.length<=1000000:=by
   rw[hi];have a1:=Qko (λv=>decide (dot p.n v=p.b)) (X.take j)
   have a2:=Qkae j X;unfold onF;omega
  have hT:onF p (X.take (j+1))=if dot p.n (gL tV X j)=p.b then o++[gL tV X j] else o:=by
   rw[Oa8 tV hj,hi];unfold onF;rw[List.filter_append];by_cases hc:dot p.n (gL tV X j)=p.b
   ·rw[if_pos hc,Qkaa,if_pos (decide_eq_true hc)];rfl
   ·rw[if_neg hc,Qkaa,if_neg (by rw[decide_eq_true_eq];exact hc),List.filter_nil,Qkv]
  have hside:(oa8 ⟨⟨P.d9,P.d8,P.f7⟩,P.j6⟩ (gL tV X j)==0)=decide (dot p.n (gL tV X j)=p.b):=by
   rw[h3.1,h3.2.1,h3.2.2.1,h3.2.2.2];show (oa8 p (gL tV X j)==0)=_;rw[Od7,Td4 hp hv]
  clear hi
  cases o with
  |nil =>
   show Nx (fa1 Stp.next Stp.exit Stp.fail _ _) _ _;simp only[fa1,Int.toNat_natCast,h1,hside,Pc2,hN,i6 hj];rw[btD (o5 hj)];by_cases hc:dot p.n (gL tV X j)=p.b
   ·rw[if_pos hc] at hT;rw[decide_eq_true hc];exact Nx.nx (s:=(⟨1,((j+1:Nat):Int),1,bL tV ([]++[gL tV X j])⟩:B0)) (N:=λs=>∃o',s=(⟨phV o',((j+1:Nat):Int),o'.length,bL tV o'⟩:B0)/\(j+1<=X.length/\o'=onF p (X.take (j+1)))) ⟨[]++[gL tV X j],rfl,by omega,hT.symm⟩
   ·rw[if_neg hc] at hT;rw[decide_eq_false hc];exact Nx.nx (s:=(⟨0,((j+1:Nat):Int),0,[]⟩:B0)) ⟨[],rfl,by omega,hT.symm⟩
  |cons q o =>
   have rr:(Nat.beq (q::o).length (len (bL tV (q::o)))&&Nat.ble (((q::o).length+1)*24) room)=true:=ad8 rfl (by omega)
   show Nx (fa2 Stp.next Stp.exit Stp.fail _ _) _ _;simp only[fa2,Int.toNat_natCast,h1,hside,Pc2,hN,i6 hj,rr,le9];rw[btD (o5 hj)];by_cases hc:dot p.n (gL tV X j)=p.b
   ·rw[if_pos hc] at hT;rw[decide_eq_true hc];exact Nx.nx (s:=(⟨1,((j+1:Nat):Int),(q::o).length+1,bL tV ((q::o)++[gL tV X j])⟩:B0)) ⟨(q::o)++[gL tV X j],by rw[kc6,List.length_append];rfl,by omega,hT.symm⟩
   ·rw[if_neg hc] at hT;rw[decide_eq_false hc];exact Nx.nx (s:=(⟨1,((j+1:Nat):Int),(q::o).length,bL tV (q::o)⟩:B0)) ⟨q::o,rfl,by omega,hT.symm⟩
 ·obtain⟨h4,hi⟩:=hi;have e:j=X.length:=by omega
  subst e;rw[Qkab] at hi;rw[<- hi];cases o with
  |nil =>
   refine⟨1,?_,rfl,_,rfl⟩;show fa1 Stp.next Stp.exit Stp.fail _ _=_;simp only[fa1,h1];rw[bfD (u9 (Qkp _))]
  |cons q o =>
   refine⟨2,?_,rfl,_,rfl⟩;show fa2 Stp.next Stp.exit Stp.fail _ _=_;simp only[fa2,h1];rw[bfD (u9 (Qkp _))]
end Go.Ev.Ce
