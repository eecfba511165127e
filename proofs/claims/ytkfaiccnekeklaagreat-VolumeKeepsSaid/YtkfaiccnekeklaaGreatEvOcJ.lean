/- Own work. -/
import Derived.Test.YtkfaiccnekeklaaGreatEvOaTB
import Derived.ChangeStays
import Derived.ChangeSame
import Derived.OpenShut
import Derived.RowKit
set_option linter.all false
noncomputable section
def Qka:=@Classical.byContradiction
def Qkb:=@List.mem_map
def Qkc:=@List.all_eq_true
def Qkd:=@Int.mul_zero
def Qke:=@List.mem_cons
def Qkf:=@Int.mul_eq_zero
def Qkg:=@Int.mul_nonneg
def Qkh:=@List.mem_filter
def Qki:=@List.mem_append
def Qkj:=@List.mem_singleton
def Qkk:=@Int.mul_neg_of_pos_of_neg
def Qkl:=@Int.mul_pos
def Qkm:=@List.getElem?_eq_getElem
def Qkn:=@Int.le_refl
def Qko:=@List.length_filter_le
def Qkp:=@Option.bind_eq_some_iff
def Qkq:=@Int.mul_le_mul_of_nonneg_right
def Qkr:=@Int.add_zero
def Qks:=@Nat.lt_irrefl
def Qkt:=@Int.eq_of_mul_eq_mul_left
def Qku:=@Int.sub_self
def Qkv:=@Int.zero_mul
def Qkw:=@Nat.zero_add
def Qkx:=@List.length_append
def Qky:=@Int.mul_neg
def Qkz:=@Nat.zero_le
def Qkaa:=@List.not_mem_nil
def Qkab:=@List.length_map
def Qkac:=@List.append_nil
def Qkad:=@Int.mul_le_mul_of_nonneg_left
def Qkae:=@List.getElem?_range
def Qkaf:=@Int.neg_mul
def Qkag:=@Int.mul_lt_mul_of_pos_left
def Qkah:=@List.length_range
def Qkai:=@List.take_length
def Qkaj:=@Nat.le_trans
def Qkak:=@List.length_take
def Qkal:=@Option.map_eq_some_iff
def Qkam:=@List.length_pos_of_mem
def Qkan:=@List.mem_range
def Qkao:=@Go.Ev.Ce.V3.ext'
namespace Go.Ev.Ce
open Go Go.Ev Go.Ev.L Go.Proofs
theorem fe1{l:List V3}(hl:l.all inV=true):∀p∈ws,∀v∈l,dot p.n v<=p.b:=λp hp v hv=>by
 have:=qe8 (Qkc.1 hl v hv) p hp
 simp only[rmZ,ipt,dot] at this ⊢;omega
section
variable{l:List V3}(hl:l.all inV=true)(h4:Sol l)
include hl
theorem Qb1(v:V3):v∈ea8 (F0 l) l↔v∈l/\Spn (F0 l) v:=by
 unfold ea8;rw[Qkh,Ya9];exact⟨λh=>⟨h.1,(Od9 hl h.1).1 h.2⟩,λh=>⟨h.1,(Od9 hl h.1).2 h.2⟩⟩
include h4
theorem kb9{n:V3}{b:Int}(hv:∀v∈ea8 (F0 l) l,dot n v<=b):∀x∈l,dot n x<=b:=by
 have hfacs:=rd2 hl λp hp=>(A2 hl p).2 hp
 have hall:∀p∈F0 l++ws,∀v∈l,dot p.n v<=p.b:=λp hp=>by
  rcases Qki.1 hp with hp|hp
  ·exact ((A2 hl p).1 hp).hd
  ·exact fe1 hl p hp
 intro x hx;have hz:∀(a:Pln) (v:V3),rmZ a ⟨v.x,v.y,v.z,1⟩=a.b-dot a.n v:=λa v=>by simp only[rmZ,dot];omega
 have hI:Inr (F0 l++ws) ⟨x.x,x.y,x.z,1⟩:=⟨by show (0:Int)<1;omega,λp hp=>by rw[hz];have:=hall p hp x hx;omega⟩
 have key:=ka4 (Md4 (F0 l)) (h:=⟨n,b⟩) (λy hy=>by
  obtain⟨v,hvl,he,hs⟩:=ce3 h4 hfacs hall hy;have h1:=hv v ((Qb1 hl v).2 ⟨hvl,hs⟩);have h2:=he.rm ⟨n,b⟩;rw[hz] at h2;have hw:=hy.w;have h3:0<=(b-dot n v)*y.pw:=Qkg (by omega) (by omega)
  have h4:rmZ ⟨n,b⟩ y*1=(b-dot n v)*y.pw:=h2
  omega) hI
 rw[hz] at key;have key:0<=b-dot n x:=key;omega
theorem Ba8{v:V3}(hv:v∈ea8 (F0 l) l):v∈l:=((Qb1 hl v).1 hv).1
theorem se7:∃v,v∈ea8 (F0 l) l:=by
 apply Qka;intro hno;obtain⟨x,hx⟩:=h4.ne
 have:=kb9 hl h4 (n:=⟨0,0,0⟩) (b:=-1) (λv hv=>absurd ⟨v,hv⟩ hno) x hx
 simp[dot] at this
theorem sd2:Sol (ea8 (F0 l) l):=by
 obtain⟨a,ha⟩:=se7 hl h4
 rcases Oc4 ((ea8 (F0 l) l).map λv=>d9 v a) with⟨x,y,z,hx,hy,hz,hw⟩|⟨d,hd,h⟩
 ·obtain⟨u,hu,rfl⟩:=Qkb.1 hx;obtain⟨v,hv,rfl⟩:=Qkb.1 hy;obtain⟨w,hw',rfl⟩:=Qkb.1 hz;exact⟨a,v,w,u,ha,hv,hw',hu,λe=>hw (by rw[<- e];simp only[dot,c8,N3];grind)⟩
 ·exfalso;have e:∀v∈ea8 (F0 l) l,dot d v=dot d a:=λv hv=>by
   have:=h _ (Qkb.2 ⟨v,hv,rfl⟩)
   simp only[dot,d9] at this ⊢
   grind
  obtain⟨v,hv,hne⟩:=h4.off hd (dot d a);have h1:=kb9 hl h4 (n:=d) (b:=dot d a) (λw hw=>by rw[e w hw];exact Qkn _) v hv
  have h2:=kb9 hl h4 (n:=neg d) (b:=-dot d a) (λw hw=>by
   have:=e w hw
   have h3:dot (neg d) w=-dot d w:=by simp only[dot,neg];grind
   omega) v hv
  have h3:dot (neg d) v=-dot d v:=by simp only[dot,neg];grind
  omega
theorem jc5:(ea8 (F0 l) l).all inV=true:=Qkc.2 λv hv=>Qkc.1 hl v (Ba8 hl h4 hv)
theorem sd3{p:Pln}(hp:Ca6 l p):Ca6 (ea8 (F0 l) l) p:=by
 refine⟨⟨λv hv=>hp.hd v (Ba8 hl h4 hv),?_⟩,hp.ok⟩
 obtain⟨u,w,x,hu,hw,hx,h3,t1,t2,t3⟩:=hp.on
 -- a kd6 on the plane
 obtain⟨a,ha,ta⟩:∃a∈ea8 (F0 l) l,dot p.n a=p.b:=by
  apply Qka;intro hno
  have:=kb9 hl h4 (n:=p.n) (b:=p.b-1) (λv hv=>by
   have h1:=hp.hd v (Ba8 hl h4 hv);have h2:dot p.n v≠p.b:=λe=>hno ⟨v,hv,e⟩
   omega) u hu
  omega
 rcases Oc4 (p.n::(((ea8 (F0 l) l).filter λv=>dot p.n v==p.b).map λv=>d9 v a)) with⟨n1,n2,n3,k1,k2,k3,hne⟩|⟨d,hd,hz⟩
 ·have on : ∀ {n}, n ∈ p.n :: (((ea8 (F0 l) l).filter fun v => dot p.n v == p.b).map fun v => d9 v a) → n = p.n ∨ ∃ v ∈ ea8 (F0 l) l, dot p.n v = p.b ∧ n = d9 v a := fun {n} hn => by
   rcases Qke.1 hn with e|hn
   ·exact .inl e
   ·obtain⟨v,hv,rfl⟩:=Qkb.1 hn;obtain⟨h1,h2⟩:=Qkh.1 hv;exact .inr ⟨v,h1,beq_iff_eq.1 h2,rfl⟩
  have fin:∀{v1 v2:V3},v1∈ea8 (F0 l) l->v2∈ea8 (F0 l) l->dot p.n v1=p.b->dot p.n v2=p.b->dot p.n (c8 (d9 v1 a) (d9 v2 a))≠0->∃u w x,u∈ea8 (F0 l) l/\w∈ea8 (F0 l) l/\x∈ea8 (F0 l) l/\N3 u w x≠⟨0,0,0⟩/\dot p.n u=p.b/\dot p.n w=p.b/\dot p.n x=p.b:=λ{v1 v2} hv1 hv2 e1 e2 h=>⟨a,v1,v2,ha,hv1,hv2,Fc7 h,ta,e1,e2⟩
  rcases on k1 with rfl|⟨v1,m1,e1,rfl⟩<;>rcases on k2 with rfl|⟨v2,m2,e2,rfl⟩<;>rcases on k3 with rfl|⟨v3,m3,e3,rfl⟩
  ·exact absurd (by simp only[dot,c8];grind) hne
  ·exact absurd (by simp only[dot,c8];grind) hne
  ·exact absurd (by simp only[dot,c8];grind) hne
  ·exact fin m2 m3 e2 e3 hne
  ·exact absurd (by simp only[dot,c8];grind) hne
  ·exact fin m3 m1 e3 e1 λe=>hne (by rw[<- e];simp only[dot,c8];grind)
  ·exact fin m1 m2 e1 e2 λe=>hne (by rw[<- e];simp only[dot,c8];grind)
  ·exfalso;have q:∀v:V3,dot p.n v=p.b->dot p.n (d9 v a)=0:=λv e=>by
    have:dot p.n (d9 v a)=dot p.n v-dot p.n a:=by simp only[dot,d9];grind
    omega
   have r1:=q v1 e1;have r2:=q v2 e2;have r3:=q v3 e3;have hw:mw ⟨d9 v1 a,0⟩ ⟨d9 v2 a,0⟩ ⟨d9 v3 a,0⟩≠0:=hne;refine Ya8 hp.ok (Ua8 hw ?_ ?_ ?_)
   ·rw[<- r1];simp only[dot];grind
   ·rw[<- r2];simp only[dot];grind
   ·rw[<- r3];simp only[dot];grind
 ·exfalso;have hdn:dot p.n d=0:=hz _ List.mem_cons_self;have hdv:∀v∈ea8 (F0 l) l,dot p.n v=p.b->dot d v=dot d a:=λv hv e=>by
   have:=hz _ (List.mem_cons_of_mem _ (Qkb.2 ⟨v,Qkh.2 ⟨hv,beq_iff_eq.2 e⟩,rfl⟩))
   simp only[dot,d9] at this ⊢
   grind
  -- one of the nc0 points is off the line
  have hoff:¬ (dot d u=dot d a/\dot d w=dot d a/\dot d x=dot d a):=λ⟨g1,g2,g3⟩=>by
   have ht:=(da4 (ua3 (Qkc.1 hl u hu) (Qkc.1 hl w hw) (Qkc.1 hl x hx) h3)).2;have hm:mw p ⟨d9 w u,0⟩ ⟨d9 x u,0⟩≠0:=by
    have hN:mw p ⟨d9 w u,0⟩ ⟨d9 x u,0⟩=dot p.n (N3 u w x):=rfl;rw[hN];intro e;obtain⟨_,⟨g,hg,f1,f2,f3⟩,_⟩:=ht;have f1:g*(A7 u w x).1.n.x=(N3 u w x).x:=f1;have f2:g*(A7 u w x).1.n.y=(N3 u w x).y:=f2;have f3:g*(A7 u w x).1.n.z=(N3 u w x).z:=f3;have e2:g*dot p.n (A7 u w x).1.n=0:=by rw[<- e];simp only[dot];rw[<- f1,<- f2,<- f3];grind
    have e3:=(Qkf.1 e2).resolve_left (by omega)
    have hpn:=Ya8 hp.ok;have hpos:=rd1 hpn
    rcases tb6 ((da4 (ua3 (Qkc.1 hl u hu) (Qkc.1 hl w hw) (Qkc.1 hl x hx) h3)).2) hp.ok t1 t2 t3 with hq|hq
    ·rw[<- hq] at e3;omega
    ·have : dot p.n (A7 u w x).1.n = -dot p.n p.n := by
      have h5:p.n=⟨-(A7 u w x).1.n.x,-(A7 u w x).1.n.y,-(A7 u w x).1.n.z⟩:=congrArg Pln.n hq;have h6:(A7 u w x).1.n=⟨-p.n.x,-p.n.y,-p.n.z⟩:=by
       rw[h5];simp
      rw[h6];simp only[dot]
      grind
     omega
   refine hd (Ua8 hm hdn ?_ ?_)
   ·show dot (d9 w u) d=0
    have:dot (d9 w u) d=dot d w-dot d u:=by simp only[dot,d9];grind
    omega
   ·show dot (d9 x u) d=0
    have:dot (d9 x u) d=dot d x-dot d u:=by simp only[dot,d9];grind
    omega
  -- so a plane that is turned a little would ze4 it out
  have main:∀(e:V3) (t:V3),t∈l->dot p.n t=p.b->(∀v∈ea8 (F0 l) l,dot p.n v=p.b->dot e v=dot e a)->dot e t<=dot e a:=λe t ht hte hev=>by
   obtain⟨N,hN,hbig⟩:=big e ((ea8 (F0 l) l).map λv=>⟨d9 v a,0⟩)
   have:=kb9 hl h4 (n:=⟨e.x+N*p.n.x,e.y+N*p.n.y,e.z+N*p.n.z⟩) (b:=dot e a+N*p.b) (λv hv=>by
    have h1:dot ⟨e.x+N*p.n.x,e.y+N*p.n.y,e.z+N*p.n.z⟩ v=dot e v+N*dot p.n v:=by simp only[dot];grind
    rw[h1];by_cases hvp:dot p.n v=p.b
    ·rw[hvp,hev v hv hvp];exact Qkn _
    ·have h2:=hp.hd v (Ba8 hl h4 hv);have h3:=(hbig _ (Qkb.2 ⟨v,hv,rfl⟩)).1;have h4:dot (d9 v a) e=dot e v-dot e a:=by simp only[dot,d9];grind
     have h3:dot (d9 v a) e<=N:=h3;have h5:N*dot p.n v<=N*(p.b-1):=Qkad (by omega) (by omega)
     rw[Int.mul_sub,Int.mul_one] at h5
     omega) t ht
   have h1:dot ⟨e.x+N*p.n.x,e.y+N*p.n.y,e.z+N*p.n.z⟩ t=dot e t+N*dot p.n t:=by simp only[dot];grind
   rw[h1,hte] at this;omega
  have both:∀t,t∈l->dot p.n t=p.b->dot d t=dot d a:=λt ht hte=>by
   have g1:=main d t ht hte hdv;have g2:=main (neg d) t ht hte (λv hv e=>by
    have:=hdv v hv e
    have q1:∀z:V3,dot (neg d) z=-dot d z:=λz=>by simp only[dot,neg];grind
    rw[q1,q1];omega)
   have q1:∀z:V3,dot (neg d) z=-dot d z:=λz=>by simp only[dot,neg];grind
   rw[q1,q1] at g2;omega
  exact hoff ⟨both u hu t1,both w hw t2,both x hx t3⟩
theorem ld8:F0 (ea8 (F0 l) l)=F0 l:=by
 refine wb9 (tb5 _) (tb5 _) λp=>?_
 rw[A2 (jc5 hl h4),A2 hl];refine⟨λh=>⟨⟨kb9 hl h4 h.hd,?_⟩,h.ok⟩,λh=>sd3 hl h4 h⟩
 obtain⟨u,w,x,hu,hw,hx,hr⟩:=h.on;exact⟨u,w,x,Ba8 hl h4 hu,Ba8 hl h4 hw,Ba8 hl h4 hx,hr⟩
theorem fe2(h48:l.length<=48):aa5 (ea8 (F0 l) l)=0:=by
 refine Ea8 ?_ (jc5 hl h4) (sd2 hl h4);have h1:=jc1 l;have h2:(ea8 (F0 l) l).length<=(dis l).length:=Qko _ _;omega
end
theorem Qb2{l:List V3}(hl:l.all inV=true)(h4:Sol l){v:V3}(hv:v∈l):v∈ea8 (F0 l) l↔∃n,∀w∈l,w≠v->dot n w<dot n v:=by
 constructor
 ·intro h;obtain⟨p,q,s,hp,hq,hs,hm,e1,e2,e3⟩:=((Qb1 hl v).1 h).2;refine⟨⟨p.n.x+q.n.x+s.n.x,p.n.y+q.n.y+s.n.y,p.n.z+q.n.z+s.n.z⟩,λw hw hne=>?_⟩
  have hd:∀x:V3,dot ⟨p.n.x+q.n.x+s.n.x,p.n.y+q.n.y+s.n.y,p.n.z+q.n.z+s.n.z⟩ x=dot p.n x+dot q.n x+dot s.n x:=λx=>by simp only[dot];grind
  rw[hd,hd];have g1:=((A2 hl p).1 hp).hd w hw;have g2:=((A2 hl q).1 hq).hd w hw;have g3:=((A2 hl s).1 hs).hd w hw;apply Qka;intro hno;have z:=Ua8 hm (d:=d9 w v) (by rw[K7];omega) (by rw[K7];omega) (by rw[K7];omega)
  simp only[d9,V3.mk.injEq] at z;exact hne (Qkao (by omega) (by omega) (by omega))
 ·rintro⟨n,hn⟩;apply Qka;intro hno
  have:=kb9 hl h4 (n:=n) (b:=dot n v-1) (λw hw=>by
   have:=hn w (Ba8 hl h4 hw) λe=>hno (e ▸ hw)
   omega) v hv
  omega
section
variable{l:List V3}{T:V3->V3}(h:Sim l T)
include h
theorem Sim.inj{u w:V3}(hu:u∈l)(hw:w∈l)(e:T u=T w):u=w:=by
 have key:∀n:V3,dot n u=dot n w:=λn=>by
  obtain⟨n',k,hk,hn⟩:=h.dn n;have e':=hn u hu w hw;rw[e,Qku] at e'
  have:=la2 hk e'.symm
  omega
 have k1:=key ⟨1,0,0⟩;have k2:=key ⟨0,1,0⟩;have k3:=key ⟨0,0,1⟩;simp only[dot] at k1 k2 k3;exact Qkao (by omega) (by omega) (by omega)
theorem Qd3{u w x v n:V3}(h3:N3 u w x≠⟨0,0,0⟩)(e1:dot n w=dot n u)(e2:dot n x=dot n u)(hv:dot n v≠dot n u):dot (N3 u w x) (d9 v u)≠0:=λe=>by
 have hN:dot (N3 u w x) (N3 u w x)>0:=ga9 h3;have c1:c8 n (N3 u w x)=⟨0,0,0⟩:=ua5 (by rw[K7];omega) (by rw[K7];omega)
 have d1:=sa1 (d:=d9 v u) c1;rw[e,Qkd,K7] at d1
 have:=la2 hN d1
 omega
omit h in
theorem sd4(u w x:V3):dot (N3 u w x) w=dot (N3 u w x) u/\dot (N3 u w x) x=dot (N3 u w x) u:=by
 constructor<;>simp only[N3,dot,c8,d9]<;>grind
theorem Sim.sol:Sol l↔Sol (l.map T):=by
 constructor
 ·rintro⟨a,c,k,v,ha,hc,hk,hv,hne⟩;have h3:N3 a c k≠⟨0,0,0⟩:=λe=>hne (by rw[e];simp[dot])
  obtain⟨n',m,hm,hn⟩:=h.dn (N3 a c k);obtain⟨p1,p2⟩:=sd4 a c k;refine⟨T a,T c,T k,T v,Qkb.2 ⟨a,ha,rfl⟩,Qkb.2 ⟨c,hc,rfl⟩,Qkb.2 ⟨k,hk,rfl⟩,Qkb.2 ⟨v,hv,rfl⟩,Qd3 h (n:=n') ((h.n3 a ha c hc k hk).1 h3) ?_ ?_ ?_⟩
  ·have e:=hn c hc a ha;rw[p1,Qku,Qkd] at e;omega
  ·have e:=hn k hk a ha;rw[p2,Qku,Qkd] at e;omega
  ·intro e';have e:=hn v hv a ha
   have:=la2 hm (show m*(dot (N3 a c k) v-dot (N3 a c k) a)=0 by omega)
   rw[K7] at hne;omega
 ·rintro⟨a',c',k',v',ha',hc',hk',hv',hne⟩;obtain⟨a,ha,rfl⟩:=Qkb.1 ha';obtain⟨c,hc,rfl⟩:=Qkb.1 hc';obtain⟨k,hk,rfl⟩:=Qkb.1 hk';obtain⟨v,hv,rfl⟩:=Qkb.1 hv';have h3:N3 (T a) (T c) (T k)≠⟨0,0,0⟩:=λe=>hne (by rw[e];simp[dot])
  obtain⟨n,m,hm,hn⟩:=h.up (N3 (T a) (T c) (T k));obtain⟨p1,p2⟩:=sd4 (T a) (T c) (T k);refine⟨a,c,k,v,ha,hc,hk,hv,Qd3 h (n:=n) ((h.n3 a ha c hc k hk).2 h3) ?_ ?_ ?_⟩
  ·have e:=hn c hc a ha;rw[p1,Qku,Qkd] at e;omega
  ·have e:=hn k hk a ha;rw[p2,Qku,Qkd] at e;omega
  ·intro e';have e:=hn v hv a ha
   have:=la2 hm (show m*(dot (N3 (T a) (T c) (T k)) (T v)-dot (N3 (T a) (T c) (T k)) (T a))=0 by omega)
   rw[K7] at hne;omega
theorem Sim.ext(hs:Sol l){v:V3}(hv:v∈l):v∈ea8 (F0 l) l↔T v∈ea8 (F0 (l.map T)) (l.map T):=by
 rw[Qb2 h.li hs hv,Qb2 h.mi ((Sim.sol h).1 hs) (Qkb.2 ⟨v,hv,rfl⟩)];constructor
 ·rintro⟨n,hn⟩;obtain⟨n',k,hk,hd⟩:=h.dn n;refine⟨n',λw' hw' hne=>?_⟩
  obtain⟨w,hw,rfl⟩:=Qkb.1 hw';have e:=hd w hw v hv
  have:=Qkk hk (show dot n w-dot n v<0 by have:=hn w hw λe=>hne (by rw[e]);omega)
  omega
 ·rintro⟨n',hn⟩;obtain⟨n,k,hk,hd⟩:=h.up n';refine⟨n,λw hw hne=>?_⟩
  have e:=hd w hw v hv
  have:=Qkk hk (show dot n' (T w)-dot n' (T v)<0 by have:=hn (T w) (Qkb.2 ⟨w,hw,rfl⟩) λe=>hne (Sim.inj h hw hv e);omega)
  omega
end
structure Mat(l:List V3)(T:V3->V3)(r0 r1 r2:V3)(D:Int):Prop where
 d:0<D
 det:0<dot r0 (c8 r1 r2)
 t:∀u∈l,∀w∈l,D*((T u).x-(T w).x)=dot r0 (d9 u w)/\D*((T u).y-(T w).y)=dot r1 (d9 u w)/\D*((T u).z-(T w).z)=dot r2 (d9 u w)
theorem Qd4(r0 r1 r2 n d:V3):dot ⟨dot n (c8 r1 r2),dot n (c8 r2 r0),dot n (c8 r0 r1)⟩ ⟨dot r0 d,dot r1 d,dot r2 d⟩=dot r0 (c8 r1 r2)*dot n d:=by simp only[dot,c8];grind
theorem ld9(r0 r1 r2 a c:V3):c8 ⟨dot r0 a,dot r1 a,dot r2 a⟩ ⟨dot r0 c,dot r1 c,dot r2 c⟩=⟨dot (c8 r1 r2) (c8 a c),dot (c8 r2 r0) (c8 a c),dot (c8 r0 r1) (c8 a c)⟩:=by
 refine Qkao ?_ ?_ ?_<;>simp only[dot,c8]<;>grind
theorem Bd5(r0 r1 r2 v:V3):(dot r0 (c8 r1 r2)*v.x=dot (c8 r1 r2) v*r0.x+dot (c8 r2 r0) v*r1.x+dot (c8 r0 r1) v*r2.x)/\(dot r0 (c8 r1 r2)*v.y=dot (c8 r1 r2) v*r0.y+dot (c8 r2 r0) v*r1.y+dot (c8 r0 r1) v*r2.y)/\(dot r0 (c8 r1 r2)*v.z=dot (c8 r1 r2) v*r0.z+dot (c8 r2 r0) v*r1.z+dot (c8 r0 r1) v*r2.z):=by
 refine⟨?_,?_,?_⟩<;>simp only[dot,c8]<;>grind
theorem da6{k x:Int}(hk:0<k)(h:k*x=0):x=0:=(Qkf.1 h).resolve_left (by omega)
theorem fe3{l:List V3}{T:V3->V3}{r0 r1 r2:V3}{D:Int}(h:Mat l T r0 r1 r2 D)(hl:l.all inV=true)(hm:(l.map T).all inV=true):Sim l T:=by
 refine⟨hl,hm,λn=>⟨⟨D*dot n (c8 r1 r2),D*dot n (c8 r2 r0),D*dot n (c8 r0 r1)⟩,dot r0 (c8 r1 r2),h.det,λu hu w hw=>?_⟩,λn'=>⟨⟨n'.x*r0.x+n'.y*r1.x+n'.z*r2.x,n'.x*r0.y+n'.y*r1.y+n'.z*r2.y,n'.x*r0.z+n'.y*r1.z+n'.z*r2.z⟩,D,h.d,λu hu w hw=>?_⟩,λu hu w hw x hx=>?_⟩
 ·obtain⟨t1,t2,t3⟩:=h.t u hu w hw;have e:=Qd4 r0 r1 r2 n (d9 u w);rw[<- t1,<- t2,<- t3,K7 n u w] at e;rw[<- e];generalize dot n (c8 r1 r2)=A;generalize dot n (c8 r2 r0)=B;generalize dot n (c8 r0 r1)=C;simp only[dot]
  grind
 ·obtain⟨t1,t2,t3⟩:=h.t u hu w hw;have e:dot ⟨n'.x*r0.x+n'.y*r1.x+n'.z*r2.x,n'.x*r0.y+n'.y*r1.y+n'.z*r2.y,n'.x*r0.z+n'.y*r1.z+n'.z*r2.z⟩ u-dot ⟨n'.x*r0.x+n'.y*r1.x+n'.z*r2.x,n'.x*r0.y+n'.y*r1.y+n'.z*r2.y,n'.x*r0.z+n'.y*r1.z+n'.z*r2.z⟩ w=n'.x*dot r0 (d9 u w)+n'.y*dot r1 (d9 u w)+n'.z*dot r2 (d9 u w):=by simp only[dot,d9];grind
  rw[e,<- t1,<- t2,<- t3];simp only[dot]
  grind
 ·obtain⟨t1,t2,t3⟩:=h.t w hw u hu;obtain⟨s1,s2,s3⟩:=h.t x hx u hu;have e:=ld9 r0 r1 r2 (d9 w u) (d9 x u);rw[<- t1,<- t2,<- t3,<- s1,<- s2,<- s3] at e;have eN:c8 (d9 w u) (d9 x u)=N3 u w x:=rfl;rw[eN] at e;have eT:c8 ⟨D*((T w).x-(T u).x),D*((T w).y-(T u).y),D*((T w).z-(T u).z)⟩ ⟨D*((T x).x-(T u).x),D*((T x).y-(T u).y),D*((T x).z-(T u).z)⟩=⟨D*(D*(N3 (T u) (T w) (T x)).x),D*(D*(N3 (T u) (T w) (T x)).y),D*(D*(N3 (T u) (T w) (T x)).z)⟩:=by
   refine Qkao ?_ ?_ ?_<;>simp only[N3,c8,d9]<;>grind
  rw[eT] at e;simp only[V3.mk.injEq] at e;obtain⟨e1,e2,e3⟩:=e;obtain⟨b1,b2,b3⟩:=Bd5 r0 r1 r2 (N3 u w x);have hd:=h.d;have hdet:=h.det;constructor
  ·intro hne h0;rw[h0] at e1 e2 e3;simp only[Qkd] at e1 e2 e3;rw[<- e1,<- e2,<- e3] at b1 b2 b3;simp only[Qkv,Qkr] at b1 b2 b3;exact hne (Qkao (da6 hdet b1) (da6 hdet b2) (da6 hdet b3))
  ·intro hne h0;rw[h0] at e1 e2 e3;have z:∀v:V3,dot v ⟨0,0,0⟩=0:=λv=>by simp[dot]
   rw[z] at e1 e2 e3;exact hne (Qkao (da6 hd (da6 hd e1)) (da6 hd (da6 hd e2)) (da6 hd (da6 hd e3)))
theorem Qd5 {r0 r1 r2 : V3} {D : Int} (h00 : dot r0 r0 = D * D) (h11 : dot r1 r1 = D * D) (h22 : dot r2 r2 = D * D) (h01 : dot r0 r1 = 0) (h02 : dot r0 r2 = 0) (h12 : dot r1 r2 = 0) (hdet : dot r0 (c8 r1 r2) ≠ 0) (d : V3) :
  dot r0 d*dot r0 d+dot r1 d*dot r1 d+dot r2 d*dot r2 d=D*D*dot d d:=by
 have key:(⟨D*D*d.x-(dot r0 d*r0.x+dot r1 d*r1.x+dot r2 d*r2.x),D*D*d.y-(dot r0 d*r0.y+dot r1 d*r1.y+dot r2 d*r2.y),D*D*d.z-(dot r0 d*r0.z+dot r1 d*r1.z+dot r2 d*r2.z)⟩:V3)=⟨0,0,0⟩:=by
  have ex:∀r:V3,dot r ⟨D*D*d.x-(dot r0 d*r0.x+dot r1 d*r1.x+dot r2 d*r2.x),D*D*d.y-(dot r0 d*r0.y+dot r1 d*r1.y+dot r2 d*r2.y),D*D*d.z-(dot r0 d*r0.z+dot r1 d*r1.z+dot r2 d*r2.z)⟩=D*D*dot r d-(dot r0 d*dot r r0+dot r1 d*dot r r1+dot r2 d*dot r r2):=λr=>by
   generalize dot r0 d=A;generalize dot r1 d=B;generalize dot r2 d=C;simp only[dot]
   grind
  have cm:∀a c:V3,dot a c=dot c a:=λa c=>by simp only[dot];grind
  refine Ua8 (p:=⟨r0,0⟩) (q:=⟨r1,0⟩) (s:=⟨r2,0⟩) hdet ?_ ?_ ?_
  ·rw[ex,h00,h01,h02];grind
  ·rw[ex,cm r1 r0,h01,h11,h12];grind
  ·rw[ex,cm r2 r0,cm r2 r1,h02,h12,h22];grind
 simp only[V3.mk.injEq] at key;obtain⟨k1,k2,k3⟩:=key;have e:D*D*dot d d-(dot r0 d*dot r0 d+dot r1 d*dot r1 d+dot r2 d*dot r2 d)=d.x*(D*D*d.x-(dot r0 d*r0.x+dot r1 d*r1.x+dot r2 d*r2.x))+d.y*(D*D*d.y-(dot r0 d*r0.y+dot r1 d*r1.y+dot r2 d*r2.y))+d.z*(D*D*d.z-(dot r0 d*r0.z+dot r1 d*r1.z+dot r2 d*r2.z)):=by
  simp only[dot]
  grind
 rw[k1,k2,k3] at e;simp only[Qkd,Qkr] at e;exact (Int.eq_of_sub_eq_zero e).symm
theorem cd6{l:List V3}(h48:l.length<=48)(hl:l.all inV=true):(Sol l->aa5 l=0)/\(¬ Sol l->aa5 l=11):=by
 refine⟨Ea8 h48 hl,λhn=>?_⟩
 by_cases h0:aa5 l=0
 ·exact (hn (Y9 h0).2.2).elim
 ·unfold aa5 at h0 ⊢;rw[if_neg (by omega),if_neg (by rw[<- List.not_all_eq_any_not,hl];simp)] at h0 ⊢
  split
  ·rfl
  ·rename_i h;rw[if_neg h] at h0;exact (h0 rfl).elim
section
variable{l:List V3}{T:V3->V3}(h:Sim l T)(h48:l.length<=48)
include h h48
theorem Sim.chk:aa5 (l.map T)=aa5 l:=by
 have h1:=cd6 h48 h.li;have h2:=cd6 (l:=l.map T) (by rw[Qkab];exact h48) h.mi
 by_cases hs:Sol l
 ·rw[h1.1 hs,h2.1 ((Sim.sol h).1 hs)]
 ·rw[h1.2 hs,h2.2 λk=>hs ((Sim.sol h).2 k)]
theorem Sim.plane{p p':Pln}(hp:p∈(ba4 l).1)(ok:okp p'=true)(hd:∀v∈l,dot p'.n (T v)<=p'.b)(on:∀v∈l,dot p.n v=p.b->dot p'.n (T v)=p'.b):p'∈(ba4 (l.map T)).1:=by
 have hc:=Sim.chk h h48;unfold ba4 at hp ⊢;rw[hc];by_cases h0:aa5 l=0
 ·rw[if_pos h0] at hp ⊢;have hs:=(Y9 h0).2.2;exact Sim.img h hs ((Sim.sol h).1 hs) hp ok hd on
 ·rw[if_neg h0] at hp;cases hp
end
theorem Qd6 {r0 r1 r2 : V3} {D : Int} (h00 : dot r0 r0 = D * D) (h11 : dot r1 r1 = D * D) (h22 : dot r2 r2 = D * D) (h01 : dot r0 r1 = 0) (h02 : dot r0 r2 = 0) (h12 : dot r1 r2 = 0) (hdet : dot r0 (c8 r1 r2) ≠ 0) (n d : V3) :
  dot r0 n*dot r0 d+dot r1 n*dot r1 d+dot r2 n*dot r2 d=D*D*dot n d:=by
 have l:=λv=>Qd5 h00 h11 h22 h01 h02 h12 hdet v
 have add:∀r:V3,dot r ⟨n.x+d.x,n.y+d.y,n.z+d.z⟩=dot r n+dot r d:=λr=>by simp only[dot];grind
 have e:=l ⟨n.x+d.x,n.y+d.y,n.z+d.z⟩;have e1:=l n;have e2:=l d;have sq:dot (⟨n.x+d.x,n.y+d.y,n.z+d.z⟩:V3) ⟨n.x+d.x,n.y+d.y,n.z+d.z⟩=dot n n+2*dot n d+dot d d:=by simp only[dot];grind
 rw[sq,add,add,add] at e;generalize dot r0 n=a0 at *
 generalize dot r1 n=a1 at *
 generalize dot r2 n=a2 at *
 generalize dot r0 d=c0 at *
 generalize dot r1 d=c1 at *
 generalize dot r2 d=c2 at *
 generalize dot n n=nn at *
 generalize dot d d=dd at *
 generalize dot n d=nd at *
 generalize D*D=DD at *
 have k:2*(a0*c0+a1*c1+a2*c2)=2*(DD*nd):=by grind
 omega
structure Rot(l:List V3)(T:V3->V3)(r0 r1 r2:V3)(D:Int):Prop extends Mat l T r0 r1 r2 D where
 h00:dot r0 r0=D*D
 h11:dot r1 r1=D*D
 h22:dot r2 r2=D*D
 h01:dot r0 r1=0
 h02:dot r0 r2=0
 h12:dot r1 r2=0
section
variable{l:List V3}{T:V3->V3}{r0 r1 r2:V3}{D:Int}(h:Rot l T r0 r1 r2 D)
include h
theorem Rot.dots(n d:V3):dot r0 n*dot r0 d+dot r1 n*dot r1 d+dot r2 n*dot r2 d=D*D*dot n d :=
 Qd6 h.h00 h.h11 h.h22 h.h01 h.h02 h.h12 (by have:=h.det;omega) n d
theorem Rot.same{u w:V3}(hu:u∈l)(hw:w∈l):dot (d9 (T u) (T w)) (d9 (T u) (T w))=dot (d9 u w) (d9 u w):=by
 obtain⟨t1,t2,t3⟩:=h.t u hu w hw;have e:=Rot.dots h (d9 u w) (d9 u w);rw[<- t1,<- t2,<- t3] at e;have f:D*((T u).x-(T w).x)*(D*((T u).x-(T w).x))+D*((T u).y-(T w).y)*(D*((T u).y-(T w).y))+D*((T u).z-(T w).z)*(D*((T u).z-(T w).z))=D*D*dot (d9 (T u) (T w)) (d9 (T u) (T w)):=by simp only[dot,d9];grind
 rw[f] at e;have hd:=Qkl h.d h.d;exact Qkt (by omega) e
theorem Rot.nrm{n n':V3}{g:Int}(e1:g*n'.x=dot r0 n)(e2:g*n'.y=dot r1 n)(e3:g*n'.z=dot r2 n){u w:V3}(hu:u∈l)(hw:w∈l):g*(dot n' (T u)-dot n' (T w))=D*(dot n u-dot n w):=by
 obtain⟨t1,t2,t3⟩:=h.t u hu w hw;have e:=Rot.dots h n (d9 u w);rw[<- t1,<- t2,<- t3,<- e1,<- e2,<- e3,K7] at e;have f:g*n'.x*(D*((T u).x-(T w).x))+g*n'.y*(D*((T u).y-(T w).y))+g*n'.z*(D*((T u).z-(T w).z))=D*(g*(dot n' (T u)-dot n' (T w))):=by simp only[dot];grind
 rw[f,Int.mul_assoc] at e;exact Qkt (by have:=h.d;omega) e
theorem Rot.plane (hl : l.all inV = true) (hm : (l.map T).all inV = true) (h48 : l.length ≤ 48) {p p' : Pln} {g : Int} (hp : p ∈ (ba4 l).1) (ok : okp p' = true) (hg : 0 < g) (e1 : g * p'.n.x = dot r0 p.n) (e2 : g * p'.n.y = dot r1 p.n) (e3 : g * p'.n.z = dot r2 p.n)
  {u:V3} (hu:u∈l) (on:dot p.n u=p.b) (on':dot p'.n (T u)=p'.b):p'∈(ba4 (l.map T)).1:=by
 have hs:=fe3 h.toMat hl hm;have hf:Ca6 l p:=by
  unfold ba4 at hp;by_cases h0:aa5 l=0
  ·rw[if_pos h0] at hp;exact (A2 hl p).1 hp
  ·rw[if_neg h0] at hp;cases hp
 have hd:=h.d;refine Sim.plane hs h48 hp ok (λv hv=>?_) λv hv hv'=>?_
 ·have e:=Rot.nrm h e1 e2 e3 hv hu;have k:=ld7 hd (show dot p.n v-dot p.n u<=0 by have:=hf.hd v hv;omega)
  apply Qka;intro hno
  have:=Qkl hg (show 0<dot p'.n (T v)-dot p'.n (T u) by omega)
  omega
 ·have e:=Rot.nrm h e1 e2 e3 hv hu;rw[show dot p.n v-dot p.n u=0 by omega,Qkd] at e
  have:=la2 hg e
  omega
end
section
variable{l:List V3}{T:V3->V3}{r0 r1 r2:V3}{D:Int}(h:Rot l T r0 r1 r2 D)
include h
theorem Rot.off{n n' sft:V3}{g:Int}(e1:g*n'.x=dot r0 n)(e2:g*n'.y=dot r1 n)(e3:g*n'.z=dot r2 n){u:V3}(t:D*((T u).x-sft.x)=dot r0 u/\D*((T u).y-sft.y)=dot r1 u/\D*((T u).z-sft.z)=dot r2 u):g*(dot n' (T u)-dot n' sft)=D*dot n u:=by
 obtain⟨t1,t2,t3⟩:=t;have e:=Rot.dots h n u;rw[<- t1,<- t2,<- t3,<- e1,<- e2,<- e3] at e;have f:g*n'.x*(D*((T u).x-sft.x))+g*n'.y*(D*((T u).y-sft.y))+g*n'.z*(D*((T u).z-sft.z))=D*(g*(dot n' (T u)-dot n' sft)):=by simp only[dot];grind
 rw[f,Int.mul_assoc] at e;exact Qkt (by have:=h.d;omega) e
end
def crs(n a c:V3):Int:=dot n (c8 a c)
def orp(n a c v:V3):Int:=crs n (d9 c a) (d9 v a)
theorem vc4(n a c v:V3):orp n a v c=-orp n a c v:=by simp only[orp,crs,dot,c8,d9];grind
theorem fe4(n a c v:V3):orp n c v a=orp n a c v:=by simp only[orp,crs,dot,c8,d9];grind
theorem Qd7(n a c v:V3):orp n a c v=crs n (d9 a v) (d9 c v):=by simp only[orp,crs,dot,c8,d9];grind
theorem md0(n a c:V3):orp n a c c=0:=by simp only[orp,crs,dot,c8,d9];grind
theorem Qd8(n a c:V3):orp n a c a=0:=by simp only[orp,crs,dot,c8,d9];grind
theorem sd5(a c:V3):dot a c=dot c a:=by simp only[dot];grind
theorem ze8{n a c v:V3}(hn:n≠⟨0,0,0⟩)(h1:dot a n=0)(h2:dot c n=0)(h3:dot v n=0):dot a (c8 c v)=0:=by
 apply Qka;intro h;exact hn (Ua8 (p:=⟨a,0⟩) (q:=⟨c,0⟩) (s:=⟨v,0⟩) h h1 h2 h3)
theorem Gc9 {n m a c v : V3} (hn : n ≠ ⟨0, 0, 0⟩) (h1 : dot a n = 0) (h2 : dot c n = 0) (h3 : dot v n = 0) (m1 : dot m a < 0) (m2 : dot m c < 0) (m3 : dot m v < 0)
  (c1:0<crs n a c) (c2:0<crs n c v):0<crs n a v:=by
 have e:crs n c v*dot m a+crs n v a*dot m c+crs n a c*dot m v=dot a (c8 c v)*dot m n:=by simp only[crs,dot,c8];grind
 rw[ze8 hn h1 h2 h3,Qkv] at e;have k1:=Qkk c2 m1;have k2:=Qkk c1 m3;have k3:0<crs n v a*dot m c:=by omega
 have k4:crs n v a<0:=by
  apply Qka;intro hno
  have:=Qkg (show 0<=crs n v a by omega) (show 0<=-dot m c by omega)
  rw[Qky] at this;omega
 have:crs n a v=-crs n v a:=by simp only[crs,dot,c8];grind
 omega
theorem fe5{n a c:V3}(hn:n≠⟨0,0,0⟩)(h1:dot n a=0)(h2:dot n c=0)(h:crs n a c=0):c8 a c=⟨0,0,0⟩:=by
 apply Qka;intro hne;have hp:=sa1 (d:=n) (ua5 h1 h2);rw[show dot n (c8 a c)=0 from h,Qkv] at hp
 rcases Qkf.1 hp with e|e
 ·have:=ga9 hne;omega
 ·have:=ga9 hn;omega
theorem Xb7{a c m:V3}(h:c8 a c=⟨0,0,0⟩)(m':V3):dot m c*dot m' a=dot m a*dot m' c:=by
 have e:dot m c*dot m' a-dot m a*dot m' c=-dot (c8 m m') (c8 a c):=by simp only[dot,c8];grind
 rw[h] at e;have z:dot (c8 m m') ⟨0,0,0⟩=0:=by simp[dot]
 rw[z] at e;omega
theorem sa2(m a c:V3):dot m (d9 a c)=dot m a-dot m c:=by simp only[dot,d9];grind
theorem ze9(n a c:V3):dot (d9 a c) n=dot n a-dot n c:=by simp only[dot,d9];grind
def Hi(X:List V3)(v m:V3):Prop:=∀w∈X,w≠v->dot m w<dot m v
theorem fe6 {X : List V3} (hX : ∀ v ∈ X, ∃ m, Hi X v m) {n a c v : V3} {k : Int} (hn : n ≠ ⟨0, 0, 0⟩) (ha : a ∈ X) (hc : c ∈ X) (hv : v ∈ X) (pa : dot n a = k) (pc : dot n c = k) (pv : dot n v = k)
  (h1:a≠c) (h2:a≠v) (h3:c≠v):orp n a c v≠0:=by
 intro h;have hz:=fe5 hn (by rw[sa2];omega) (by rw[sa2];omega) h
 obtain⟨m1,k1⟩:=hX a ha;obtain⟨m2,k2⟩:=hX c hc;obtain⟨m3,k3⟩:=hX v hv;have a1:=k1 c hc (Ne.symm h1);have a2:=k1 v hv (Ne.symm h2);have b1:=k2 a ha h1;have b2:=k2 v hv (Ne.symm h3);have c1:=k3 a ha h2;have c2:=k3 c hc h3;have e2:=Xb7 (m:=m1) hz m2;have e3:=Xb7 (m:=m1) hz m3;rw[sa2,sa2,sa2,sa2] at e2 e3;obtain⟨r,hr⟩:∃r,r=dot m1 a-dot m1 v:=⟨_,rfl⟩;obtain⟨s,hs⟩:∃s,s=dot m1 a-dot m1 c:=⟨_,rfl⟩;obtain⟨x2,hx2⟩:∃x,x=dot m2 c-dot m2 a:=⟨_,rfl⟩;obtain⟨y2,hy2⟩:∃x,x=dot m2 v-dot m2 a:=⟨_,rfl⟩;obtain⟨x3,hx3⟩:∃x,x=dot m3 c-dot m3 a:=⟨_,rfl⟩;obtain⟨y3,hy3⟩:∃x,x=dot m3 v-dot m3 a:=⟨_,rfl⟩;rw[show dot m1 v-dot m1 a=-r by omega,show dot m1 c-dot m1 a=-s by omega,<- hx2,<- hy2,Qkaf,Qkaf] at e2
 rw[show dot m1 v-dot m1 a=-r by omega,show dot m1 c-dot m1 a=-s by omega,<- hx3,<- hy3,Qkaf,Qkaf] at e3
 have r0:0<r:=by omega
 have s0:0<s:=by omega
 have p1:0<x2:=by omega
 have p2:y2<x2:=by omega
 have p3:0<y3:=by omega
 have p4:x3<y3:=by omega
 have q2:r*x2=s*y2:=by omega
 have q3:r*x3=s*y3:=by omega
 have hrs:r<s:=by
  apply Qka;intro hno;have t1:s*y2<s*x2:=Qkag p2 s0;have t2:s*x2<=r*x2:=Qkq (by omega) (by omega)
  omega
 have t1:r*y3<s*y3:=Int.mul_lt_mul_of_pos_right hrs p3;have t2:r*x3<r*y3:=Qkag p4 r0;omega
structure Rim(X C:List V3)(n:V3)(k:Int):Prop where
 n0:n≠⟨0,0,0⟩
 hx:∀v∈X,∃m,Hi X v m
 sub:∀c∈C,c∈X/\dot n c=k
 nd:C.Nodup
 two:2<=C.length
def Edg(C:List V3)(n a c:V3):Prop:=a∈C/\c∈C/\a≠c/\∀v∈C,v≠a->v≠c->0<orp n a c v
def nxF(n a:V3):List V3->V3->V3
 |[],best=>best
 |w::l,best=>if (!eqV w a&&(eqV best a||decide (orp n a best w<0)))=true then nxF n a l w else nxF n a l best
def nxt(C:List V3)(n a:V3):V3:=nxF n a C a
theorem Edg.out{C:List V3}{n a c d:V3}(h1:Edg C n a c)(h2:Edg C n a d):c=d:=by
 apply Qka;intro hne;have e1:=h1.2.2.2 d h2.2.1 (Ne.symm h2.2.2.1) (Ne.symm hne);have e2:=h2.2.2.2 c h1.2.1 (Ne.symm h1.2.2.1) hne;rw[vc4] at e2;omega
theorem Edg.inn{C:List V3}{n a c d:V3}(h1:Edg C n a c)(h2:Edg C n d c):a=d:=by
 apply Qka;intro hne;have e1:=h1.2.2.2 d h2.1 (Ne.symm hne) h2.2.2.1;have e2:=h2.2.2.2 a h1.1 hne h1.2.2.1;rw[fe4,vc4] at e2;omega
section
variable{X C:List V3}{n:V3}{k:Int}(h:Rim X C n k)
include h
theorem Rim.perp{a c:V3}(ha:a∈C)(hc:c∈C):dot (d9 a c) n=0:=by
 rw[ze9,(h.sub a ha).2,(h.sub c hc).2,Qku]
theorem Rim.orp_tr{a c v w:V3}(ha:a∈C)(hc:c∈C)(hv:v∈C)(hw:w∈C)(ca:c≠a)(va:v≠a)(wa:w≠a)(h1:0<orp n a c v)(h2:0<orp n a v w):0<orp n a c w:=by
 obtain⟨m,hm⟩:=h.hx a (h.sub a ha).1;have m1:=hm c (h.sub c hc).1 ca;have m2:=hm v (h.sub v hv).1 va;have m3:=hm w (h.sub w hw).1 wa;exact Gc9 (m:=m) h.n0 (h.perp hc ha) (h.perp hv ha) (h.perp hw ha) (by rw[sa2];omega) (by rw[sa2];omega) (by rw[sa2];omega) h1 h2
theorem Rim.ne0{a c v:V3}(ha:a∈C)(hc:c∈C)(hv:v∈C)(h1:a≠c)(h2:a≠v)(h3:c≠v):orp n a c v≠0 :=
 fe6 h.hx h.n0 (h.sub a ha).1 (h.sub c hc).1 (h.sub v hv).1 (h.sub a ha).2 (h.sub c hc).2 (h.sub v hv).2 h1 h2 h3
def Fnd(D:List V3)(n a best:V3):Prop:=(best=a/\∀c∈D,c=a)\/(best∈D/\best≠a/\∀c∈D,c≠a->c≠best->0<orp n a best c)
theorem Rim.fnd{a:V3}(ha:a∈C):∀(l D:List V3) (best:V3),(∀x∈D,x∈C)->(∀x∈l,x∈C)->Fnd D n a best->Fnd (D++l) n a (nxF n a l best)
 |[],D,best,_,_,hf=>by rw[Qkac];exact hf
 |w::l,D,best,hD,hl,hf=>by
  have hw:=hl w (by simp)
  have rec':=λb hb=>Rim.fnd ha l (D++[w]) b (λx hx=>(Qki.1 hx).elim (hD x) λe=>by rw[Qkj.1 e];exact hw) (λx hx=>hl x (by simp[hx])) hb
  rw[List.append_assoc] at rec';unfold nxF;by_cases hwa:w=a
  ·rw[if_neg (by rw[show eqV w a=true from (kb0 _ _).2 hwa];simp)]
   refine rec' best ?_
   rcases hf with⟨e,hf⟩|⟨e1,e2,hf⟩
   ·exact .inl ⟨e,λc hc=>(Qki.1 hc).elim (hf c) λe=>(Qkj.1 e).trans hwa⟩
   ·exact .inr ⟨List.mem_append_left _ e1,e2,λc hc h1 h2=>(Qki.1 hc).elim (λk=>hf c k h1 h2) λe=>absurd ((Qkj.1 e).trans hwa) h1⟩
  ·have ew : eqV w a = false := by
    cases hq:eqV w a with
    |false=>rfl
    |true=>exact absurd ((kb0 _ _).1 hq) hwa
   rcases hf with⟨e,hf⟩|⟨e1,e2,hf⟩
   ·rw[if_pos (by rw[ew,(kb0 _ _).2 e];rfl)]
    refine rec' w (.inr ⟨by simp,hwa,λc hc h1 h2=>?_⟩)
    rcases Qki.1 hc with k|k
    ·exact absurd (hf c k) h1
    ·exact absurd (Qkj.1 k) h2
   ·have eb : eqV best a = false := by
     cases hq:eqV best a with
     |false=>rfl
     |true=>exact absurd ((kb0 _ _).1 hq) e2
    have hb:=hD best e1;by_cases ho:orp n a best w<0
    ·rw[if_pos (by rw[ew,eb,decide_eq_true ho];rfl)]
     have o1:0<orp n a w best:=by rw[vc4];omega
     refine rec' w (.inr ⟨by simp,hwa,λc hc h1 h2=>?_⟩)
     rcases Qki.1 hc with k|k
     ·by_cases hcb:c=best
      ·rw[hcb];exact o1
      ·exact h.orp_tr ha hw hb (hD c k) hwa e2 h1 o1 (hf c k h1 hcb)
     ·exact absurd (Qkj.1 k) h2
    ·rw[if_neg (by rw[ew,eb,decide_eq_false ho];simp)]
     refine rec' best (.inr ⟨List.mem_append_left _ e1,e2,λc hc h1 h2=>?_⟩)
     rcases Qki.1 hc with k|k
     ·exact hf c k h1 h2
     ·rw[Qkj.1 k] at h2 ⊢
      have:=h.ne0 ha hb hw (Ne.symm e2) (Ne.symm hwa) (Ne.symm h2)
      omega
theorem Rim.other(a:V3):∃c∈C,c≠a:=by
 apply Qka;intro hno
 have:C.length<=[a].length:=List.Nodup.length_le_of_subset h.nd λc hc=>by
  have:c=a:=Qka λhne=>hno ⟨c,hc,hne⟩
  simp[this]
 have:=h.two
 simp only[List.length_singleton] at *
 omega
theorem Rim.nx{a:V3}(ha:a∈C):Edg C n a (nxt C n a):=by
 have hf:=h.fnd ha C [] a (λx hx=>by cases hx) (λx hx=>hx) (.inl ⟨rfl,λc hc=>by cases hc⟩)
 rw[List.nil_append] at hf;obtain⟨c,hc,hca⟩:=h.other a
 rcases hf with⟨_,hf⟩|⟨e1,e2,hf⟩
 ·exact absurd (hf c hc) hca
 ·exact⟨ha,e1,Ne.symm e2,hf⟩
theorem Rim.nx_mem{a:V3}(ha:a∈C):nxt C n a∈C:=(h.nx ha).2.1
theorem Rim.nx_inj{a c:V3}(ha:a∈C)(hc:c∈C)(e:nxt C n a=nxt C n c):a=c:=(h.nx ha).inn (e ▸ h.nx hc)
def itr(C:List V3)(n a:V3):Nat->V3
 |0=>a
 |i+1=>nxt C n (itr C n a i)
theorem Rim.it_mem{a:V3}(ha:a∈C):∀i,itr C n a i∈C
 |0=>ha
 |i+1=>h.nx_mem (Rim.it_mem ha i)
theorem Rim.it_back{a:V3}(ha:a∈C):∀i j,itr C n a i=itr C n a (i+j)->a=itr C n a j
 |0,j,e=>by rw[Qkw] at e;exact e
 |i+1,j,e=>Rim.it_back ha i j (by
  rw[Nat.add_right_comm] at e;exact h.nx_inj (h.it_mem ha i) (h.it_mem ha (i+j)) e)
theorem Rim.it_ret{a:V3}(ha:a∈C){m:Nat}(hm:0<m)(e:itr C n a m=a):∀x∈C,∃i,i<m/\itr C n a i=x:=λx hx=>by
 apply Qka;intro hno;have hne:∀i,i<=m->itr C n a i≠x:=λi hi he=>by
  by_cases k:i<m
  ·exact hno ⟨i,k,he⟩
  ·have:i=m:=by omega
   subst this;exact hno ⟨0,hm,by rw[<- he,e];rfl⟩
 obtain⟨w,hw⟩:=h.hx x (h.sub x hx).1;have hlow:∀i,i<=m->dot w (d9 (itr C n a i) x)<0:=λi hi=>by
  have:=hw _ (h.sub _ (h.it_mem ha i)).1 (hne i hi)
  rw[sa2];omega
 have hstep:∀i,i+1<=m->0<crs n (d9 (itr C n a i) x) (d9 (itr C n a (i+1)) x):=λi hi=>by
  rw[<- Qd7];exact (h.nx (h.it_mem ha i)).2.2.2 x hx (Ne.symm (hne i (by omega))) (Ne.symm (hne (i+1) hi))
 have key:∀j,j+1<=m->0<crs n (d9 (itr C n a 0) x) (d9 (itr C n a (j+1)) x):=λj=>by
  induction j with
  |zero=>exact hstep 0
  |succ j ih=>exact λhj=>Gc9 (m:=w) h.n0 (h.perp (h.it_mem ha _) hx) (h.perp (h.it_mem ha _) hx) (h.perp (h.it_mem ha _) hx) (hlow 0 (by omega)) (hlow (j+1) (by omega)) (hlow (j+2) hj) (ih (by omega)) (hstep (j+1) hj)
 have:=key (m-1) (by omega)
 rw[show m-1+1=m by omega,e] at this
 have z:crs n (d9 a x) (d9 a x)=0:=by simp only[crs,dot,c8,d9];grind
 have:0<crs n (d9 a x) (d9 a x):=this
 omega
theorem Rim.it_len{a:V3}(ha:a∈C){m:Nat}(hm:0<m)(e:itr C n a m=a):C.length<=m:=by
 have:=List.Nodup.length_le_of_subset h.nd (l₂:=(List.range m).map (itr C n a)) λx hx=>by
  obtain⟨i,hi,rfl⟩:=h.it_ret ha hm e x hx;exact Qkb.2 ⟨i,Qkan.2 hi,rfl⟩
 rw[Qkab,Qkah] at this;exact this
theorem Rim.it_nd{a:V3}(ha:a∈C):((List.range C.length).map (itr C n a)).Nodup:=by
 unfold List.Nodup;rw[List.pairwise_map];refine List.Pairwise.imp_of_mem (λ{i j} hi hj hij e=>?_) List.pairwise_lt_range
 have hj':=Qkan.1 hj
 have:=h.it_back ha i (j-i) (by rw[show i+(j-i)=j by omega];exact e)
 have:=h.it_len ha (m:=j-i) (by omega) this.symm
 omega
theorem Rim.it_perm{a:V3}(ha:a∈C):((List.range C.length).map (itr C n a)).Perm C:=by
 refine cd2 (h.it_nd ha) h.nd (λx hx=>?_) (by rw[Qkab,Qkah];exact Nat.le_refl _)
 obtain⟨i,_,rfl⟩:=Qkb.1 hx;exact h.it_mem ha i
theorem Rim.it_end{a:V3}(ha:a∈C):itr C n a C.length=a:=by
 have:=(h.it_perm ha).mem_iff.2 (h.it_mem ha C.length)
 obtain⟨i,hi,e⟩:=Qkb.1 this;have hi:=Qkan.1 hi;have hb:=h.it_back ha i (C.length-i) (by rw[show i+(C.length-i)=C.length by omega];exact e)
 have:=h.it_len ha (m:=C.length-i) (by omega) hb.symm
 have:i=0:=by omega
 subst this;exact e.symm
theorem Rim.nx_perm:(C.map (nxt C n)).Perm C:=by
 refine cd2 ?_ h.nd (λx hx=>?_) (by rw[Qkab];exact Nat.le_refl _)
 ·unfold List.Nodup;rw[List.pairwise_map];exact List.Pairwise.imp_of_mem (λ{a c} ha hc hne e=>hne (h.nx_inj ha hc e)) h.nd
 ·obtain⟨a,ha,rfl⟩:=Qkb.1 hx;exact h.nx_mem ha
theorem Rim.sig_nx(f:V3->Int):sig C (λa=>f (nxt C n a))=sig C f:=by rw[<- jc4 (nxt C n) f,vc0 h.nx_perm]
theorem Rim.sig_it(f:V3->Int){a:V3}(ha:a∈C):sig C f=sig (List.range C.length) (λi=>f (itr C n a i)):=by rw[<- jc4 (itr C n a) f,vc0 (h.it_perm ha)]
end
def AR(C:List V3)(n d:V3):Int:=sig C λa=>dot (c8 a (nxt C n a)) d
def D3(a c v:V3):Int:=dot (c8 a c) v
theorem Qd9(C:List V3)(n d e:V3):AR C n (d9 d e)=AR C n d-AR C n e:=by
 unfold AR;rw[<- xb3];exact N5 λa _=>sa2 _ _ _
theorem Rd0(C:List V3)(n d:V3)(k:Int):AR C n ⟨k*d.x,k*d.y,k*d.z⟩=k*AR C n d:=by
 unfold AR;rw[<- sd0];exact N5 λa _=>by simp only[dot];grind
section
variable{X C:List V3}{n:V3}{k:Int}(h:Rim X C n k)
include h
theorem Rim.ar_o(o d:V3):sig C (λa=>D3 (d9 a o) (d9 (nxt C n a) o) d)=AR C n d:=by
 have e:∀a c:V3,D3 (d9 a o) (d9 c o) d=dot (c8 a c) d-(dot (c8 o c) d-dot (c8 o a) d):=λa c=>by simp only[D3,dot,c8,d9];grind
 have h1:sig C (λa=>D3 (d9 a o) (d9 (nxt C n a) o) d)=sig C (λa=>dot (c8 a (nxt C n a)) d-(dot (c8 o (nxt C n a)) d-dot (c8 o a) d)):=N5 λa _=>e a _
 rw[h1,xb3,xb3,h.sig_nx (λc=>dot (c8 o c) d)]
 show AR C n d-_=_;omega
theorem Rim.ne:∃a,a∈C:=by
 obtain⟨c,hc,_⟩:=h.other ⟨0,0,0⟩;exact⟨c,hc⟩
theorem Rim.ar_perp{d:V3}(hd:dot d n=0):AR C n d=0:=by
 obtain⟨o,ho⟩:=h.ne;rw[<- h.ar_o o d];refine Ba7 λa ha=>?_
 have:=ze8 h.n0 hd (h.perp ha ho) (h.perp (h.nx_mem ha) ho)
 rw[show D3 (d9 a o) (d9 (nxt C n a) o) d=dot d (c8 (d9 a o) (d9 (nxt C n a) o)) from sd5 _ _]
 exact this
theorem Rim.ar_n(d:V3):dot n n*AR C n d=dot n d*AR C n n:=by
 have e:AR C n (d9 ⟨dot n n*d.x,dot n n*d.y,dot n n*d.z⟩ ⟨dot n d*n.x,dot n d*n.y,dot n d*n.z⟩)=0:=h.ar_perp (by simp only[dot,d9];grind)
 rw[Qd9,Rd0,Rd0] at e;omega
theorem Rim.ar_pos(h3:3<=C.length):0<AR C n n:=by
 obtain⟨o,ho⟩:=h.ne;rw[<- h.ar_o o n];have term:∀a∈C,D3 (d9 a o) (d9 (nxt C n a) o) n=orp n a (nxt C n a) o:=λa _=>by rw[Qd7];simp only[D3,crs];exact sd5 _ _
 have nn:∀a∈C,0<=D3 (d9 a o) (d9 (nxt C n a) o) n:=λa ha=>by
  rw[term a ha];by_cases e1:o=a
  ·rw[e1,Qd8];exact Qkn _
  ·by_cases e2:o=nxt C n a
   ·rw[<- e2,md0];exact Qkn _
   ·have:=(h.nx ha).2.2.2 o ho e1 e2;omega
 -- the corner behind the next one
 have ha:=h.nx_mem ho;have hne:o≠nxt C n o:=(h.nx ho).2.2.1;have hne2:o≠nxt C n (nxt C n o):=λe=>by
  have:=h.it_len ho (m:=2) (by omega) e.symm
  omega
 have hp:0<D3 (d9 (nxt C n o) o) (d9 (nxt C n (nxt C n o)) o) n:=by
  rw[term _ ha];exact (h.nx ha).2.2.2 o ho hne hne2
 have hsum:∀(l:List V3),(∀a∈l,0<=D3 (d9 a o) (d9 (nxt C n a) o) n)->nxt C n o∈l->0<sig l (λa=>D3 (d9 a o) (d9 (nxt C n a) o) n):=λl=>by
  induction l with
  |nil=>intro _ hx;cases hx
  |cons x l ih =>
   intro hl hx;rw[m8];have h1:=hl x (by simp)
   have h2:0<=sig l (λa=>D3 (d9 a o) (d9 (nxt C n a) o) n):=vc1 λa ha=>hl a (by simp[ha])
   rcases Qke.1 hx with e|hx
   ·rw[e] at hp;omega
   ·have:=ih (λa ha=>hl a (by simp[ha])) hx;omega
 exact hsum C nn ha
theorem Rim.cone(h3:3<=C.length){c:V3}(hc:dot n c=k)(o:V3):(dot n o<k->0<AR C n (d9 c o))/\(dot n o=k->AR C n (d9 c o)=0)/\(k<dot n o->AR C n (d9 c o)<0):=by
 have e:=h.ar_n (d9 c o);rw[sa2,hc] at e;have hp:=h.ar_pos h3;have hn:=ga9 h.n0;refine⟨λhk=>?_,λhk=>?_,λhk=>?_⟩
 ·have:=Qkl (show 0<k-dot n o by omega) hp
  apply Qka;intro hno
  have:=Qkg (show 0<=dot n n by omega) (show 0<=-AR C n (d9 c o) by omega)
  rw[Qky] at this;omega
 ·rw[show k-dot n o=0 by omega,Qkv] at e
  exact (Qkf.1 e).resolve_left (by omega)
 ·have:=Qkl (show 0<dot n o-k by omega) hp
  apply Qka;intro hno;have h1:=Qkg (show 0<=dot n n by omega) (show 0<=AR C n (d9 c o) by omega)
  have:(dot n o-k)*AR C n n=-((k-dot n o)*AR C n n):=by rw[<- Qkaf];congr 1;omega
  omega
theorem Rim.sum_edges(f:V3->V3->Int):sig C (λa=>sig C (λc=>@ite _ (Edg C n a c) (Classical.propDecidable _) (f a c) 0))=sig C (λa=>f a (nxt C n a)):=by
 refine N5 λa ha=>?_
 rw[Gb7 h.nd (h.nx_mem ha) λc hc hne=>?_]
 ·rw[if_pos (h.nx ha)]
 ·rw[if_neg λhe=>hne (he.out (h.nx ha))]
end
theorem Rim.fan{X C:List V3}{n:V3}{k:Int}(h:Rim X C n k){a:V3}(ha:a∈C):sig (List.range (C.length-2)) (λi=>D3 a (itr C n a (i+1)) (itr C n a (i+2)))=AR C n a:=by
 have e1:AR C n a=sig (List.range C.length) (λi=>dot (c8 (itr C n a i) (itr C n a (i+1))) a):=h.sig_it (λv=>dot (c8 v (nxt C n v)) a) ha
 rw[e1];have h2:=h.two;obtain⟨m,hm⟩:∃m,C.length=m+2:=⟨C.length-2,by omega⟩
 rw[hm,show m+2-2=m by omega]
 have hend:=h.it_end ha;rw[hm] at hend;have hr:List.range (m+2)=0::(List.range m).map (·+1)++[m+1]:=by
  rw[List.range_succ,List.range_succ_eq_map]
 rw[hr,List.cons_append,m8,jc3,jc4,m8,Za1];have z1:dot (c8 (itr C n a 0) (itr C n a (0+1))) a=0:=by
  show dot (c8 a _) a=0;simp only[dot,c8];grind
 have z2:dot (c8 (itr C n a (m+1)) (itr C n a (m+1+1))) a=0:=by
  rw[show m+1+1=m+2 from rfl,hend]
  simp only[dot,c8];grind
 rw[z1,z2,Int.zero_add,Qkr,Qkr];exact N5 λi _=>by simp only[D3,dot,c8];grind
structure Pol(X:List V3):Prop where
 iv:X.all inV=true
 sol:Sol X
 nd:X.Nodup
 ex:∀v∈X,∃m,Hi X v m
def onF(p:Pln)(X:List V3):List V3:=X.filter λv=>decide (dot p.n v=p.b)
theorem J9{p:Pln}{X:List V3}{v:V3}:v∈onF p X↔v∈X/\dot p.n v=p.b:=by unfold onF;rw[Qkh,decide_eq_true_eq]
theorem se8(x:Int):0<=x*x:=by rw[<- Int.natAbs_mul_self];exact Int.natCast_nonneg _
theorem vc5{α:Type}(s h:α->Int):∀l:List α,l≠[]->(∀x∈l,0<h x)->∃x∈l,∀y∈l,s x*h y<=s y*h x
 |[],hn,_=>absurd rfl hn
 |[x],_,_=>⟨x,by simp,λy hy=>by rw[Qkj.1 hy];exact Qkn _⟩
 |x::y::l,_,hp=>by
  obtain⟨z,hz,hm⟩:=vc5 s h (y::l) (by simp) λa ha=>hp a (by simp only[Qke] at ha ⊢;exact .inr ha)
  have px:=hp x (by simp)
  have pz:=hp z (by simp only[Qke] at hz ⊢;exact .inr hz)
  by_cases hc:s z*h x<=s x*h z
  ·refine⟨z,by simp only[Qke] at hz ⊢;exact .inr hz,λa ha=>?_⟩
   rcases Qke.1 ha with rfl|ha
   ·exact hc
   ·exact hm a ha
  ·refine⟨x,by simp,λa ha=>?_⟩
   rcases Qke.1 ha with rfl|ha
   ·exact Qkn _
   ·have h1:=hm a ha;have pa:=hp a (by simp only[Qke] at ha ⊢;exact .inr ha)
    have k1:s x*h z*h a<=s z*h x*h a:=Qkq (by omega) (by omega)
    have k2:s z*h a*h x<=s a*h z*h x:=Qkq h1 (by omega)
    have k3:h z*(s x*h a)<=h z*(s a*h x):=by grind
    exact Int.le_of_mul_le_mul_left k3 pz
section
variable{X:List V3}(hX:Pol X)
include hX
theorem Pol.lens{p:Pln}(hp:Ca6 X p):3<=(onF p X).length:=by
 obtain⟨u,w,x,hu,hw,hx,h3,e1,e2,e3⟩:=hp.on;have n1:u≠w:=λe=>h3 (by subst e;refine Qkao ?_ ?_ ?_<;>simp only[N3,c8,d9]<;>grind)
 have n2:u≠x:=λe=>h3 (by subst e;refine Qkao ?_ ?_ ?_<;>simp only[N3,c8,d9]<;>grind)
 have n3:w≠x:=λe=>h3 (by subst e;refine Qkao ?_ ?_ ?_<;>simp only[N3,c8,d9]<;>grind)
 have hnd:[u,w,x].Nodup:=by simp[n1,n2,n3]
 exact List.Nodup.length_le_of_subset hnd λv hv=>by
  simp only[Qke,Qkaa,or_false] at hv
  rcases hv with rfl|rfl|rfl
  ·exact J9.2 ⟨hu,e1⟩
  ·exact J9.2 ⟨hw,e2⟩
  ·exact J9.2 ⟨hx,e3⟩
theorem Pol.rim{p:Pln}(hp:Ca6 X p):Rim X (onF p X) p.n p.b :=
 ⟨Ya8 hp.ok,hX.ex,λc hc=>J9.1 hc,hX.nd.filter _,by have:=hX.lens hp;omega⟩
theorem Pol.third{p:Pln}(hp:Ca6 X p)(a c:V3):∃v∈onF p X,v≠a/\v≠c:=by
 apply Qka;intro hno
 have:(onF p X).length<=[a,c].length:=List.Nodup.length_le_of_subset (hX.nd.filter _) λv hv=>by
  simp only[Qke,Qkaa,or_false];apply Qka;intro hne;exact hno ⟨v,hv,λe=>hne (.inl e),λe=>hne (.inr e)⟩
 have:=hX.lens hp
 simp only[List.length_cons,List.length_nil] at *
 omega
theorem Pol.uni{p q:Pln}(hp:Ca6 X p)(hq:Ca6 X q){a c:V3}(e1:Edg (onF p X) p.n a c)(e2:Edg (onF q X) q.n a c):p=q:=by
 obtain⟨b1,hb1,ba1,bc1⟩:=hX.third hp a c;obtain⟨b2,hb2,ba2,bc2⟩:=hX.third hq a c;have s1:=e1.2.2.2 b1 hb1 ba1 bc1;have s2:=e2.2.2.2 b2 hb2 ba2 bc2;have pa:=(J9.1 e1.1).2;have pc:=(J9.1 e1.2.1).2;have qa:=(J9.1 e2.1).2;have qc:=(J9.1 e2.2.1).2;obtain⟨x1,p1⟩:=J9.1 hb1;obtain⟨x2,q2⟩:=J9.1 hb2;have c1:=λe=>sa1 (d:=e) (ua5 (n:=p.n) (a:=d9 c a) (c:=d9 b1 a) (by rw[sa2];omega) (by rw[sa2];omega))
 have c2:=λe=>sa1 (d:=e) (ua5 (n:=q.n) (a:=d9 c a) (c:=d9 b2 a) (by rw[sa2];omega) (by rw[sa2];omega))
 have t1:0<dot p.n (c8 (d9 c a) (d9 b1 a)):=s1;have t2:0<dot q.n (c8 (d9 c a) (d9 b2 a)):=s2;have hd1:=hp.hd b2 x2;by_cases hon:dot p.n b2=p.b
 ·-- both planes go through the same nc0 corners
  have s3:0<dot p.n (c8 (d9 c a) (d9 b2 a)):=e1.2.2.2 b2 (J9.2 ⟨x2,hon⟩) ba2 bc2;have hN:(c8 (d9 c a) (d9 b2 a):V3)≠⟨0,0,0⟩:=λe=>by rw[e] at t2;simp[dot] at t2
  have c3:=λe=>sa1 (d:=e) (ua5 (n:=p.n) (a:=d9 c a) (c:=d9 b2 a) (by rw[sa2];omega) (by rw[sa2];omega))
  generalize c8 (d9 c a) (d9 b2 a)=N at *
  have hNN:=ga9 hN;have par:c8 p.n q.n=⟨0,0,0⟩:=by
   have d1:∀v:V3,dot v ⟨1,0,0⟩=v.x:=λv=>by simp[dot]
   have d2:∀v:V3,dot v ⟨0,1,0⟩=v.y:=λv=>by simp[dot]
   have d3:∀v:V3,dot v ⟨0,0,1⟩=v.z:=λv=>by simp[dot]
   have a1:=c3 ⟨1,0,0⟩;have a2:=c3 ⟨0,1,0⟩;have a3:=c3 ⟨0,0,1⟩;have f1:=c2 ⟨1,0,0⟩;have f2:=c2 ⟨0,1,0⟩;have f3:=c2 ⟨0,0,1⟩;rw[d1,d1] at a1 f1;rw[d2,d2] at a2 f2;rw[d3,d3] at a3 f3;have z:∀{t:Int},dot N N*t=0->t=0:=λe=>(Qkf.1 e).resolve_left (by omega)
   generalize dot N N=m at *
   generalize dot p.n N=x at *
   generalize dot q.n N=y at *
   refine Qkao (z (z ?_)) (z (z ?_)) (z (z ?_))
   ·have:m*(m*(c8 p.n q.n).x)=(m*p.n.y)*(m*q.n.z)-(m*p.n.z)*(m*q.n.y):=by simp only[c8];grind
    rw[this,a2,a3,f2,f3];grind
   ·have:m*(m*(c8 p.n q.n).y)=(m*p.n.z)*(m*q.n.x)-(m*p.n.x)*(m*q.n.z):=by simp only[c8];grind
    rw[this,a1,a3,f1,f3];grind
   ·have:m*(m*(c8 p.n q.n).z)=(m*p.n.x)*(m*q.n.y)-(m*p.n.y)*(m*q.n.x):=by simp only[c8];grind
    rw[this,a1,a2,f1,f2];grind
  have hn:q.n=p.n:=by
   rcases ad2 (sc9 hp.ok) (sc9 hq.ok) par with e|e
   ·exact e
   ·rw[e] at t2
    have:dot (neg p.n) N=-dot p.n N:=by simp only[dot,neg];grind
    omega
  have hb:q.b=p.b:=by rw[<- qa,hn,pa]
  cases p;cases q
  simp only at hn hb
  rw[hn,hb]
 ·exfalso;have k1:=c1 (d9 b2 a);have h1:dot p.n (d9 b2 a)<0:=by rw[sa2];omega
  have hN1:0<dot (c8 (d9 c a) (d9 b1 a)) (c8 (d9 c a) (d9 b1 a)):=ga9 λe=>by rw[e] at t1;simp[dot] at t1
  have m1:=Qkk hN1 h1;have r1:dot (c8 (d9 c a) (d9 b1 a)) (d9 b2 a)<0:=by
   apply Qka;intro hno
   have:=Qkg (show 0<=dot p.n (c8 (d9 c a) (d9 b1 a)) by omega) (show 0<=dot (c8 (d9 c a) (d9 b1 a)) (d9 b2 a) by omega)
   omega
  have k2:=c2 (d9 b1 a);have h2:dot q.n (d9 b1 a)<=0:=by rw[sa2];have:=hq.hd b1 x1;omega
  have hN2:0<dot (c8 (d9 c a) (d9 b2 a)) (c8 (d9 c a) (d9 b2 a)):=ga9 λe=>by rw[e] at t2;simp[dot] at t2
  have m2:=Qkg (show 0<=dot (c8 (d9 c a) (d9 b2 a)) (c8 (d9 c a) (d9 b2 a)) by omega) (show 0<=-dot q.n (d9 b1 a) by omega)
  rw[Qky] at m2;have e3:dot (c8 (d9 c a) (d9 b2 a)) (d9 b1 a)=-dot (c8 (d9 c a) (d9 b1 a)) (d9 b2 a):=by simp only[dot,c8,d9];grind
  have m3:=Qkl t2 (show 0<dot (c8 (d9 c a) (d9 b2 a)) (d9 b1 a) by omega)
  omega
end
section
variable{X:List V3}(hX:Pol X)
include hX
theorem Pol.rev{p:Pln}(hp:Ca6 X p){a c:V3}(he:Edg (onF p X) p.n a c):∃q,Ca6 X q/\Edg (onF q X) q.n c a:=by
 obtain⟨xa,pa⟩:=J9.1 he.1;obtain⟨xc,pc⟩:=J9.1 he.2.1;obtain⟨b1,hb1,ba1,bc1⟩:=hX.third hp a c;obtain⟨xb,pb⟩:=J9.1 hb1;have sb:=he.2.2.2 b1 hb1 ba1 bc1
 -- the points off the plane
 obtain⟨v0,hv0,hne⟩:=hX.sol.off (Ya8 hp.ok) p.b;have hle:=hp.hd;have hY:X.filter (λv=>decide (dot p.n v<p.b))≠[]:=λe=>by
  have:v0∈X.filter (λv=>decide (dot p.n v<p.b)):=Qkh.2 ⟨hv0,decide_eq_true (by have:=hle v0 hv0;omega)⟩
  rw[e] at this;cases this
 obtain⟨z,hz,hmin⟩:=vc5 (λv=>orp p.n a c v) (λv=>p.b-dot p.n v) _ hY λv hv=>by
  have:=of_decide_eq_true (Qkh.1 hv).2
  omega
 obtain⟨xz,hz'⟩:=Qkh.1 hz;have hzb:=of_decide_eq_true hz';have hmin':∀v∈X,dot p.n v<p.b->orp p.n a c z*(p.b-dot p.n v)<=orp p.n a c v*(p.b-dot p.n z):=λv hv hlt=>hmin v (Qkh.2 ⟨hv,decide_eq_true hlt⟩)
 clear hmin
 obtain⟨S,hS⟩:∃S,S=orp p.n a c z:=⟨_,rfl⟩;obtain⟨H,hH⟩:∃H,H=p.b-dot p.n z:=⟨_,rfl⟩;rw[<- hS,<- hH] at hmin';have hH0:0<H:=by omega
 -- how far a point pe8 within,and below
 have hs0:∀v∈X,dot p.n v=p.b->0<=orp p.n a c v:=λv hv on=>by
  by_cases e1:v=a
  ·rw[e1,Qd8];exact Qkn _
  ·by_cases e2:v=c
   ·rw[e2,md0];exact Qkn _
   ·have:=he.2.2.2 v (J9.2 ⟨hv,on⟩) e1 e2;omega
 obtain⟨u,hu⟩:∃u:V3,u=c8 p.n (d9 c a):=⟨_,rfl⟩;obtain⟨m,hm⟩:∃m:V3,m=⟨-(H*u.x)-S*p.n.x,-(H*u.y)-S*p.n.y,-(H*u.z)-S*p.n.z⟩:=⟨_,rfl⟩;have hsv:∀v,orp p.n a c v=dot u (d9 v a):=λv=>by rw[hu];simp only[orp,crs,dot,c8,d9];grind
 have hmv:∀v,dot m v-dot m a=-(H*orp p.n a c v)+S*(p.b-dot p.n v):=λv=>by
  rw[hsv,hm,<- pa];simp only[dot,d9];grind
 have hma:∀v∈X,dot m v<=dot m a:=λv hv=>by
  have e:=hmv v;by_cases hlt:dot p.n v<p.b
  ·have:=hmin' v hv hlt
   have:orp p.n a c v*H=H*orp p.n a c v:=Int.mul_comm _ _
   omega
  ·have on:dot p.n v=p.b:=by have:=hle v hv;omega
   have:=Qkg (show 0<=H by omega) (hs0 v hv on)
   rw[show p.b-dot p.n v=0 by omega,Qkd] at e
   omega
 have hmc:dot m c=dot m a:=by
  have e:=hmv c;rw[md0,Qkd,show p.b-dot p.n c=0 by omega,Qkd] at e
  omega
 have hmz:dot m z=dot m a:=by
  have e:=hmv z;rw[<- hS,<- hH,Int.mul_comm H S] at e;omega
 have hmb:dot m b1<dot m a:=by
  have e:=hmv b1
  have:=Qkl hH0 sb
  rw[show p.b-dot p.n b1=0 by omega,Qkd] at e
  omega
 have hdne:d9 c a≠⟨0,0,0⟩:=λe=>he.2.2.1 (by
  simp only[d9,V3.mk.injEq] at e;obtain⟨k1,k2,k3⟩:=e;exact Qkao (by omega) (by omega) (by omega))
 have hdd:=ga9 hdne;have hN3:N3 a c z≠⟨0,0,0⟩:=λe=>by
  have:=Xb7 (m:=d9 c a) (show c8 (d9 c a) (d9 z a)=⟨0,0,0⟩ from e) p.n
  rw[sa2 p.n c a,show dot p.n c-dot p.n a=0 by omega,Qkd,sa2 p.n z a] at this
  have:=(Qkf.1 this.symm).resolve_left (by omega)
  omega
 obtain⟨q,hq,qa,qc,qz⟩:=Qc1 hX.iv (n:=m) xa xc xz hN3 hma hmc hmz ⟨b1,xb,by omega⟩
 -- the plane's normal pe8 along m
 have hmne:m≠⟨0,0,0⟩:=λe=>by rw[e] at hmb;simp[dot] at hmb
 have hmm:=ga9 hmne;have hpar:c8 q.n m=⟨0,0,0⟩:=by
  have k1:c8 q.n (N3 a c z)=⟨0,0,0⟩:=ua5 (by rw[sa2];omega) (by rw[sa2];omega)
  have k2:c8 m (N3 a c z)=⟨0,0,0⟩:=ua5 (by rw[sa2];omega) (by rw[sa2];omega)
  have c1:=λe=>sa1 (d:=e) k1
  have c2:=λe=>sa1 (d:=e) k2
  have hNN:=ga9 hN3;generalize N3 a c z=N at *
  have d1:∀v:V3,dot v ⟨1,0,0⟩=v.x:=λv=>by simp[dot]
  have d2:∀v:V3,dot v ⟨0,1,0⟩=v.y:=λv=>by simp[dot]
  have d3:∀v:V3,dot v ⟨0,0,1⟩=v.z:=λv=>by simp[dot]
  have a1:=c1 ⟨1,0,0⟩;have a2:=c1 ⟨0,1,0⟩;have a3:=c1 ⟨0,0,1⟩;have f1:=c2 ⟨1,0,0⟩;have f2:=c2 ⟨0,1,0⟩;have f3:=c2 ⟨0,0,1⟩;rw[d1,d1] at a1 f1;rw[d2,d2] at a2 f2;rw[d3,d3] at a3 f3;have w:∀{t:Int},dot N N*t=0->t=0:=λe=>(Qkf.1 e).resolve_left (by omega)
  clear hmv hm hu hsv
  generalize dot N N=g at *
  generalize dot q.n N=x at *
  generalize dot m N=y at *
  refine Qkao (w (w ?_)) (w (w ?_)) (w (w ?_))
  ·have:g*(g*(c8 q.n m).x)=(g*q.n.y)*(g*m.z)-(g*q.n.z)*(g*m.y):=by simp only[c8];grind
   rw[this,a2,a3,f2,f3];grind
  ·have:g*(g*(c8 q.n m).y)=(g*q.n.z)*(g*m.x)-(g*q.n.x)*(g*m.z):=by simp only[c8];grind
   rw[this,a1,a3,f1,f3];grind
  ·have:g*(g*(c8 q.n m).z)=(g*q.n.x)*(g*m.y)-(g*q.n.y)*(g*m.x):=by simp only[c8];grind
   rw[this,a1,a2,f1,f2];grind
 have hq2:=λe=>sa1 (d:=e) hpar
 have hk:0<dot q.n m:=by
  have e:=hq2 (d9 b1 a);rw[sa2,sa2] at e;have h1:dot q.n b1-dot q.n a<=0:=by have:=hq.hd b1 xb;omega
  apply Qka;intro hno;have t1:=Qkg (show 0<=dot m m by omega) (show 0<=-(dot q.n b1-dot q.n a) by omega)
  rw[Qky] at t1;have t2:=Qkg (show 0<=-dot q.n m by omega) (show 0<=-(dot m b1-dot m a) by omega)
  rw[Int.neg_mul_neg] at t2;have t3:dot q.n m*(dot m b1-dot m a)=0:=by omega
  rcases Qkf.1 t3 with t3|t3
  ·have e':=hq2 q.n;rw[t3,Qkv] at e'
   have:=ga9 (Ya8 hq.ok)
   rcases Qkf.1 e' with r|r<;>omega
  ·omega
 refine⟨q,hq,J9.2 ⟨xc,qc⟩,J9.2 ⟨xa,qa⟩,Ne.symm he.2.2.1,λv hv n1 n2=>?_⟩
 obtain⟨xv,qv⟩:=J9.1 hv;have e:=hq2 (c8 (d9 a c) (d9 v c))
 -- how the nc0 points turn,seen along m
 have em:H*dot m (c8 (d9 a c) (d9 v c))=(p.b-dot p.n v)*(H*H*dot (d9 c a) (d9 c a)+S*S):=by
  have mv:dot m v=dot m a:=by
   have e':=hq2 (d9 v a);rw[sa2,sa2,show dot q.n v-dot q.n a=0 by omega,Qkd] at e'
   have:=(Qkf.1 e'.symm).resolve_left (by omega)
   omega
  have r1:H*orp p.n a c v=S*(p.b-dot p.n v):=by have:=hmv v;omega
  have r2:dot m (c8 (d9 a c) (d9 v c))=H*((p.b-dot p.n v)*dot (d9 c a) (d9 c a))+S*orp p.n a c v:=by
   have nd:dot p.n (d9 c a)=0:=by rw[sa2];omega
   have r3:dot m (c8 (d9 a c) (d9 v c))=H*(dot p.n (d9 c a)*dot (d9 c a) (d9 v a))-H*(dot p.n (d9 v a)*dot (d9 c a) (d9 c a))+S*orp p.n a c v:=by
    have q1:dot u (c8 (d9 c a) (d9 v a))=dot p.n (d9 c a)*dot (d9 c a) (d9 v a)-dot p.n (d9 v a)*dot (d9 c a) (d9 c a):=by rw[hu];simp only[dot,c8];grind
    have q2:c8 (d9 a c) (d9 v c)=⟨-(c8 (d9 c a) (d9 v a)).x,-(c8 (d9 c a) (d9 v a)).y,-(c8 (d9 c a) (d9 v a)).z⟩:=by refine Qkao ?_ ?_ ?_<;>simp only[c8,d9]<;>grind
    have q3:orp p.n a c v=dot p.n (c8 (d9 c a) (d9 v a)):=rfl;rw[q2,q3];have q4:dot m ⟨-(c8 (d9 c a) (d9 v a)).x,-(c8 (d9 c a) (d9 v a)).y,-(c8 (d9 c a) (d9 v a)).z⟩=H*dot u (c8 (d9 c a) (d9 v a))+S*dot p.n (c8 (d9 c a) (d9 v a)):=by
     rw[hm];generalize c8 (d9 c a) (d9 v a)=w;simp only[dot];grind
    rw[q4,q1]
    grind
   rw[r3,nd,Qkv,Qkd,sa2 p.n v a,show dot p.n v-dot p.n a=-(p.b-dot p.n v) by omega]
   grind
  rw[r2];generalize dot (d9 c a) (d9 c a)=D at *
  generalize orp p.n a c v=s at *
  generalize p.b-dot p.n v=t at *
  grind
 have hpos:0<H*H*dot (d9 c a) (d9 c a)+S*S:=by
  have:=Qkl (Qkl hH0 hH0) hdd
  have:=se8 S
  omega
 have hv0':0<p.b-dot p.n v:=by
  apply Qka;intro hno;have on:dot p.n v=p.b:=by have:=hle v xv;omega
  have s1:=he.2.2.2 v (J9.2 ⟨xv,on⟩) n2 n1;have e':=hq2 (d9 v a);rw[sa2,sa2,show dot q.n v-dot q.n a=0 by omega,Qkd] at e'
  have mv:=(Qkf.1 e'.symm).resolve_left (by omega)
  have e2:=hmv v;rw[show p.b-dot p.n v=0 by omega,Qkd] at e2
  have:=Qkl hH0 s1
  omega
 have t1:=Qkl hv0' hpos;rw[<- em] at t1;have t2:0<dot m (c8 (d9 a c) (d9 v c)):=by
  apply Qka;intro hno
  have:=Qkg (show 0<=H by omega) (show 0<=-dot m (c8 (d9 a c) (d9 v c)) by omega)
  rw[Qky] at this;omega
 have t3:=Qkl hk t2;rw[<- e] at t3;show 0<dot q.n (c8 (d9 a c) (d9 v c));apply Qka;intro hno
 have:=Qkg (show 0<=dot m m by omega) (show 0<=-dot q.n (c8 (d9 a c) (d9 v c)) by omega)
 rw[Qky] at this;omega
end
open Classical in
def atE(X:List V3)(p:Pln)(a c:V3)(t:Int):Int:=if Edg (onF p X) p.n a c then t else 0
def ptF(p:Pln)(X:List V3):V3:=(onF p X).headD ⟨0,0,0⟩
def V6(X:List V3)(o:V3):Int:=sig (F0 X) λp=>AR (onF p X) p.n (d9 (ptF p X) o)
section
variable{X:List V3}(hX:Pol X)
include hX
theorem Pol.mem{p:Pln}:p∈F0 X↔Ca6 X p:=A2 hX.iv p
omit hX in
theorem Rd1(X:List V3):(F0 X).Nodup:=Xb0 (tb5 X)
theorem Pol.pt{p:Pln}(hp:Ca6 X p):ptF p X∈onF p X:=by
 have:=hX.lens hp
 unfold ptF;cases h:onF p X with
 |nil=>rw[h] at this;simp at this
 |cons a l=>simp
theorem Pol.edges{p:Pln}(hp:Ca6 X p)(f:V3->V3->Int):sig X (λa=>sig X (λc=>atE X p a c (f a c)))=sig (onF p X) (λa=>f a (nxt (onF p X) p.n a)):=by
 rw[<- (hX.rim hp).sum_edges f];unfold onF;rw[Fa0];refine N5 λa ha=>?_
 split
 ·rw[Fa0];refine N5 λc hc=>?_
  split
  ·rfl
  ·rename_i hn;unfold atE;rw[if_neg λhe=>hn (decide_eq_true (J9.1 he.2.1).2)]
 ·rename_i hn;refine Ba7 λc _=>?_
  unfold atE;rw[if_neg λhe=>hn (decide_eq_true (J9.1 he.1).2)]
theorem Pol.anti(f:V3->V3->Int)(hf:∀a c,f a c=-f c a):sig (F0 X) (λp=>sig X (λa=>sig X (λc=>atE X p a c (f a c))))=0:=by
 rw[Qb0];have e:sig X (λa=>sig (F0 X) (λp=>sig X (λc=>atE X p a c (f a c))))=sig X (λa=>sig X (λc=>sig (F0 X) (λp=>atE X p a c (f a c)))):=N5 λa _=>Qb0 _ _ _
 rw[e];have one:∀a c t,(∃p,p∈F0 X/\Edg (onF p X) p.n a c)->sig (F0 X) (λp=>atE X p a c t)=t:=λa c t ⟨p,hp,he⟩=>by
  rw[Gb7 (Rd1 X) hp λq hq hne=>?_]
  ·unfold atE;rw[if_pos he]
  ·unfold atE;rw[if_neg λhe'=>hne (hX.uni (hX.mem.1 hq) (hX.mem.1 hp) he' he)]
 have none:∀a c t,¬ (∃p,p∈F0 X/\Edg (onF p X) p.n a c)->sig (F0 X) (λp=>atE X p a c t)=0:=λa c t hn=>Ba7 λp hp=>by
  unfold atE;rw[if_neg λhe=>hn ⟨p,hp,he⟩]
 have turn:∀a c,(∃p,p∈F0 X/\Edg (onF p X) p.n a c)->∃p,p∈F0 X/\Edg (onF p X) p.n c a:=λa c ⟨p,hp,he⟩=>by
  obtain⟨q,hq,h⟩:=hX.rev (hX.mem.1 hp) he;exact⟨q,hX.mem.2 hq,h⟩
 refine Qd2 λa _ c _=>?_
 by_cases h:∃p,p∈F0 X/\Edg (onF p X) p.n a c
 ·rw[one a c _ h,one c a _ (turn a c h)];exact hf a c
 ·rw[none a c _ h,none c a _ λk=>h (turn c a k)]
  rfl
theorem Pol.closed(w:V3):sig (F0 X) (λp=>AR (onF p X) p.n w)=0:=by
 rw[<- hX.anti (λa c=>dot (c8 a c) w) λa c=>by simp only[dot,c8];grind]
 refine N5 λp hp=>?_
 rw[hX.edges (hX.mem.1 hp)];rfl
theorem Pol.from'(o:V3):V6 X o=sig (F0 X) λp=>AR (onF p X) p.n (ptF p X):=by
 unfold V6;have e:sig (F0 X) (λp=>AR (onF p X) p.n (d9 (ptF p X) o))=sig (F0 X) (λp=>AR (onF p X) p.n (ptF p X)-AR (onF p X) p.n o):=N5 λp _=>Qd9 _ _ _ _
 rw[e,xb3,hX.closed o,Int.sub_zero]
theorem Pol.any(o o':V3):V6 X o=V6 X o':=by rw[hX.from',hX.from']
theorem Pol.cone{p:Pln}(hp:Ca6 X p)(o:V3):(dot p.n o<p.b->0<AR (onF p X) p.n (d9 (ptF p X) o))/\(dot p.n o=p.b->AR (onF p X) p.n (d9 (ptF p X) o)=0)/\(p.b<dot p.n o->AR (onF p X) p.n (d9 (ptF p X) o)<0) :=
 (hX.rim hp).cone (hX.lens hp) (J9.1 (hX.pt hp)).2 o
theorem Pol.pos:0<V6 X ⟨0,0,0⟩:=by
 obtain⟨o,ho⟩:=hX.sol.ne;rw[hX.any _ o]
 -- some facet does not have this corner
 have nn:∀p∈F0 X,0<=AR (onF p X) p.n (d9 (ptF p X) o):=λp hp=>by
  have h:=hX.mem.1 hp;obtain⟨k1,k2,_⟩:=hX.cone h o
  have:=h.hd o ho
  by_cases e:dot p.n o=p.b
  ·rw[k2 e];exact Qkn _
  ·have:=k1 (by omega);omega
 have hx:∃p∈F0 X,dot p.n o<p.b:=by
  apply Qka;intro hno;have hall:∀p∈F0 X,dot p.n o=p.b:=λp hp=>by
   have:=(hX.mem.1 hp).hd o ho
   apply Qka;intro hne;exact hno ⟨p,hp,by omega⟩
  have hz:V6 X o=0:=Ba7 λp hp=>(hX.cone (hX.mem.1 hp) o).2.1 (hall p hp)
  -- take another corner: all cones from there count nothing either
  have hne:=je2 hX.iv hX.sol;cases hF:F0 X with
  |nil=>exact hne hF
  |cons p l =>
   have hp:p∈F0 X:=by rw[hF];simp
   have hf:=hX.mem.1 hp;obtain⟨v,hv,hoff⟩:=hX.sol.off (Ya8 hf.ok) p.b;have hpos:0<V6 X v:=by
    unfold V6;have nn':∀q∈F0 X,0<=AR (onF q X) q.n (d9 (ptF q X) v):=λq hq=>by
     have h:=hX.mem.1 hq;obtain⟨k1,k2,_⟩:=hX.cone h v
     have:=h.hd v hv
     by_cases e:dot q.n v=q.b
     ·rw[k2 e];exact Qkn _
     ·have:=k1 (by omega);omega
    rw[hF,m8];have h1:=(hX.cone hf v).1 (by have:=hf.hd v hv;omega)
    have h2:0<=sig l λq=>AR (onF q X) q.n (d9 (ptF q X) v):=vc1 λq hq=>nn' q (by rw[hF];simp[hq])
    omega
   rw[hX.any v o,hz] at hpos;omega
 obtain⟨p,hp,hlt⟩:=hx;unfold V6;have hs:∀l:List Pln,(∀q∈l,q∈F0 X)->p∈l->0<sig l λq=>AR (onF q X) q.n (d9 (ptF q X) o):=λl=>by
  induction l with
  |nil=>intro _ h;cases h
  |cons q l ih =>
   intro hl hm;rw[m8];have h1:=nn q (hl q (by simp))
   have h2:0<=sig l λq=>AR (onF q X) q.n (d9 (ptF q X) o):=vc1 λr hr=>nn r (hl r (by simp[hr]))
   rcases Qke.1 hm with e|hm
   ·subst e
    have:=(hX.cone (hX.mem.1 hp) o).1 hlt
    omega
   ·have:=ih (λr hr=>hl r (by simp[hr])) hm;omega
 exact hs _ (λq h=>h) hp
end
set_option maxRecDepth 100000
theorem Ae0{a c:Nat}{x y:Int}(h1:Sm a x)(h2:Sm c y):Sm ((a*c:Nat):Int) (x*y):=by
 have k1:x.natAbs<=a:=by obtain⟨p,q⟩:=h1;omega
 have k2:y.natAbs<=c:=by obtain⟨p,q⟩:=h2;omega
 have k:(x*y).natAbs<=a*c:=by rw[Int.natAbs_mul];exact Nat.mul_le_mul k1 k2
 constructor<;>omega
def Sm3(n:Int)(v:V3):Prop:=Sm n v.x/\Sm n v.y/\Sm n v.z
theorem md1{v:V3}:inV v=true↔Sm3 24 v:=ra8 v
theorem sd6{u w:V3}(hu:inV u=true)(hw:inV w=true):K3 u w=d9 u w/\Sm3 48 (d9 u w):=by
 obtain⟨⟨a1,a2⟩,⟨a3,a4⟩,a5,a6⟩:=(ra8 _).1 hu;obtain⟨⟨c1,c2⟩,⟨c3,c4⟩,c5,c6⟩:=(ra8 _).1 hw;refine⟨?_,⟨by simp only[d9];omega,by simp only[d9];omega⟩,⟨by simp only[d9];omega,by simp only[d9];omega⟩,by simp only[d9];omega,by simp only[d9];omega⟩
 unfold K3 d9;rw[ca8 (by omega) (by omega),ca8 (by omega) (by omega),ca8 (by omega) (by omega)]
theorem cd7{a c:V3}(ha:Sm3 48 a)(hc:Sm3 48 c):A1 a c=c8 a c/\Sm3 4608 (c8 a c):=by
 have m:∀{x y:Int},Sm 48 x->Sm 48 y->-2304<=x*y/\x*y<=2304:=λh1 h2=>Ae0 (a:=48) (c:=48) h1 h2
 obtain⟨a1,a2,a3⟩:=ha;obtain⟨c1,c2,c3⟩:=hc;have p1:=m a2 c3;have p2:=m a3 c2;have p3:=m a3 c1;have p4:=m a1 c3;have p5:=m a1 c2;have p6:=m a2 c1;have hs:Sm3 4608 (c8 a c):=⟨⟨by simp only[c8];omega,by simp only[c8];omega⟩,⟨by simp only[c8];omega,by simp only[c8];omega⟩,by simp only[c8];omega,by simp only[c8];omega⟩
 refine⟨?_,hs⟩;unfold A1;simp only[Nc3,kd1];obtain⟨s1,s2,s3⟩:=hs;show (⟨W (c8 a c).x,W (c8 a c).y,W (c8 a c).z⟩:V3)=c8 a c;rw[nb3 (s1.mono (by omega)),nb3 (s2.mono (by omega)),nb3 (s3.mono (by omega))]
theorem cd8{a c:V3}(ha:Sm3 4608 a)(hc:Sm3 4608 c):w7 a c=dot a c/\Sm 63700992 (dot a c):=by
 have m:∀{x y:Int},Sm 4608 x->Sm 4608 y->-21233664<=x*y/\x*y<=21233664:=λh1 h2=>Ae0 (a:=4608) (c:=4608) h1 h2
 have p1:=m ha.1 hc.1;have p2:=m ha.2.1 hc.2.1;have p3:=m ha.2.2 hc.2.2;have hs:Sm 63700992 (dot a c):=by unfold dot;constructor<;>omega
 refine⟨?_,hs⟩;unfold w7;simp only[Gb0,Ub7];exact nb3 (hs.mono (by omega))
theorem Sm3.mono{n m:Int}{v:V3}(h:Sm3 n v)(hn:n<=m):Sm3 m v:=⟨Sm.mono h.1 hn,Sm.mono h.2.1 hn,Sm.mono h.2.2 hn⟩
theorem Rd2{a c v:V3}(ha:inV a=true)(hc:inV c=true)(hv:inV v=true):w7 (A1 a c) v=D3 a c v/\Sm 63700992 (D3 a c v):=by
 obtain⟨e1,e2⟩:=cd7 ((md1.1 ha).mono (by omega)) ((md1.1 hc).mono (by omega))
 rw[e1];exact cd8 e2 ((md1.1 hv).mono (by omega))
theorem se9{n a c v:V3}(hn:Sm3 4608 n)(ha:inV a=true)(hc:inV c=true)(hv:inV v=true):w7 n (A1 (K3 c a) (K3 v a))=orp n a c v:=by
 obtain⟨e1,e2⟩:=sd6 hc ha;obtain⟨e3,e4⟩:=sd6 hv ha;obtain⟨e5,e6⟩:=cd7 e2 e4;rw[e1,e3,e5];exact (cd8 hn e6).1
def Rd3(C:List V3)(g:Nat->List c7):Prop:=∀k,k<C.length->g k=tV.row (gL tV C k)
section
variable{n:V3}{C:List V3}{g:Nat->List c7}(hn:Sm3 4608 n)(hg:Rd3 C g)(hC:∀c∈C,inV c=true)(hl:C.length<=1000)
include hn hg hC hl
theorem Bd6{v:V3}(hv:inV v=true):∃j,lp (M9 ⟨C.length,g,(C.length:Int),n.x,n.y,n.z,C.length,g,v.x,v.y,v.z⟩) ⟨0,v.x,v.y,v.z⟩=(1,⟨j,(nxt C n v).x,(nxt C n v).y,(nxt C n v).z⟩):=by
 suffices key:∃t s,lp (M9 ⟨C.length,g,(C.length:Int),n.x,n.y,n.z,C.length,g,v.x,v.y,v.z⟩) ⟨0,v.x,v.y,v.z⟩=(t,s)/\(t=1/\∃j,s=⟨j,(nxt C n v).x,(nxt C n v).y,(nxt C n v).z⟩) by
  obtain⟨t,s,h,rfl,j,rfl⟩:=key;exact⟨j,h⟩
 refine X4 (step:=M9 ⟨C.length,g,(C.length:Int),n.x,n.y,n.z,C.length,g,v.x,v.y,v.z⟩) (mk:=λj (b:V3)=>(⟨(j:Int),b.x,b.y,b.z⟩:n8)) C.length (λj b=>inV b=true/\nxF n v (C.drop j) b=nxt C n v) (λt s=>t=1/\∃j,s=⟨j,(nxt C n v).x,(nxt C n v).y,(nxt C n v).z⟩) (by omega)
  (λj b hj hi=>?_) (λj b hj hi=>?_) 0 v ⟨hv,rfl⟩
 ·obtain⟨hb,hi⟩:=hi;have hw:=hC _ (Ta7 tV hj);have hN:=D0 hj (show C.length<=4611686018427387904 by omega)
  have ho:=se9 (a:=v) (c:=b) (v:=gL tV C j) hn hv hb hw;have hd:C.drop j=gL tV C j::C.drop (j+1):=by
   rw[mb3 tV hj];exact List.drop_eq_getElem_cons hj
  rw[hd] at hi;unfold nxF at hi;have e1:((gL tV C j).x==v.x&&((gL tV C j).y==v.y&&((gL tV C j).z==v.z&&true)))=eqV (gL tV C j) v:=rfl;have e2:(b.x==v.x&&(b.y==v.y&&(b.z==v.z&&true)))=eqV b v:=rfl;have e3:∀u:V3,toI (hdA (tV.row u))=u.x/\toI (hdA (tlA (tV.row u)))=u.y/\toI (hdA (tlA (tlA (tV.row u))))=u.z/\(Nat.ble 3 (len (tV.row u))&&ma9 [CK.int .i64,CK.int .i64,CK.int .i64] (tV.row u))=true:=λ_=>⟨rfl,rfl,rfl,rfl⟩
  obtain⟨f1,f2,f3,f4⟩:=e3 (gL tV C j);show Nx (z8 Stp.next Stp.exit Stp.fail _ _) _ _;simp only[z8,Int.toNat_natCast,hg j hj,f1,f2,f3,f4,e1,e2,hN,i8 hj];rw[btD (q7 hj)];simp only[u9];rw[show (⟨(gL tV C j).x,(gL tV C j).y,(gL tV C j).z⟩:V3)=gL tV C j from rfl,show (⟨b.x,b.y,b.z⟩:V3)=b from rfl,show (⟨v.x,v.y,v.z⟩:V3)=v from rfl,show (⟨n.x,n.y,n.z⟩:V3)=n from rfl,ho]
  have take : ∀ c : V3, inV c = true → nxF n v (C.drop (j + 1)) c = nxt C n v → Nx (.next (⟨((j + 1 : Nat) : Int), c.x, c.y, c.z⟩ : n8)) (fun t => t = 1 ∧ ∃ j', (⟨(j : Int), b.x, b.y, b.z⟩ : n8) = ⟨j', (nxt C n v).x, (nxt C n v).y, (nxt C n v).z⟩)
    (λs=>∃c':V3,s=(⟨((j+1:Nat):Int),c'.x,c'.y,c'.z⟩:n8)/\(inV c'=true/\nxF n v (C.drop (j+1)) c'=nxt C n v)):=λc hc he=>.nx ⟨c,rfl,hc,he⟩
  cases h1:eqV (gL tV C j) v with
  |true =>
   rw[h1] at hi;exact take b hb (by simpa using hi)
  |false =>
   rw[h1] at hi;cases h2:eqV b v with
   |true =>
    rw[h2] at hi;exact take _ hw (by simpa using hi)
   |false =>
    rw[h2] at hi;by_cases h3:orp n v b (gL tV C j)<0
    ·rw[decide_eq_true h3] at hi ⊢;exact take _ hw (by simpa using hi)
    ·rw[decide_eq_false h3] at hi ⊢;exact take b hb (by simpa using hi)
 ·obtain⟨hb,hi⟩:=hi;rw[List.drop_eq_nil_of_le hj] at hi;have hi:b=nxt C n v:=hi;refine⟨1,?_,rfl,(j:Int),by rw[hi]⟩
  show z8 Stp.next Stp.exit Stp.fail _ _=_;simp only[z8];rw[bfD (A6 (by omega))]
theorem Rd4{v:V3}(hv:inV v=true):W0 ⟨n.x,n.y,n.z,C.length,g,v.x,v.y,v.z⟩=⟨1,(nxt C n v).x,(nxt C n v).y,(nxt C n v).z⟩:=by
 obtain⟨j,h⟩:=Bd6 hn hg hC hl hv;unfold W0 N4;simp only[h];rfl
end
theorem vc6(f:Nat->Int)(n:Nat):sig (List.range (n+1)) f=sig (List.range n) f+f n:=by
 rw[List.range_succ,jc3,m8,Za1,Qkr]
theorem Qc2{α:Type}{f:α->Int}{B:Nat}:∀{l:List α},(∀x∈l,Sm B (f x))->Sm ((l.length*B:Nat):Int) (sig l f)
 |[],_=>by rw[Za1];exact⟨by simp,by simp⟩
 |x::l,h=>by
  obtain⟨h1,h2⟩:=h x (by simp)
  obtain⟨k1,k2⟩:=Qc2 (l:=l) λy hy=>h y (by simp[hy])
  rw[m8,List.length_cons,Nat.succ_mul]
  constructor<;>omega
section
variable{X C:List V3}{n:V3}{k:Int}(h:Rim X C n k){g:Nat->List c7}(hn:Sm3 4608 n)(hg:Rd3 C g)(hC:∀c∈C,inV c=true)(hl:C.length<=48)
include h hn hg hC hl
theorem Rd5 {a : V3} (ha : a ∈ C) {s0 : Int} (hs : Sm 100000000000000000 s0) :
  ∃s,lp (ka7 ⟨n.x,n.y,n.z,C.length,g,((C.length-2:Nat):Int),a.x,a.y,a.z⟩) ⟨0,s0,(nxt C n a).x,(nxt C n a).y,(nxt C n a).z⟩=(1,s)/\s.e8=s0+AR C n a:=by
 rw[<- h.fan ha];have hterm:∀i,Sm 63700992 (D3 a (itr C n a (i+1)) (itr C n a (i+2))):=λi=>(Rd2 (hC a ha) (hC _ (h.it_mem ha _)) (hC _ (h.it_mem ha _))).2
 suffices key:∃t s,lp (ka7 ⟨n.x,n.y,n.z,C.length,g,((C.length-2:Nat):Int),a.x,a.y,a.z⟩) ⟨0,s0,(nxt C n a).x,(nxt C n a).y,(nxt C n a).z⟩=(t,s)/\(t=1/\s.e8=s0+sig (List.range (C.length-2)) (λi=>D3 a (itr C n a (i+1)) (itr C n a (i+2)))) by
  obtain⟨t,s,h,rfl,h2⟩:=key;exact⟨s,h,h2⟩
 refine X4 (step:=ka7 ⟨n.x,n.y,n.z,C.length,g,((C.length-2:Nat):Int),a.x,a.y,a.z⟩) (mk:=λj (q:Int×V3)=>(⟨(j:Int),q.1,q.2.x,q.2.y,q.2.z⟩:S6)) (C.length-2) (λj q=>j<=C.length-2/\q.1=s0+sig (List.range j) (λi=>D3 a (itr C n a (i+1)) (itr C n a (i+2)))/\q.2=itr C n a (j+1)) (λt s=>t=1/\s.e8=s0+sig (List.range (C.length-2)) (λi=>D3 a (itr C n a (i+1)) (itr C n a (i+2)))) (by omega)
  (λj q hj hi=>?_) (λj q hj hi=>?_) 0 (s0,nxt C n a) ⟨Qkz _,by rw[List.range_zero,Za1,Qkr],rfl⟩
 ·obtain⟨s,v⟩:=q;obtain⟨hj',e1,e2⟩:=hi
  simp only at e1 e2
  subst e1 e2;have hN:=D0 hj (show C.length-2<=4611686018427387904 by omega)
  have hp:=Rd4 hn hg hC (by omega) (hC _ (h.it_mem ha (j+1)))
  obtain⟨hd,hdb⟩:=Rd2 (hC a ha) (hC _ (h.it_mem ha (j+1))) (hC _ (h.it_mem ha (j+2)));obtain⟨b1,b2⟩:=Qc2 (l:=List.range j) (B:=63700992) λi _=>hterm i
  rw[Qkah] at b1 b2;have hsum:W (s0+sig (List.range j) (λi=>D3 a (itr C n a (i+1)) (itr C n a (i+2)))+D3 a (itr C n a (j+1)) (itr C n a (j+2)))=s0+sig (List.range (j+1)) (λi=>D3 a (itr C n a (i+1)) (itr C n a (i+2))):=by
   rw[vc6];obtain⟨d1,d2⟩:=hdb;obtain⟨c1,c2⟩:=hs;rw[ca8 (by omega) (by omega)]
   omega
  show Nx (Q4 Stp.next Stp.exit Stp.fail _ _) _ _;simp only[Q4,hp,hN];rw[btD (q7 hj)];rw[show (⟨a.x,a.y,a.z⟩:V3)=a from rfl,show (⟨(itr C n a (j+1)).x,(itr C n a (j+1)).y,(itr C n a (j+1)).z⟩:V3)=itr C n a (j+1) from rfl,
   show (⟨(nxt C n (itr C n a (j+1))).x,(nxt C n (itr C n a (j+1))).y,(nxt C n (itr C n a (j+1))).z⟩:V3)=itr C n a (j+2) from rfl,hd,hsum]
  exact .nx ⟨(s0+sig (List.range (j+1)) (λi=>D3 a (itr C n a (i+1)) (itr C n a (i+2))),itr C n a (j+2)),rfl,by omega,rfl,rfl⟩
 ·obtain⟨s,v⟩:=q;obtain⟨hj',e1,e2⟩:=hi
  simp only at e1 e2
  have e:j=C.length-2:=by omega
  subst e;refine⟨1,?_,rfl,e1⟩;show Q4 Stp.next Stp.exit Stp.fail _ _=_;simp only[Q4];rw[bfD (A6 (Qks _))]
theorem Ae1{a:V3}(ha:a∈C){s0:Int}(hs:Sm 100000000000000000 s0):Oa6 ⟨a.x,a.y,a.z,(C.length:Int),n.x,n.y,n.z,C.length,g,s0⟩=⟨1,s0+AR C n a⟩:=by
 obtain⟨s,h1,h2⟩:=Rd5 h hn hg hC hl ha hs;have hp:=Rd4 hn hg hC (by omega) (hC _ ha)
 have hW:W ((C.length:Int)-2)=((C.length-2:Nat):Int):=by
  have:=h.two
  rw[ca8 (by omega) (by omega)];omega
 unfold Oa6 sa0;simp only[hp,hW,h1,<- h2];rfl
end
theorem Ae2{p:Pln}{v:V3}(hp:okp p=true)(hv:inV v=true):(Q3 p v==0)=decide (dot p.n v=p.b):=by
 unfold Q3;rw[hp,hv];simp only[Bool.and_self,if_true];by_cases h1:dot p.n v-p.b<0
 ·rw[if_pos h1,decide_eq_false (by omega)];rfl
 ·rw[if_neg h1];by_cases h2:dot p.n v-p.b>0
  ·rw[if_pos h2,decide_eq_false (by omega)];rfl
  ·rw[if_neg h2,decide_eq_true (by omega)];rfl
theorem Bd7 (P : N0) (p : Pln) (X : List V3) (h1 : P.xa1 = X) (h2 : P.md7 = (X.length : Int)) (h3 : P.D7 = p.n.x ∧ P.D8 = p.n.y ∧ P.D9 = p.n.z ∧ P.Oa7 = p.b) (hp : okp p = true) (hX : ∀ v ∈ X, inV v = true) (hl : X.length ≤ 1000000) :
  ∃j,lp (la0 P) ⟨0,0,0,[]⟩=(phV (onF p X)+1,⟨phV (onF p X),j,(onF p X).length,bL tV (onF p X)⟩):=by
 suffices key:∃t s,lp (la0 P) ⟨0,0,0,[]⟩=(t,s)/\(t=phV (onF p X)+1/\∃j,s=⟨phV (onF p X),j,(onF p X).length,bL tV (onF p X)⟩) by
  obtain⟨t,s,h,rfl,j,rfl⟩:=key;exact⟨j,h⟩
 refine X4 (step:=la0 P) (mk:=λj (o:List V3)=>(⟨phV o,(j:Int),o.length,bL tV o⟩:o4)) X.length (λj o=>j<=X.length/\o=onF p (X.take j)) (λt s=>t=phV (onF p X)+1/\∃j,s=⟨phV (onF p X),j,(onF p X).length,bL tV (onF p X)⟩) (by omega)
  (λj o hj hi=>?_) (λj o hj hi=>?_) 0 [] ⟨Qkz _,by simp[onF]⟩
 ·obtain⟨_,hi⟩:=hi;have hN:=D0 hj (show X.length<=4611686018427387904 by omega)
  have hv:=hX _ (Ta7 tV hj);have hlen:o.length<=1000000:=by
   rw[hi];have a1:=Qko (λv=>decide (dot p.n v=p.b)) (X.take j)
   have a2:=List.length_take_le j X;unfold onF;omega
  have hT:onF p (X.take (j+1))=if dot p.n (gL tV X j)=p.b then o++[gL tV X j] else o:=by
   rw[jb9 tV hj,hi];unfold onF;rw[List.filter_append];by_cases hc:dot p.n (gL tV X j)=p.b
   ·rw[if_pos hc,List.filter_cons,if_pos (decide_eq_true hc)];rfl
   ·rw[if_neg hc,List.filter_cons,if_neg (by rw[decide_eq_true_eq];exact hc),List.filter_nil,Qkac]
  have hside:(J2 ⟨⟨P.D7,P.D8,P.D9⟩,P.Oa7⟩ (gL tV X j)==0)=decide (dot p.n (gL tV X j)=p.b):=by
   rw[h3.1,h3.2.1,h3.2.2.1,h3.2.2.2];show (J2 p (gL tV X j)==0)=_;rw[xb1,Ae2 hp hv]
  clear hi
  cases o with
  |nil =>
   show Nx (Q5 Stp.next Stp.exit Stp.fail _ _) _ _;simp only[Q5,Int.toNat_natCast,h1,h2,hside,kb1,hN,i8 hj];rw[btD (q7 hj)];by_cases hc:dot p.n (gL tV X j)=p.b
   ·rw[if_pos hc] at hT;rw[decide_eq_true hc];exact Nx.nx (s:=(⟨1,((j+1:Nat):Int),1,bL tV ([]++[gL tV X j])⟩:o4)) (N:=λs=>∃o',s=(⟨phV o',((j+1:Nat):Int),o'.length,bL tV o'⟩:o4)/\(j+1<=X.length/\o'=onF p (X.take (j+1)))) ⟨[]++[gL tV X j],rfl,by omega,hT.symm⟩
   ·rw[if_neg hc] at hT;rw[decide_eq_false hc];exact Nx.nx (s:=(⟨0,((j+1:Nat):Int),0,[]⟩:o4)) ⟨[],rfl,by omega,hT.symm⟩
  |cons q o =>
   have rr:(Nat.beq (q::o).length (len (bL tV (q::o)))&&Nat.ble (((q::o).length+1)*24) room)=true:=Ld2 rfl (by omega)
   show Nx (Q6 Stp.next Stp.exit Stp.fail _ _) _ _;simp only[Q6,Int.toNat_natCast,h1,h2,hside,kb1,hN,i8 hj,rr,He2];rw[btD (q7 hj)];by_cases hc:dot p.n (gL tV X j)=p.b
   ·rw[if_pos hc] at hT;rw[decide_eq_true hc];exact Nx.nx (s:=(⟨1,((j+1:Nat):Int),(q::o).length+1,bL tV ((q::o)++[gL tV X j])⟩:o4)) ⟨(q::o)++[gL tV X j],by rw[Nc8,Qkx];rfl,by omega,hT.symm⟩
   ·rw[if_neg hc] at hT;rw[decide_eq_false hc];exact Nx.nx (s:=(⟨1,((j+1:Nat):Int),(q::o).length,bL tV (q::o)⟩:o4)) ⟨q::o,rfl,by omega,hT.symm⟩
 ·obtain⟨h4,hi⟩:=hi;have e:j=X.length:=by omega
  subst e;rw[Qkai] at hi;rw[<- hi];cases o with
  |nil =>
   refine⟨1,?_,rfl,_,rfl⟩;show Q5 Stp.next Stp.exit Stp.fail _ _=_;simp only[Q5,h2];rw[bfD (A6 (Qks _))]
  |cons q o =>
   refine⟨2,?_,rfl,_,rfl⟩;show Q6 Stp.next Stp.exit Stp.fail _ _=_;simp only[Q6,h2];rw[bfD (A6 (Qks _))]
theorem sd7{l:List V3}(hl:l.all inV=true)(h4:Sol l):Pol (ea8 (F0 l) l):=by
 refine⟨jc5 hl h4,sd2 hl h4,(Fc9 l).filter _,λv hv=>?_⟩
 obtain⟨m,hm⟩:=(Qb2 hl h4 (Ba8 hl h4 hv)).1 hv;exact⟨m,λw hw hne=>hm w (Ba8 hl h4 hw) hne⟩
theorem sd8{l:List V3}:(ea8 (F0 l) l).length<=l.length:=Qkaj (Qko _ _) (jc1 l)
def V6l(X:List V3):Int:=sig (F0 X) λp=>AR (onF p X) p.n (ptF p X)
theorem Pol.v6l{X:List V3}(hX:Pol X)(o:V3):V6 X o=V6l X:=hX.from' o
section
variable{X:List V3}(hX:Pol X)(h48:X.length<=48)
include hX h48
theorem Pol.ar_bd{p:Pln}(hp:Ca6 X p):Sm 3057647616 (AR (onF p X) p.n (ptF p X)):=by
 have hR:=hX.rim hp;have hi:=Qkc.1 hX.iv;have hC:∀c∈onF p X,inV c=true:=λc hc=>hi c (J9.1 hc).1
 have hpt:=hX.pt hp;have hb:=Qc2 (l:=onF p X) (B:=63700992) (f:=λa=>dot (c8 a (nxt (onF p X) p.n a)) (ptF p X)) λa ha=>(Rd2 (hC a ha) (hC _ (hR.nx_mem ha)) (hC _ hpt)).2
 have hlen:(onF p X).length<=48:=Qkaj (Qko _ _) h48
 have:(onF p X).length*63700992<=48*63700992:=Nat.mul_le_mul_right _ hlen
 exact hb.mono (by omega)
theorem Rd6:∃s,lp (la1 ⟨((F0 X).length:Int)⟩) ⟨X,F0 X,0,0⟩=(1,s)/\s.e8=V6l X:=by
 have hF:(F0 X).length<=1000000:=Pb5 h48 hX.iv;have hi:=Qkc.1 hX.iv
 suffices key:∃t s,lp (la1 ⟨((F0 X).length:Int)⟩) ⟨X,F0 X,0,0⟩=(t,s)/\(t=1/\s.e8=V6l X) by
  obtain⟨t,s,h,rfl,h2⟩:=key;exact⟨s,h,h2⟩
 refine X4 (step:=la1 ⟨((F0 X).length:Int)⟩) (mk:=λj (q:Int)=>(⟨X,F0 X,(j:Int),q⟩:J0)) (F0 X).length (λj q=>j<=(F0 X).length/\q=sig ((F0 X).take j) λp=>AR (onF p X) p.n (ptF p X)) (λt s=>t=1/\s.e8=V6l X) (by omega)
  (λj q hj hq=>?_) (λj q hj hq=>?_) 0 0 ⟨Qkz _,by simp[sig]⟩
 ·obtain⟨hj',rfl⟩:=hq;have hN:=D0 hj (show (F0 X).length<=4611686018427387904 by omega)
  have hpm:gL tP (F0 X) j∈F0 X:=Ta7 tP hj;have hp:=hX.mem.1 hpm;have hR:=hX.rim hp;have hC:∀c∈onF (gL tP (F0 X) j) X,inV c=true:=λc hc=>hi c (J9.1 hc).1
  have hlen:=hX.lens hp;have hl48:(onF (gL tP (F0 X) j) X).length<=48:=Qkaj (Qko _ _) h48;have bp:=Gb4 hp.ok;have np:Sm3 4608 (gL tP (F0 X) j).n:=⟨⟨bp.x1,bp.x2⟩,⟨bp.y1,bp.y2⟩,bp.z1,bp.z2⟩;have hT:(F0 X).take (j+1)=(F0 X).take j++[gL tP (F0 X) j]:=jb9 tP hj;have hbs:=Qc2 (l:=(F0 X).take j) (B:=3057647616) (f:=λp=>AR (onF p X) p.n (ptF p X)) λp hp=>hX.ar_bd h48 (hX.mem.1 (List.mem_of_mem_take hp))
  have hlt:((F0 X).take j).length*3057647616<=1000000*3057647616:=Nat.mul_le_mul_right _ (by have:=List.length_take_le j (F0 X);omega)
  have hsm:Sm 100000000000000000 (sig ((F0 X).take j) λp=>AR (onF p X) p.n (ptF p X)):=hbs.mono (by omega)
  have hpt:ptF (gL tP (F0 X) j) X=gL tV (onF (gL tP (F0 X) j) X) 0:=by
   unfold ptF;cases onF (gL tP (F0 X) j) X<;>rfl
  have hg:Rd3 (onF (gL tP (F0 X) j) X) (λk=>i9 (bL tV (onF (gL tP (F0 X) j) X)) (0+k)):=λk hk=>by
   show i9 _ (0+k)=_;rw[Qkw,N2 tV hk]
  have h0:0<(onF (gL tP (F0 X) j) X).length:=by omega
  have hfan:=Ae1 hR np hg hC hl48 (hX.pt hp) hsm;rw[hpt] at hfan;have r0:rdR tV (bL tV (onF (gL tP (F0 X) j) X)) 0=gL tV (onF (gL tP (F0 X) j) X) 0:=Xb2 h0;have l0:ldR tV (bL tV (onF (gL tP (F0 X) j) X)) 0=true:=tc2 h0;have hi0:inB 0 (onF (gL tP (F0 X) j) X).length=true:=i8 h0;have hph:phV (onF (gL tP (F0 X) j) X)=1:=by
   cases hO:onF (gL tP (F0 X) j) X with
   |nil=>rw[hO] at h0;simp at h0
   |cons a l=>rfl
  have hgt:decide (((onF (gL tP (F0 X) j) X).length:Int)>2)=true:=decide_eq_true (by omega)
  have hnext:sig ((F0 X).take j) (λp=>AR (onF p X) p.n (ptF p X))+AR (onF (gL tP (F0 X) j) X) (gL tP (F0 X) j).n (gL tV (onF (gL tP (F0 X) j) X) 0)=sig ((F0 X).take (j+1)) λp=>AR (onF p X) p.n (ptF p X):=by
   rw[hT,jc3,m8,Za1,Qkr,hpt]
  show Nx (Q7 Stp.next Stp.exit Stp.fail _ _) _ _;obtain⟨jj,hlp⟩:=Bd7 ⟨X,F0 X,((F0 X).length:Int),(j:Int),X,(X.length:Int),sig ((F0 X).take j) (λp=>AR (onF p X) p.n (ptF p X)),(gL tP (F0 X) j).n.x,(gL tP (F0 X) j).n.y,(gL tP (F0 X) j).n.z,(gL tP (F0 X) j).b,(gL tP (F0 X) j).n.x,(gL tP (F0 X) j).n.y,(gL tP (F0 X) j).n.z⟩ (gL tP (F0 X) j) X rfl rfl ⟨rfl,rfl,rfl,rfl⟩ hp.ok hi (by omega)
  rw[hph] at hlp;simp only[Q7,Int.toNat_natCast,o6,l9,hlp,r0,l0,hi0,hgt,hfan,hnext,hN,i8 hj];rw[btD (q7 hj)];exact Nx.nx (s:=(⟨X,F0 X,((j+1:Nat):Int),sig ((F0 X).take (j+1)) λp=>AR (onF p X) p.n (ptF p X)⟩:J0)) (N:=λs=>∃q',s=(⟨X,F0 X,((j+1:Nat):Int),q'⟩:J0)/\(j+1<=(F0 X).length/\q'=sig ((F0 X).take (j+1)) λp=>AR (onF p X) p.n (ptF p X))) ⟨_,rfl,by omega,rfl⟩
 ·obtain⟨hj',rfl⟩:=hq;have e:j=(F0 X).length:=by omega
  subst e;refine⟨1,?_,rfl,by rw[Qkai];rfl⟩
  show Q7 Stp.next Stp.exit Stp.fail _ _=_;simp only[Q7];rw[bfD (A6 (Qks _))]
end
def Q8(l:List V3):Int×Int:=if aa5 l=0 then (V6l (ea8 (F0 l) l),0) else (0,aa5 l)
theorem je9(l:List V3)(hl:l.length<=900000):Ba5 l=some (.tup [i (Q8 l).1,i (Q8 l).2],[]):=by
 have c1:∀z:List V3,cb6 z=ba4 z:=λ_=>rfl
 have c2:∀z:List V3,ka8 z=Pb4 z:=λ_=>rfl
 have g1:ka9 l=true:=decide_eq_true hl;unfold Ba5 Q8;simp only[o6,ma3,l9,c1,c2,g1];by_cases h:aa5 l=0
 ·obtain⟨h48,hin,hs⟩:=Y9 h;have hX:=sd7 hin hs;have hXl:=sd8 (l:=l);have e1:Pb4 l=(ea8 (F0 l) l,0):=by unfold Pb4;rw[if_pos h]
  have hc:aa5 (ea8 (F0 l) l)=0:=Ea8 (by omega) hX.iv hX.sol
  have e2:ba4 (ea8 (F0 l) l)=(F0 (ea8 (F0 l) l),0):=by unfold ba4;rw[if_pos hc]
  have g2:cb7 (ea8 (F0 l) l)=true:=decide_eq_true (by omega)
  obtain⟨s,h1,h2⟩:=Rd6 hX (by omega)
  rw[if_pos h];simp only[e1,e2,g2,h1,h2];rfl
 ·have e1:Pb4 l=([],aa5 l):=by unfold Pb4;rw[if_neg h]
  have hne:(aa5 l != 0)=true:=bne_iff_ne.2 h;rw[if_neg h];simp only[e1,hne];rfl
theorem Hc0(l:List V3)(hl:l.length<=900000):F9 l=Q8 l:=by unfold F9;rw[je9 l hl];rfl
theorem Hc1(l:List V3)(hl:l.length<=900000):G3 l=true:=by unfold G3;rw[je9 l hl];rfl
def R5(x:List Int):V3×List V3:=match o7 x with
 |[]=>(⟨0,0,0⟩,[])
 |a::l=>(a,l)
def Cb5:Sum:=L0 (ya3 tI) λx=>.guard (Ma3 x) (.guard (Nat.ble 1 (List.length (o7 x))) (.ret (eL tV ((R5 x).1::(R5 x).2),[])))
theorem Rd7{α:Type}{c:Cod α}{k k':α->DT (c7×List c9)}(h:∀a r,(k a).run=some r->(k' a).run=some r){args:List c7}{blks:List c9}{r:c7×List c9}(hr:(L0 c k args blks).run=some r):(L0 c k' args blks).run=some r:=by
 unfold L0 at hr ⊢
 split at hr
 ·rename_i x;cases hd:c.dec x with
  |none=>rw[hd] at hr;cases hr
  |some a =>
   rw[hd] at hr;obtain⟨h1,h2⟩:=DT.run_guard_some (show (DT.guard (c.grd x) (k a)).run=some r from hr)
   show (DT.guard (c.grd x) (k' a)).run=some r;rw[h1];exact h a r h2
 ·cases hr
theorem vc7:i6 prog G 33 Cb5:=λargs blks r out he=>yc5 args blks r out (Rd7 (λx r hr=>by
 obtain⟨h1,hr⟩:=DT.run_guard_some hr;obtain⟨h2,hr⟩:=DT.run_guard_some hr;rw[h1];have e:(R5 x).1::(R5 x).2=o7 x:=by
  unfold R5;cases h:o7 x with
  |nil=>rw[h] at h2;cases h2
  |cons a l=>rfl
 rw[e] at hr;exact hr) he)
end Go.Ev.Ce
namespace Go.Ev
open Go Go.ChangeShapes Go.RowKit
structure vc8(w w':World):Prop where
 os:w'.os=w.os
 output:w'.output=w.output
 size:w.heap.size<=w'.heap.size
 block:∀k,k<w.heap.size->w'.heap[k]?=w.heap[k]?
theorem vc8.kept{w w':World}(h:vc8 w w')(may:MemPlace->Prop):w.keptBut w' may:=by
 refine⟨h.os,h.output,λi hi=>?_⟩
 rw[h.block i hi];cases w.heap[i]? with
 |none=>rfl
 |some o=>cases o<;>first | exact⟨rfl,rfl,rfl,λ_ _=>rfl⟩ | exact .inr ⟨rfl,rfl⟩ | rfl
theorem vc8.frozen{w w':World}(h:vc8 w w')(b off:Nat)(hb:b<w.heap.size):w'.frozen? ⟨b,off,none⟩=w.frozen? ⟨b,off,none⟩:=by
 simp only[World.frozen?,h.block b hb]
theorem vc8.cell{w w':World}(h:vc8 w w')(b off:Nat)(hb:b<w.heap.size):w'.cell? ⟨b,off,none⟩=w.cell? ⟨b,off,none⟩:=by
 simp only[World.cell?,h.block b hb]
theorem vc8.same{w w':World}(h:vc8 w w')(p:MemPlace)(hp:p.block<w.heap.size):w.sameAt w' p:=by
 cases p with
 |cell b off=>exact h.cell b off hp
 |map b=>exact h.block b hp
theorem tb9{α β:Type}{f:α->Option β}:∀{l:List α} {r:List β},l.mapM f=some r->r.length=l.length/\∀(j:Nat) y,r[j]?=some y->∃x,l[j]?=some x/\f x=some y
 |[],r,h=>by
  have:r=[]:=by simpa using h.symm
  subst this;simp
 |x::l,r,h=>by
  rw[List.mapM_cons] at h;obtain⟨y,h1,h2⟩:=Qkp.1 h;obtain⟨r',h3,h4⟩:=Qkp.1 h2
  have:r=y::r':=by simpa using h4.symm
  subst this;obtain⟨g1,g2⟩:=tb9 h3;refine⟨by simp[g1],λj z hz=>?_⟩
  cases j with
  |zero=>simp at hz;subst hz;exact⟨x,rfl,h1⟩
  |succ j=>simpa using g2 j z (by simpa using hz)
section
variable{D:Type}{enc:TypeId×Value->D}{P:Program}
theorem Cb6 {T : TypeId → Prop} (K : Kids P T) (hsz : ∀ {t e : TypeId}, T t → P.underlying t = some (.slice e) → 0 < P.cellsOf e) {w w' : World} {sp : Nat → Bool} (hs : vc8 w w') :
  ∀{ts:List TypeId} {vs:List Value} {ds:List (DataW D)} {ps:List MemPlace},(∀t∈ts,T t)->DataW.TrodAll enc P w 0 (λ_=>true) true ts vs ds ps->(∀p∈ps,p.block<w.heap.size)->(∀p∈ps,sp p.block=true)->DataW.TrodAll enc P w' 0 sp true ts vs ds ps
 |[],[],[],_,_,h,_,_=>h
 |t::ts,v::vs,d::ds,ps,ht,h,hlt,hsp=>by
  obtain⟨p,q,⟨fuel,h1⟩,h2,rfl⟩:=h;refine⟨p,q,⟨fuel,?_⟩,Cb6 K hsz hs (λt h=>ht t (by simp[h])) h2 (λx hx=>hlt x (by simp[hx])) (λx hx=>hsp x (by simp[hx])),rfl⟩
  exact DataW.trod_stays K hsz (λh=>by cases h) (ht t (by simp)) h1 (λx hx=>hs.same x (hlt x (by simp at hx ⊢;exact .inl hx))) (λx hx=>hsp x (by simp at hx ⊢;exact .inl hx))
 |[],_::_,_,_,_,h,_,_=>h.elim
 |[],[],_::_,_,_,h,_,_=>h.elim
 |_::_,[],_,_,_,h,_,_=>h.elim
 |_::_,_::_,[],_,_,h,_,_=>h.elim
theorem Rd8 {T : TypeId → Prop} (K : Kids P T) (hsz : ∀ {t e : TypeId}, T t → P.underlying t = some (.slice e) → 0 < P.cellsOf e) {f : Func} {s : ChangeSpec} {apart fresh handsOn again : Bool} {W W' : World} {args : Array Value} {ds gs : List (DataW D)} {before : List MemPlace} {tb : TypeId}
  (hT:∀t∈f.params.toList,T t) (hW:DataW.Whole enc P f.params.toList s.vars apart W args.toList ds gs before) (hv:s.vars=[]) (hr:f.resultTypes=#[tb]) (hb:P.underlying tb=some .bool)
  (h1:(s.fn D ds).results=[.lit (.bool true)]) (h2:(s.fn D ds).args=ds) (h3:(s.fn D ds).vars=[]) (hs:vc8 W W') :
  s.post enc P f apart fresh handsOn again W args (.bool true) W':=by
 have hlt:=hW.lt;obtain⟨pa,pv,hA,hV,hps,hz,hn⟩:=id hW;rw[hv] at hV;have hpv:gs=[]/\pv=[]:=by
  cases gs with
  |nil=>exact⟨rfl,hV⟩
  |cons=>exact hV.elim
 obtain⟨rfl,rfl⟩:=hpv;rw[<- Qkac ds] at h1 h3;have h2:(s.fn D (ds++[])).args=ds:=by rw[Qkac];exact h2
 have hpa:before=pa:=by rw[hps];simp
 subst hpa;have hagain:∀sp:Nat->Bool,(∀p∈before,sp p.block=true)->DataW.TrodAll enc P W' 0 sp true f.params.toList args.toList ds before:=λsp h=>Cb6 K hsz hs hT hA hlt h
 have hres:∀(b:Nat) (sp:Nat->Bool) (hd:Bool),DataW.TrodAll enc P W' b sp hd f.resultTypes.toList ((Value.bool true).resultList f.resultTypes.size) [.lit (.bool true)] []:=λb sp hd=>by
  rw[hr];exact⟨[],[],⟨1,by simp[DataW.trod,hb,Value.cells,Value.resultList]⟩,rfl,rfl⟩
 have hvars:∀sp:Nat->Bool,DataW.TrodVars enc P W' sp s.vars ([]:List (DataW D)) []:=λsp=>by rw[hv];exact rfl
 have hok:∀(j:Nat) (t:TypeId) (r:Value),f.resultTypes[j]?=some t->((Value.bool true).resultList f.resultTypes.size)[j]?=some r->Value.okWide P W' .any 0 t r:=by
  rw[hr];intro j t r h4 h5;cases j with
  |zero =>
   simp at h4
   subst h4
   have:r=.bool true:=by simpa [Value.resultList] using h5.symm
   subst this;exact okWide_bool_mk hb _
  |succ j=>simp at h4
 have hag:DataW.TrodAll enc P W' 0 (λ_=>true) true (f.resultTypes.toList++f.params.toList) ((Value.bool true).resultList f.resultTypes.size++args.toList) (.lit (.bool true)::ds) before:=by
  have:=hagain (λ_=>true) (λ_ _=>rfl)
  rw[hr];exact⟨[],before,⟨1,by simp[DataW.trod,hb,Value.cells,Value.resultList]⟩,this,rfl⟩
 refine⟨ds,[],before,[],before,[],hW,?_,?_,?_,hs.kept _,λ_=>?_⟩
 ·rw[h1];exact hres _ _ _
 ·rw[h2];exact hagain _ λp hp=>by simpa using hlt p hp
 ·rw[h3];exact hvars _
 ·refine⟨hok,.lit (.bool true)::ds,[],before,⟨before,[],hag,hvars _,by simp,?_,?_⟩,?_⟩
  ·intro b off hp;rw[hs.frozen b off (hlt _ hp)];exact hz b off (by simpa using hp)
  ·intro ha;simpa using hn ha
  ·intro p hp _;exact hp
variable{w:World}{base:Nat}{spare:Nat->Bool}{held:Bool}
def Qc3(w:World):Fz:=λb o=>(w.cell? ⟨b,o,none⟩).isSome
theorem te0 {fuel : Nat} {t : TypeId} {k : IntKind} {cs : List Value} {x : DataW D × List MemPlace} (ht : P.underlying t = some (.int k)) (h : DataW.trod enc P w base spare held fuel t cs = some x) :
  ∃n,cs=[.int k n]/\(Lit.int k n).wf=true/\x.1=.lit (.int k n):=by
 cases fuel with
 |zero=>cases h
 |succ fuel =>
  match cs,h with
  |[],h=>simp[DataW.trod,ht] at h
  |[v],h =>
   cases v with
   |int k' n =>
    simp only[DataW.trod,ht] at h
    split at h
    ·rename_i hk;obtain⟨rfl,hw⟩:=hk;injection h with h;subst h
     exact⟨n,rfl,hw,rfl⟩
    ·cases h
   |_=>simp[DataW.trod,ht] at h
  |a::b::r,h=>simp[DataW.trod,ht] at h
theorem fe7 {fuel : Nat} {t : TypeId} {cs : List Value} {x : DataW D × List MemPlace} (ht : P.underlying t = some .bool) (h : DataW.trod enc P w base spare held fuel t cs = some x) :
  ∃n,cs=[.bool n]/\x.1=.lit (.bool n):=by
 cases fuel with
 |zero=>cases h
 |succ fuel =>
  match cs,h with
  |[],h=>simp[DataW.trod,ht] at h
  |[v],h =>
   cases v with
   |bool n =>
    simp only[DataW.trod,ht] at h;injection h with h;subst h
    exact⟨n,rfl,rfl⟩
   |_=>simp[DataW.trod,ht] at h
  |a::b::r,h=>simp[DataW.trod,ht] at h
theorem Rd9 {fuel : Nat} {t e : TypeId} {n : Nat} {cs : List Value} {x : DataW D × List MemPlace} (ht : P.underlying t = some (.array n e)) (h : DataW.trod enc P w base spare held fuel t cs = some x) :
  cs.length=P.cellsOf t/\∃(fuel':Nat) (xs:List (DataW D×List MemPlace)),xs.length=n/\x.1=.agg (xs.map (·.1))/\∀(j:Nat) y,xs[j]?=some y->DataW.trod enc P w base spare held fuel' e ((cs.drop (j*P.cellsOf e)).take (P.cellsOf e))=some y:=by
 cases fuel with
 |zero=>cases h
 |succ fuel =>
  unfold DataW.trod at h;rw[ht] at h
  simp only at h
  split at h
  ·rename_i hl;obtain⟨xs,h1,h2⟩:=Qkal.1 h;have hx:=tb9 h1;exact⟨hl,fuel,xs,by simpa using hx.1,by rw[<- h2],λj y hy=>by
    obtain⟨a,ha,hb⟩:=hx.2 j y hy
    have:j<n:=by
     have:=(List.getElem?_eq_some_iff.1 hy).1
     rw[hx.1] at this;simpa using this
    rw[Qkae this] at ha;injection ha with ha;subst ha;exact hb⟩
  ·cases h
theorem Bd8 {fuel : Nat} {t : TypeId} {fs : Array Field} {cs : List Value} {x : DataW D × List MemPlace} (ht : P.underlying t = some (.struct fs)) (h : DataW.trod enc P w base spare held fuel t cs = some x) :
  cs.length=P.cellsOf t/\∃(fuel':Nat) (xs:List (DataW D×List MemPlace)),xs.length=fs.size/\x.1=.agg (xs.map (·.1))/\∀(j:Nat) f,fs[j]?=some f->∃y,xs[j]?=some y/\DataW.trod enc P w base spare held fuel' f.type ((cs.drop f.offset).take (P.cellsOf f.type))=some y:=by
 cases fuel with
 |zero=>cases h
 |succ fuel =>
  unfold DataW.trod at h;rw[ht] at h
  simp only at h
  split at h
  ·rename_i hl;obtain⟨xs,h1,h2⟩:=Qkal.1 h;have hx:=tb9 h1;refine⟨hl,fuel,xs,by simpa using hx.1,by rw[<- h2],λj f hf=>?_⟩
   have hj:j<xs.length:=by
    rw[hx.1];simpa using (Array.getElem?_eq_some_iff.1 hf).1
   obtain⟨a,ha,hb⟩:=hx.2 j _ (Qkm hj)
   have:a=f:=by
    have:fs.toList[j]?=some f:=by simpa using hf
    exact Option.some.inj (ha.symm.trans this)
   subst this;exact⟨_,Qkm hj,hb⟩
  ·cases h
theorem Sd0 {fuel : Nat} {t e : TypeId} {cs : List Value} {x : DataW D × List MemPlace} (ht : P.underlying t = some (.slice e)) (h : DataW.trod enc P w base spare held fuel t cs = some x) :
  cs=[.slice none 0 0]\/∃(a:Addr) (n cap fuel':Nat),cs=[.slice (some a) n cap]/\n<=cap/\cap<=maxLen/\∀j,j<n->∃row y,w.cells? base (a.add (j*P.cellsOf e)) (P.cellsOf e)=some row/\DataW.trod enc P w base spare held fuel' e row=some y:=by
 cases fuel with
 |zero=>cases h
 |succ fuel =>
  match cs,h with
  |[],h=>simp[DataW.trod,ht] at h
  |[v],h =>
   cases v with
   |slice a len cap =>
    cases a with
    |none =>
     simp only[DataW.trod,ht] at h
     split at h<;>first | (rename_i e1;cases e1;done) | skip
     all_goals first | exact .inl rfl | (simp_all;done) | skip
    |some a =>
     refine .inr ?_;simp only[DataW.trod,ht] at h
     split at h
     ·rename_i hc;obtain⟨elems,h1,h2⟩:=Qkp.1 h;have hx:=tb9 h1;refine⟨a,len,cap,fuel,rfl,hc.2.1,hc.2.2,λj hj=>?_⟩
      have hj':j<elems.length:=by rw[hx.1];simpa using hj
      obtain⟨i,hi,hb⟩:=hx.2 j _ (Qkm hj');rw[Qkae hj] at hi;injection hi with hi;subst hi;obtain⟨row,r1,r2⟩:=Qkp.1 hb;exact⟨row,_,r1,r2⟩
     ·cases h
   |_=>simp[DataW.trod,ht] at h
  |a::b::r,h=>simp[DataW.trod,ht] at h
theorem sd9:∀(d:Nat) (t:TypeId) (l:List (Nat×CK)),S9 P d t=some l->∀(fuel:Nat) (cs:List Value) (x:DataW D×List MemPlace),DataW.trod enc P w base spare held fuel t cs=some x->∀p∈l,qa3 cs.toArray p
 |0,_,_,h,_,_,_,_=>by cases h
 |d+1,t,l,h,fuel,cs,x,hx=>by
  have hpart:∀{off n:Nat} {e:TypeId} {l':List (Nat×CK)} {fuel':Nat} {y:DataW D×List MemPlace},ob6 off n (S9 P d e)=some l'->DataW.trod enc P w base spare held fuel' e ((cs.drop off).take n)=some y->∀p∈l',qa3 cs.toArray p:=λ{off n e l' fuel' y} h1 h2 p hp=>by
   obtain⟨l2,g1,g2,rfl⟩:=xa2 h1;obtain⟨q,hq,rfl⟩:=Qkb.1 hp
   have:=sd9 d e l2 g1 fuel' _ y h2 q hq
   have hlt:=g2 q hq;unfold qa3 at this ⊢;simp only[List.getElem?_toArray,List.getElem?_take,hlt,if_true,List.getElem?_drop] at this ⊢;exact this
  have hcat:∀{α:Type} (f:α->Option (List (Nat×CK))) (xs:List α) (l:List (Nat×CK)),ea0 (xs.map f)=some l->∀p∈l,∃a∈xs,∃l',f a=some l'/\p∈l':=λ{α} f xs=>by
   induction xs with
   |nil=>intro l h;simp only[List.map_nil,ea0] at h;injection h with h;subst h;simp
   |cons a xs ih =>
    intro l h p hp;simp only[List.map_cons,ea0] at h;cases h1:f a with
    |none=>simp[h1] at h
    |some l1 =>
    cases h2:ea0 (xs.map f) with
    |none=>simp[h1,h2] at h
    |some l2 =>
    simp only[h1,h2] at h;injection h with h;subst h
    rcases Qki.1 hp with hp|hp
    ·exact⟨a,by simp,l1,h1,hp⟩
    ·obtain⟨b,hb,r⟩:=ih l2 h2 p hp;exact⟨b,by simp[hb],r⟩
  unfold S9 at h;cases hu:P.underlying t with
  |none=>simp[hu] at h
  |some u =>
  cases u with
  |int k =>
   simp only[hu] at h;injection h with h;subst h
   obtain⟨n,rfl,_,_⟩:=te0 hu hx;intro p hp;simp at hp;subst hp;exact⟨n,rfl⟩
  |bool =>
   simp only[hu] at h;injection h with h;subst h
   obtain⟨n,rfl,_⟩:=fe7 hu hx;intro p hp;simp at hp;subst hp;exact⟨n,rfl⟩
  |struct fs =>
   simp only[hu] at h
   split at h
   ·cases h
   obtain⟨_,fuel',xs,_,_,hxs⟩:=Bd8 hu hx;intro p hp;obtain⟨f,hf,l',h1,h2⟩:=hcat _ _ _ h p hp
   split at h1
   ·cases h1
   obtain⟨j,hj⟩:=List.getElem?_of_mem hf;obtain⟨y,_,hy⟩:=hxs j f (by simpa using hj)
   have hc:P.cellsOf f.type=szT P f.type:=by
    unfold Program.cellsOf szT;cases P.info? f.type<;>rfl
   rw[hc] at hy;exact hpart h1 hy p h2
  |array n e =>
   simp only[hu] at h
   split at h
   case isFalse=>cases h
   obtain⟨_,fuel',xs,hn,_,hxs⟩:=Rd9 hu hx;intro p hp;obtain⟨j,hj,l',h1,h2⟩:=hcat _ _ _ h p hp;have hj':j<xs.length:=by rw[hn];simpa using hj
   have hy:=hxs j _ (Qkm hj');have hc:P.cellsOf e=szT P e:=by
    unfold Program.cellsOf szT;cases P.info? e<;>rfl
   rw[hc] at hy;exact hpart h1 hy p h2
  |_=>simp[hu] at h
def sa7(k:IntKind)(es:Nat)(g:Nat->Int):List c7:=(List.range es).map λc=>.v (.int k (g c))
def za4(k:IntKind)(es:Nat):List (Nat×CK):=(List.range es).map λc=>(c,.int k)
theorem td0 {d : Nat} {t : TypeId} {k : IntKind} {es : Nat} (hf : S9 P d t = some (za4 k es)) {fuel : Nat} {cs : List Value} {x : DataW D × List MemPlace} (hx : DataW.trod enc P w base spare held fuel t cs = some x) (hl : cs.length = es) :
  ∃g:Nat->Int,∀c,c<es->cs[c]?=some (.int k (g c)):=by
 have h:=sd9 d t _ hf fuel cs x hx;have h':∀c,∃n:Int,c<es->cs[c]?=some (.int k n):=λc=>by
  by_cases hc:c<es
  ·have:=h (c,.int k) (Qkb.2 ⟨c,by simpa using hc,rfl⟩)
   obtain⟨n,hn⟩:=this;exact⟨n,λ_=>by simpa using hn⟩
  ·exact⟨0,λh=>absurd h hc⟩
 exact⟨λc=>Classical.choose (h' c),λc hc=>Classical.choose_spec (h' c) hc⟩
theorem Sd1{F:Fz}{w:World}(k:IntKind)(n:Int):U8 F w (.v (.int k n)) (.int k n):=.v _ rfl
theorem vc9{k:IntKind}{es:Nat}{g:Nat->Int}{c:Nat}{x:c7}(h:(sa7 k es g)[c]?=some x):c<es/\x=.v (.int k (g c)):=by
 unfold sa7 at h;obtain⟨h1,h2⟩:=za1 h;exact⟨h1,h2.symm⟩
theorem Ac4 {t e : TypeId} {k : IntKind} {es d : Nat} (ht : P.underlying t = some (.slice e)) (hf : S9 P d e = some (za4 k es)) (hes : P.cellsOf e = es) (h0 : 0 < es) {fuel : Nat} {cs : List Value} {x : DataW D × List MemPlace} (hx : DataW.trod enc P w 0 spare held fuel t cs = some x) :
  ∃(v:Value) (n:Nat) (g:Nat->Nat->Int),cs=[v]/\n<=maxLen/\U8 (Qc3 w) w (.tree es n λj=>sa7 k es (g j)) v:=by
 rcases Sd0 ht hx with rfl|⟨a,n,cap,fuel',rfl,hn,hc,hel⟩
 ·exact⟨_,0,λ_ _=>0,rfl,Qkz _,.nil _ _⟩
 ·rw[hes] at hel;have hcell:∀j,j<n->∃g:Nat->Int,∀c,c<es->w.cell? ((a.add (j*es)).add c)=some (.int k (g c)):=λj hj=>by
   obtain⟨row,y,h1,h2⟩:=hel j hj;unfold World.cells? at h1
   split at h1
   ·obtain⟨l1,l2⟩:=tb9 h1;have hl:row.length=es:=by simpa using l1
    obtain⟨g,hg⟩:=td0 hf h2 hl;refine⟨g,λc hc=>?_⟩
    obtain⟨i,hi,hi2⟩:=l2 c _ (hg c hc);rw[Qkae hc] at hi;injection hi with hi;subst hi;exact hi2
   ·cases h1
  have hg:∀j,∃g:Nat->Int,j<n->∀c,c<es->w.cell? ((a.add (j*es)).add c)=some (.int k (g c)):=λj=>by
   by_cases hj:j<n
   ·obtain⟨g,hg⟩:=hcell j hj;exact⟨g,λ_=>hg⟩
   ·exact⟨λ_=>0,λh=>absurd h hj⟩
  obtain⟨g,hg⟩:=Classical.axiomOfChoice hg;have hspot:0<n->a.spot=none:=λhn=>by
   have:=hg 0 hn 0 h0
   simpa [Addr.add] using World.cell?_spot this
  have hw:∀j c,j<n->c<es->w.cell? ⟨a.block,a.off+(j*es+c),none⟩=some (.int k (g j c)):=λj c hj hc=>by
   have:=hg j hj c hc
   rw[R7 (hspot (by omega)),R7 rfl] at this
   simpa [Nat.add_assoc] using this
  refine⟨_,n,g,rfl,Qkaj hn hc,.tree es n _ a cap (λj c=>.int k (g j c)) hspot hn (λi hi=>by simp[sa7]) (λi c hi hc=>?_) hw λi c hi hc=>?_⟩
  ·unfold Qc3;rw[hw i c hi hc];rfl
  ·have:=(vc9 (Qkm hc)).2
   rw[this];exact Sd1 _ _
theorem Bd9(w:World):r7 (λk=>w.heap.size<=k) (λ_=>⟨0,0,0⟩) [] (Qc3 w) w :=
 ⟨λid b h=>by simp at h,λid id' b b' h=>by simp at h,λ_ _ h=>h,λ_ h=>h⟩
theorem Cd0 {G : Nat → List Value} {f : FuncId} {S : Sum} (hS : i6 P G f S) {aargs : List c7} {args : List Value} (hrun : ∃ out, (S aargs []).run = some (b true, out)) (hl : aargs.length = args.length)
  (ha:∀(i:Nat) x x',aargs[i]?=some x->args[i]?=some x'->V7 (λ_=>⟨0,0,0⟩) [] (Qc3 w) w x x') (hG:∀g (c:Nat) x,(G g)[c]?=some x->x.oneCell'=true/\w.cell? ⟨g,c,none⟩=some x) :
  Calls P f args.toArray w λe w'=>e=.returned (.bool true)/\vc8 w w':=by
 obtain⟨out,hrun⟩:=hrun;obtain⟨_,hc⟩:=hS aargs [] (b true) out hrun (λk=>w.heap.size<=k) (λ_=>⟨0,0,0⟩) (Qc3 w) w args (Bd9 w) hl (λi x x' h1 h2=>.val (ha i x x' h1 h2)) (λg c x hx=>by
  obtain⟨h1,h2⟩:=hG g c x hx;exact⟨h1,by unfold Qc3;rw[h2];rfl,h2⟩)
 refine hc.mono λe w' ⟨r',he,ρ',F',hA,hH,hW⟩=>?_
 have:=Z3 hW
 subst this;exact⟨he,hA.ext.os,hA.ext.output,hA.ext.size,λk hk=>hA.ext.block k hk (by omega)⟩
theorem fe8 {ρ : Rho} {H : List c9} {F : Fz} {t : TypeId} {k : IntKind} {es d : Nat} {v : Value} {dd : DataW D} {pp : List MemPlace} {bs : Nat} {r : Reach} (hag : agT P t = true) (hf : S9 P d t = some (za4 k es)) (hes : P.cellsOf t = es)
  (hok:Value.okWide P w r bs t v) (h:DataW.Trod enc P w base spare held t v dd pp):∃g:Nat->Int,V7 ρ H F w (.agg (sa7 k es g)) v:=by
 have hv:∃cs:Array Value,v=.agg cs/\cs.size=P.cellsOf t:=by
  unfold agT at hag;unfold Value.okWide at hok
  split at hag
  ·rename_i fs hu;rw[hu] at hok;obtain⟨cs,h1,h2,_⟩:=hok;exact⟨cs,h1,h2⟩
  ·rename_i n e hu;rw[hu] at hok;obtain⟨cs,h1,h2,_⟩:=hok;exact⟨cs,h1,h2⟩
  ·cases hag
 obtain⟨cs,rfl,hsz⟩:=hv;obtain⟨fuel,hx⟩:=h;have hx:DataW.trod enc P w base spare held fuel t cs.toList=some (dd,pp):=hx;obtain⟨g,hg⟩:=td0 hf hx (by simpa [hes] using hsz)
 refine⟨g,.agg _ _ (by simp[sa7,hsz,hes]) λc x x' h1 h2=>?_⟩
 obtain⟨hc,rfl⟩:=vc9 h1
 have:=hg c hc
 have h3:some x'=some (.int k (g c)):=by rw[<- h2];simpa using this
 injection h3 with h3;subst h3;exact .v _
theorem Cd1 {ρ : Rho} {H : List c9} {t e : TypeId} {k : IntKind} {es d : Nat} {v : Value} {dd : DataW D} {pp : List MemPlace} {bs : Nat} {r : Reach} (ht : P.underlying t = some (.slice e)) (hf : S9 P d e = some (za4 k es)) (hes : P.cellsOf e = es) (h0 : 0 < es)
  (hok:Value.okWide P w r bs t v) (h:DataW.Trod enc P w 0 spare held t v dd pp):∃(n:Nat) (g:Nat->Nat->Int),n<=maxLen/\V7 ρ H (Qc3 w) w (.tree es n λj=>sa7 k es (g j)) v:=by
 obtain⟨fuel,hx⟩:=h;obtain⟨v',n,g,h1,h2,h3⟩:=Ac4 ht hf hes h0 hx;have hv:v.cells=#[v]:=by
  unfold Value.okWide at hok;rw[ht] at hok;cases v with
  |agg cs=>exfalso;simp[Cell.okWide,Cell.ok,ht] at hok
  |_=>rfl
 rw[hv] at h1
 have:v=v':=by simpa using h1
 subst this;exact⟨n,g,h2,.cell (.mem h3)⟩
end
end Go.Ev
namespace Go.Ev.L
open Go Go.Ev
theorem Sd2 {α : Type} (t : Ty α) (n : Nat) (g : Nat → Nat → Int) (f : (Nat → Int) → α) (h : ∀ j, sa7 .i64 t.es (g j) = t.row (f (g j))) :
  ∃l,(ya3 t).dec (.tree t.es n λj=>sa7 .i64 t.es (g j))=some l/\(ya3 t).grd (.tree t.es n λj=>sa7 .i64 t.es (g j))=true:=by
 refine⟨lsL t n λj=>sa7 .i64 t.es (g j),?_,ab0 t (f:=λk=>f (g k)) λk _=>h k⟩
 show Bool.rec (motive:=λ_=>Option (List α)) none (some (lsL t n λj=>sa7 .i64 t.es (g j))) (Nat.beq t.es t.es)=_
 rw[Nat.beq_refl]
def Rdg{α:Type}(c:Cod α)(x:c7)(a:α):Prop:=c.dec x=some a/\c.grd x=true
theorem Sd3{α:Type}(t:Ty α)(n:Nat)(g:Nat->Nat->Int)(f:(Nat->Int)->α)(h:∀j,sa7 .i64 t.es (g j)=t.row (f (g j))):∃l,Rdg (ya3 t) (.tree t.es n λj=>sa7 .i64 t.es (g j)) l:=Sd2 t n g f h
theorem Sd4(n:Nat)(g:Nat->Nat->Int):∃l,Rdg (ya3 tI) (.tree 1 n λj=>sa7 .i64 1 (g j)) l:=Sd3 tI n g (λg=>g 0) λ_=>rfl
theorem fe9{α:Type}(t:Ty α){cs:List c7}(h:t.ok cs=true):∃a,Rdg (Z4 t) (.agg cs) a:=⟨t.rd cs,by
 show Bool.rec (motive:=λ_=>Option α) none (some (t.rd cs)) (t.ok cs)=_
 rw[h],rfl⟩
section
variable{α β γ δ ε:Type}{c:Cod α}{d:Cod β}{e:Cod γ}{f:Cod δ}{c5:Cod ε}{x y z w v:c7}{a:α}{b':β}{g:γ}{j:δ}{m:ε}{r:c7×List c9}
theorem He3{k:α->β->γ->DT (c7×List c9)}(h1:Rdg c x a)(h2:Rdg d y b')(h3:Rdg e z g)(h:(k a b' g).run=some r):(Kb1 c d e k [x,y,z] []).run=some r:=by
 unfold Kb1;simp only[h1.1,h1.2,h2.1,h2.2,h3.1,h3.2];exact h
end
theorem te1{g p:Bool}(hg:g=true)(hp:p=true):(DT.guard g (.ret ((one r1B).enc p,([]:List c9)))).run=some (b true,([]:List c9)):=by subst hg;subst hp;rfl
end Go.Ev.L
namespace Go.Ev.Ce
open Go Go.Ev Go.Ev.L Go.Proofs
structure B3 where
 b0:Int
 b1:Int
 b2:Int
structure B2 where
 d0:Int
 d1:Int
structure LL where
 u:List Int
 v:List Int
def dU:c7->Option Int
 |.v (.int .u8 n)=>some n
 |_=>none
theorem Ae3{x:c7}{n:Int}(h:dU x=some n):x=.v (.int .u8 n):=by
 unfold dU at h
 split at h
 ·cases h;rfl
 ·cases h
def cU:Cod Int:=⟨λn=>.v (.int .u8 n),dU,λ_=>true,λ_ _ h _=>.of (Ae3 h)⟩
set_option maxRecDepth 100000
def Ac5:List (Nat×Sum):=[]
theorem wc0:j9 prog G Ac5:=trivial
def Ba9(x:V3)(y:V3):Option (c7×List c9):=(sl (decide (y.x<=x.x)) (some (i 0,[])) (sl (decide (y.y<=x.y)) (some (i 0,[])) (sl (decide (y.z<=x.z)) (some (i 0,[])) (some (i (W ((W ((W (y.x-x.x))*(W (y.y-x.y))))*(W (y.z-x.z)))),[])))))
def K0(x:V3)(y:V3):Int:=V0 (one r1I) (Ba9 x y)
def R6(x:V3)(y:V3):Bool:=okO (one r1I) (Ba9 x y)
def lb0:Sum:=Ha4 (Z4 tV) (Z4 tV) (λx y=>.guard (R6 x y) (.ret ((one r1I).enc (K0 x y),[])))
theorem Cb7:i6 prog G 15 lb0:=Sb1 (bd b15 wc0) (one r1I) (o:=Ba9) λx y=>y5 (by kernel_rfl)
def wc1:List (Nat×Sum):=[(11,Ba6),(25,uc3),(15,lb0)]
theorem gc4:j9 prog G wc1:=⟨Ga9,cd1,Cb7,trivial⟩
def ua6(x:List V3)(y:V3)(z:V3):Option (c7×List c9):=let t1:=(F9 (rt tV x));let t2:=(kb5 (rt tV x));let t3:=(K0 (⟨(if t2.1.x>y.x then t2.1.x else y.x),(if t2.1.y>y.y then t2.1.y else y.y),(if t2.1.z>y.z then t2.1.z else y.z)⟩:V3) (⟨(if t2.2.1.x<z.x then t2.2.1.x else z.x),(if t2.2.1.y<z.y then t2.2.1.y else z.y),(if t2.2.1.z<z.z then t2.2.1.z else z.z)⟩:V3));(sl (okE tV x) (sl (G3 (rt tV x)) (sl (t1.2 != 0) (some (.tup [i 0,i t1.2],[])) (sl (okE tV x) (sl (kb6 (rt tV x)) (sl (R6 (⟨(if t2.1.x>y.x then t2.1.x else y.x),(if t2.1.y>y.y then t2.1.y else y.y),(if t2.1.z>y.z then t2.1.z else y.z)⟩:V3) (⟨(if t2.2.1.x<z.x then t2.2.1.x else z.x),(if t2.2.1.y<z.y then t2.2.1.y else z.y),(if t2.2.1.z<z.z then t2.2.1.z else z.z)⟩:V3)) (some ((.tup [(i (if (W (6*t3))<t1.1 then (W (6*t3)) else t1.1)),i 0]),[])) none) none) none)) none) none)
def Ha0(x:List V3)(y:V3)(z:V3):Int×Int:=V0 (two r1I r1I) (ua6 x y z)
def Ha1(x:List V3)(y:V3)(z:V3):Bool:=okO (two r1I r1I) (ua6 x y z)
def Cb8:Sum:=Kb1 (ya3 tV) (Z4 tV) (Z4 tV) (λx y z=>.guard (Ha1 x y z) (.ret ((two r1I r1I).enc (Ha0 x y z),[])))
theorem wc2:i6 prog G 13 Cb8:=Xd6 (bd b13 gc4) (two r1I r1I) (o:=ua6) λx y z=>y5 (by kernel_rfl)
def Qc4:List (Nat×Sum):=[]
theorem Ac6:j9 prog G Qc4:=trivial
def A9(x:Int)(y:Int)(z:Int):V3:=(⟨x,y,z⟩:V3)
def ub0:Sum:=Kb1 cI cI cI (λx y z=>.ret ((one r1V).enc (A9 x y z),[]))
theorem Qb3:i6 prog G 17 ub0:=nd8 (bd b17 Ac6) λx y z=>y5 (by kernel_rfl)
def wc3:List (Nat×Sum):=[(17,ub0)]
theorem gc5:j9 prog G wc3:=⟨Qb3,trivial⟩
def ea9(x:V3):V3:=let t1:=(A9 (Int.tmod x.x 12) (Int.tmod x.y 12) (Int.tmod x.z 12));t1
def Cb9:Sum:=L0 (Z4 tV) (λx=>.ret ((one r1V).enc (ea9 x),[]))
theorem wc4:i6 prog G 10 Cb9:=ib0 (bd b10 gc5) λx=>y5 (by kernel_rfl)
def gc6:List (Nat×Sum):=[(33,Cb5)]
theorem Xb8:j9 prog G gc6:=⟨vc7,trivial⟩
def pa9(x:List Int):Option (c7×List c9):=let t1:=(R5 (lsL tI ((if 40<(↑(List.length x):Int) then 40 else (↑(List.length x):Int)).toNat-0) (λk=>(λk=>(tI).row (gL tI x k)) (0+k))));(sl (inB (if 40<(↑(List.length x):Int) then 40 else (↑(List.length x):Int)) ((List.length x)+1)) (sl (okL tI ((if 40<(↑(List.length x):Int) then 40 else (↑(List.length x):Int)).toNat-0) (λk=>(λk=>(tI).row (gL tI x k)) (0+k))) (sl (Ma3 (lsL tI ((if 40<(↑(List.length x):Int) then 40 else (↑(List.length x):Int)).toNat-0) (λk=>(λk=>(tI).row (gL tI x k)) (0+k)))) (sl (Nat.ble 1 (List.length (o7 (lsL tI ((if 40<(↑(List.length x):Int) then 40 else (↑(List.length x):Int)).toNat-0) (λk=>(λk=>(tI).row (gL tI x k)) (0+k)))))) (some (eL tV (t1.1::t1.2),[])) none) none) none) none)
def Ca0(x:List Int):List V3:=V0 (one (r1L tV)) (pa9 x)
def Ca1(x:List Int):Bool:=okO (one (r1L tV)) (pa9 x)
def ub1:Sum:=L0 (ya3 tI) (λx=>.guard (Ca1 x) (.ret ((one (r1L tV)).enc (Ca0 x),[])))
theorem gc7:i6 prog G 9 ub1:=Da4 (bd b9 Xb8) (one (r1L tV)) (o:=pa9) λx=>y5 (by kernel_rfl)
def Qc5:List (Nat×Sum):=[(11,Ba6)]
theorem Ac7:j9 prog G Qc5:=⟨Ga9,trivial⟩
def Ja0(x:List V3)(y:Int):Option (c7×List c9):=let t1:=(F9 (rt tV x));(sl (okE tV x) (sl (G3 (rt tV x)) (sl (t1.2==0) (some (b (t1.1==y),[])) (some (b false,[]))) none) none)
def S7(x:List V3)(y:Int):Bool:=V0 (one r1B) (Ja0 x y)
def S8(x:List V3)(y:Int):Bool:=okO (one r1B) (Ja0 x y)
def ub2:Sum:=Ha4 (ya3 tV) cI (λx y=>.guard (S8 x y) (.ret ((one r1B).enc (S7 x y),[])))
theorem Qb4:i6 prog G 21 ub2:=Sb1 (bd b21 Ac7) (one r1B) (o:=Ja0) λx y=>y5 (by kernel_rfl)
def Ac8:List (Nat×Sum):=[(13,Cb8)]
theorem wc5:j9 prog G Ac8:=⟨wc2,trivial⟩
def Ca2(x:List V3)(y:V3)(z:V3)(w:Int):Option (c7×List c9):=let t1:=(Ha0 (rt tV x) y z);(sl (okE tV x) (sl (Ha1 (rt tV x) y z) (sl (t1.2==0) (some (b (t1.1==w),[])) (some (b false,[]))) none) none)
def X6(x:List V3)(y:V3)(z:V3)(w:Int):Bool:=V0 (one r1B) (Ca2 x y z w)
def ia5(x:List V3)(y:V3)(z:V3)(w:Int):Bool:=okO (one r1B) (Ca2 x y z w)
def Qb5:Sum:=wd3 (ya3 tV) (Z4 tV) (Z4 tV) cI (λx y z w=>.guard (ia5 x y z w) (.ret ((one r1B).enc (X6 x y z w),[])))
theorem Ac9:i6 prog G 26 Qb5:=Be6 (bd b26 wc5) (one r1B) (o:=Ca2) λx y z w=>y5 (by kernel_rfl)
def gc8:List (Nat×Sum):=[(17,ub0),(11,Ba6),(21,ub2),(24,Cb0),(15,lb0),(26,Qb5)]
theorem Xb9:j9 prog G gc8:=⟨Qb3,Ga9,Qb4,uc5,Cb7,Ac9,trivial⟩
def qa0  : Option (c7×List c9):=let t1:=(A9 0 0 0);let t2:=(A9 5 5 5);let t3:=(A9 2 0 0);let t4:=(A9 0 2 0);let t5:=(A9 0 0 2);let t6:=(A9 1 0 0);let t7:=(A9 0 1 0);let t8:=(A9 1 1 0);let t9:=(F9 [t1,t6,t7,t8]);let t10:=(F9 [(⟨0,0,0⟩:V3),(⟨0,0,0⟩:V3),(⟨0,0,0⟩:V3),(⟨0,0,0⟩:V3),(⟨0,0,0⟩:V3),(⟨0,0,0⟩:V3),(⟨0,0,0⟩:V3),(⟨0,0,0⟩:V3),(⟨0,0,0⟩:V3),(⟨0,0,0⟩:V3),(⟨0,0,0⟩:V3),(⟨0,0,0⟩:V3),(⟨0,0,0⟩:V3),(⟨0,0,0⟩:V3),(⟨0,0,0⟩:V3),(⟨0,0,0⟩:V3),(⟨0,0,0⟩:V3),(⟨0,0,0⟩:V3),(⟨0,0,0⟩:V3),(⟨0,0,0⟩:V3),(⟨0,0,0⟩:V3),(⟨0,0,0⟩:V3),(⟨0,0,0⟩:V3),(⟨0,0,0⟩:V3),(⟨0,0,0⟩:V3),(⟨0,0,0⟩:V3),(⟨0,0,0⟩:V3),(⟨0,0,0⟩:V3),(⟨0,0,0⟩:V3),(⟨0,0,0⟩:V3),(⟨0,0,0⟩:V3),(⟨0,0,0⟩:V3),(⟨0,0,0⟩:V3),(⟨0,0,0⟩:V3),(⟨0,0,0⟩:V3),(⟨0,0,0⟩:V3),(⟨0,0,0⟩:V3),(⟨0,0,0⟩:V3),(⟨0,0,0⟩:V3),(⟨0,0,0⟩:V3),(⟨0,0,0⟩:V3),(⟨0,0,0⟩:V3),(⟨0,0,0⟩:V3),(⟨0,0,0⟩:V3),(⟨0,0,0⟩:V3),(⟨0,0,0⟩:V3),(⟨0,0,0⟩:V3),(⟨0,0,0⟩:V3),(⟨0,0,0⟩:V3)]);let t11:=(S7 [t1,t3,t4,t5] 8);let t12:=(A9 1 2 3);let t13:=(cb3 t1 t12);let t14:=(S7 (rt tV t13) 36);let t15:=(K0 t1 t12);let t16:=(A9 1 0 3);let t17:=(K0 t1 t16);let t18:=(A9 (-1) (-1) 3);let t19:=(K0 t1 t18);let t20:=(A9 1 1 1);let t21:=(X6 [t1,t3,t4,t5] t1 t20 6);let t22:=(X6 [t1,t3,t4,t5] t1 t2 8);let t23:=(A9 3 0 0);let t24:=(A9 4 4 4);let t25:=(X6 [t1,t3,t4,t5] t23 t24 0);let w0:Option (c7×List c9):=(sl (R6 t1 t12) (sl (t15==6) (sl (R6 t1 t16) (sl (t17==0) (sl (R6 t1 t18) (some (b false,[])) none) (some (b false,[]))) none) (some (b false,[]))) none);(sl (G3 [t1,t6,t7,t8]) (sl (G3 [(⟨0,0,0⟩:V3),(⟨0,0,0⟩:V3),(⟨0,0,0⟩:V3),(⟨0,0,0⟩:V3),(⟨0,0,0⟩:V3),(⟨0,0,0⟩:V3),(⟨0,0,0⟩:V3),(⟨0,0,0⟩:V3),(⟨0,0,0⟩:V3),(⟨0,0,0⟩:V3),(⟨0,0,0⟩:V3),(⟨0,0,0⟩:V3),(⟨0,0,0⟩:V3),(⟨0,0,0⟩:V3),(⟨0,0,0⟩:V3),(⟨0,0,0⟩:V3),(⟨0,0,0⟩:V3),(⟨0,0,0⟩:V3),(⟨0,0,0⟩:V3),(⟨0,0,0⟩:V3),(⟨0,0,0⟩:V3),(⟨0,0,0⟩:V3),(⟨0,0,0⟩:V3),(⟨0,0,0⟩:V3),(⟨0,0,0⟩:V3),(⟨0,0,0⟩:V3),(⟨0,0,0⟩:V3),(⟨0,0,0⟩:V3),(⟨0,0,0⟩:V3),(⟨0,0,0⟩:V3),(⟨0,0,0⟩:V3),(⟨0,0,0⟩:V3),(⟨0,0,0⟩:V3),(⟨0,0,0⟩:V3),(⟨0,0,0⟩:V3),(⟨0,0,0⟩:V3),(⟨0,0,0⟩:V3),(⟨0,0,0⟩:V3),(⟨0,0,0⟩:V3),(⟨0,0,0⟩:V3),(⟨0,0,0⟩:V3),(⟨0,0,0⟩:V3),(⟨0,0,0⟩:V3),(⟨0,0,0⟩:V3),(⟨0,0,0⟩:V3),(⟨0,0,0⟩:V3),(⟨0,0,0⟩:V3),(⟨0,0,0⟩:V3),(⟨0,0,0⟩:V3)]) (sl (S8 [t1,t3,t4,t5] 8) (sl t11 (sl (cb4 t1 t12) (sl (okE tV t13) (sl (S8 (rt tV t13) 36) (sl t14 (sl (t9.2==11) (sl (R6 t1 t12) (sl (t15==6) (sl (R6 t1 t16) (sl (t17==0) (sl (R6 t1 t18) (sl (t10.2==2) (sl (t19==0) (sl (ia5 [t1,t3,t4,t5] t1 t20 6) (sl t21 (sl (ia5 [t1,t3,t4,t5] t1 t2 8) (sl t22 (sl (ia5 [t1,t3,t4,t5] t23 t24 0) (some (b t25,[])) none) (some (b false,[]))) none) (some (b false,[]))) none) (some (b false,[]))) (some (b false,[]))) none) (sl (t10.2==2) (some (b false,[])) (some (b false,[])))) none) (sl (t10.2==2) (some (b false,[])) (some (b false,[])))) none) w0) w0) none) none) none) w0) none) none) none)
def Ca3  : Bool:=V0 (one r1B) qa0
def Ca4  : Bool:=okO (one r1B) qa0
def ub3:Sum:=gd6  (.guard Ca4 (.ret ((one r1B).enc Ca3,[])))
theorem gc9:i6 prog G 8 ub3:=Be5 (bd b8 Xb9) (one r1B) (o:=qa0) (y5 (by kernel_rfl))
structure Cd2 where
 Hc3:List V3
 Be4:List Pln
 (w6 Ud4:Int)
 He4:List V3
 (Wa5 e8 e7 g8 m0:Int)
structure Cd3 where
 H6:Int
structure Cd4 where
 w6:Int
structure Cd5 where
 Hc3:List V3
 Be4:List Pln
 Ud4:Int
def bxS(s:V3×V3)(v:V3):V3×V3:=(⟨if v.x<s.1.x then v.x else s.1.x,if v.y<s.1.y then v.y else s.1.y,if v.z<s.1.z then v.z else s.1.z⟩,⟨if v.x>s.2.x then v.x else s.2.x,if v.y>s.2.y then v.y else s.2.y,if v.z>s.2.z then v.z else s.2.z⟩)
def bxL:List V3->V3×V3×Bool
 |[]=>(⟨0,0,0⟩,⟨0,0,0⟩,false)
 |v::l=>(((v::l).foldl bxS (v,v)).1,((v::l).foldl bxS (v,v)).2,true)
def bxT(l:List V3)(j:Nat):V3×V3:=(l.take j).foldl bxS (gL tV l 0,gL tV l 0)
theorem Sd5{l:List V3}{j:Nat}(hj:j<l.length):bxT l (j+1)=bxS (bxT l j) (gL tV l j):=by
 unfold bxT;rw[jb9 tV hj,List.foldl_append];rfl
theorem Ae4{l:List V3}(h:l≠[]):bxL l=((bxT l l.length).1,(bxT l l.length).2,true):=by
 cases l with
 |nil=>exact absurd rfl h
 |cons v l =>
  unfold bxT;rw[Qkai];rfl
theorem ke0(l:List V3)(hl:l.length<=1000000):Va2 l=some (.tup [.agg [i (bxL l).1.x,i (bxL l).1.y,i (bxL l).1.z],.agg [i (bxL l).2.1.x,i (bxL l).2.1.y,i (bxL l).2.1.z],b (bxL l).2.2],[]):=by
 by_cases hne:l=[]
 ·subst hne;rfl
 have hp:0<l.length:=List.length_pos_iff.2 hne;obtain⟨t,s,h,rfl,k,rfl⟩:=X4 (step:=ma0 ⟨l,(l.length:Int)⟩) (mk:=λj (q:V3×V3)=>(⟨(j:Int),q.1.x,q.1.y,q.1.z,q.2.x,q.2.y,q.2.z⟩:da5)) l.length (λj q=>j<=l.length/\q=bxT l j) (λt s=>t=1/\∃k:Int,s=⟨k,(bxT l l.length).1.x,(bxT l l.length).1.y,(bxT l l.length).1.z,(bxT l l.length).2.x,(bxT l l.length).2.y,(bxT l l.length).2.z⟩) (by omega)
  (λj q hj hi=>by
   obtain⟨_,rfl⟩:=hi;have hn:=D0 hj (show l.length<=4611686018427387904 by omega)
   simp only[ma0,pa5,Int.toNat_natCast,hn];rw[btD (q7 hj),bt (i8 hj)];exact .nx ⟨bxT l (j+1),by rw[Sd5 hj];rfl,by omega,rfl⟩)
  (λj q hj hi=>by
   obtain⟨hje,rfl⟩:=hi;have hje:j=l.length:=by omega
   subst hje;refine⟨1,?_,rfl,_,rfl⟩;simp only[ma0,pa5];rw[bfD (A6 (Qks _))]) 0 (bxT l 0) ⟨Qkz _,rfl⟩
 have h:lp (ma0 ⟨l,(l.length:Int)⟩) ⟨0,(gL tV l 0).x,(gL tV l 0).y,(gL tV l 0).z,(gL tV l 0).x,(gL tV l 0).y,(gL tV l 0).z⟩=_:=h;unfold Va2;simp only[o6,l9,h];rw[bf (show ((l.length:Int)==0)=false from by rw[beq_eq_false_iff_ne];omega),bt (show inB 0 l.length=true from i8 (j:=0) hp),Ae4 hne,bt (show inB 0 l.length=true from i8 (j:=0) hp)]
 rfl
theorem Ae5(l:List V3)(hl:l.length<=1000000):kb5 l=bxL l:=by unfold kb5;rw[ke0 l hl];rfl
theorem Ae6(l:List V3)(hl:l.length<=1000000):kb6 l=true:=by unfold kb6;rw[ke0 l hl];rfl
theorem te2(x y:V3):∃n,Ba9 x y=some (i n,[]):=by
 unfold Ba9 sl;cases decide (y.x<=x.x)<;>cases decide (y.y<=x.y)<;>cases decide (y.z<=x.z)<;>exact⟨_,rfl⟩
theorem Sd6(x y:V3):R6 x y=true:=by
 obtain⟨n,h⟩:=te2 x y;unfold R6;rw[h];rfl
def ge0(s:V3×V3×Bool)(y:V3):V3:=⟨if s.1.x>y.x then s.1.x else y.x,if s.1.y>y.y then s.1.y else y.y,if s.1.z>y.z then s.1.z else y.z⟩
def td1(s:V3×V3×Bool)(z:V3):V3:=⟨if s.2.1.x<z.x then s.2.1.x else z.x,if s.2.1.y<z.y then s.2.1.y else z.y,if s.2.1.z<z.z then s.2.1.z else z.z⟩
def nb0(l:List V3)(y z:V3):Int×Int:=if (Q8 l).2=0 then ((if W (6*K0 (ge0 (bxL l) y) (td1 (bxL l) z))<(Q8 l).1 then W (6*K0 (ge0 (bxL l) y) (td1 (bxL l) z)) else (Q8 l).1),0) else (0,(Q8 l).2)
theorem Sd7(l:List V3)(y z:V3)(hl:l.length<=900000):ua6 l y z=some (.tup [i (nb0 l y z).1,i (nb0 l y z).2],[]):=by
 unfold ua6 nb0;simp only[o6,ma3,l9,Hc0 l hl,Hc1 l hl,Ae5 l (by omega),Ae6 l (by omega),Sd6]
 by_cases h:(Q8 l).2=0
 ·rw[if_pos h,bf (show ((Q8 l).2 != 0)=false from by rw[bne_eq_false_iff_eq];exact h)]
  rfl
 ·rw[if_neg h,bt (show ((Q8 l).2 != 0)=true from bne_iff_ne.2 h)]
  rfl
theorem te3(l:List V3)(y z:V3)(hl:l.length<=900000):Ha0 l y z=nb0 l y z:=by unfold Ha0;rw[Sd7 l y z hl];rfl
theorem te4(l:List V3)(y z:V3)(hl:l.length<=900000):Ha1 l y z=true:=by unfold Ha1;rw[Sd7 l y z hl];rfl
theorem Sd8(l:List V3)(n:Int)(hl:l.length<=900000):Ja0 l n=some (b (decide ((Q8 l).2=0/\(Q8 l).1=n)),[]):=by
 unfold Ja0;simp only[o6,ma3,Hc0 l hl,Hc1 l hl];by_cases h:(Q8 l).2=0
 ·rw[bt rfl,bt rfl,bt (beq_iff_eq.2 h)];by_cases h2:(Q8 l).1=n
  ·rw[decide_eq_true ⟨h,h2⟩,beq_iff_eq.2 h2]
  ·rw[decide_eq_false (λk=>h2 k.2),beq_eq_false_iff_ne.2 h2]
 ·rw[bt rfl,bt rfl,bf (beq_eq_false_iff_ne.2 h),decide_eq_false (λk=>h k.1)]
theorem Qc6(l:List V3)(n:Int)(hl:l.length<=900000):S7 l n=decide ((Q8 l).2=0/\(Q8 l).1=n):=by unfold S7;rw[Sd8 l n hl];rfl
theorem Qc7(l:List V3)(n:Int)(hl:l.length<=900000):S8 l n=true:=by unfold S8;rw[Sd8 l n hl];rfl
theorem td2(l:List V3)(y z:V3)(n:Int)(hl:l.length<=900000):Ca2 l y z n=some (b (decide ((nb0 l y z).2=0/\(nb0 l y z).1=n)),[]):=by
 unfold Ca2;simp only[o6,ma3,te3 l y z hl,te4 l y z hl];by_cases h:(nb0 l y z).2=0
 ·rw[bt rfl,bt rfl,bt (beq_iff_eq.2 h)];by_cases h2:(nb0 l y z).1=n
  ·rw[decide_eq_true ⟨h,h2⟩,beq_iff_eq.2 h2]
  ·rw[decide_eq_false (λk=>h2 k.2),beq_eq_false_iff_ne.2 h2]
 ·rw[bt rfl,bt rfl,bf (beq_eq_false_iff_ne.2 h),decide_eq_false (λk=>h k.1)]
theorem Qc8(l:List V3)(y z:V3)(n:Int)(hl:l.length<=900000):X6 l y z n=decide ((nb0 l y z).2=0/\(nb0 l y z).1=n):=by unfold X6;rw[td2 l y z n hl];rfl
theorem ge1(l:List V3)(y z:V3)(n:Int)(hl:l.length<=900000):ia5 l y z n=true:=by unfold ia5;rw[td2 l y z n hl];rfl
theorem Sd9{l d:List V3}{n:Int}(hc:aa5 l=0)(hd:d.Pairwise LtV)(hm:∀v,v∈l↔v∈d)(hn:V6l (d.filter (kv (F0 l)))=n):Q8 l=(n,0):=by
 have e:dis l=d:=Ia9 _ _ (tc4 _) hd λv=>by rw[Ya9];exact hm v
 unfold Q8 ea8;rw[if_pos hc,e,hn]
def tt:List V3:=[⟨0,0,0⟩,⟨2,0,0⟩,⟨0,2,0⟩,⟨0,0,2⟩]
theorem Td0:Q8 tt=(8,0):=by
 refine Sd9 (d:=[⟨0,0,0⟩,⟨0,0,2⟩,⟨0,2,0⟩,⟨2,0,0⟩]) (by kernel_rfl) (by simp[LtV]) (λv=>?_) (by kernel_rfl)
 unfold tt;simp only[Qke,Qkaa,or_false]
 constructor<;>rintro (h | h | h | h)<;>simp[h]
def qd:List V3:=[⟨0,0,0⟩,⟨1,0,0⟩,⟨0,2,0⟩,⟨1,2,0⟩,⟨0,0,3⟩,⟨1,0,3⟩,⟨0,2,3⟩,⟨1,2,3⟩]
theorem te5:Q8 qd=(36,0):=by
 refine Sd9 (d:=[⟨0,0,0⟩,⟨0,0,3⟩,⟨0,2,0⟩,⟨0,2,3⟩,⟨1,0,0⟩,⟨1,0,3⟩,⟨1,2,0⟩,⟨1,2,3⟩]) (by kernel_rfl) (by simp[LtV]) (λv=>?_) (by kernel_rfl)
 unfold qd;simp only[Qke,Qkaa,or_false]
 constructor<;>rintro (h | h | h | h | h | h | h | h)<;>simp[h]
theorem te6:Q8 [⟨0,0,0⟩,⟨1,0,0⟩,⟨0,1,0⟩,⟨1,1,0⟩]=(0,11):=by
 have h:aa5 [⟨0,0,0⟩,⟨1,0,0⟩,⟨0,1,0⟩,⟨1,1,0⟩]=11:=by kernel_rfl
 unfold Q8;rw[h,if_neg (by omega)]
theorem Td1:Q8 (List.replicate 49 ⟨0,0,0⟩)=(0,2):=by
 have h:aa5 (List.replicate 49 ⟨0,0,0⟩)=2:=by kernel_rfl
 unfold Q8;rw[h,if_neg (by omega)]
theorem te7:bxL tt=(⟨0,0,0⟩,⟨2,2,2⟩,true):=by kernel_rfl
theorem Qc9(y z:V3)(n:Int)(h:(if W (6*K0 (ge0 (⟨0,0,0⟩,⟨2,2,2⟩,true) y) (td1 (⟨0,0,0⟩,⟨2,2,2⟩,true) z))<8 then W (6*K0 (ge0 (⟨0,0,0⟩,⟨2,2,2⟩,true) y) (td1 (⟨0,0,0⟩,⟨2,2,2⟩,true) z)) else 8)=n):nb0 tt y z=(n,0):=by
 unfold nb0;rw[Td0,te7,if_pos rfl];show (_,_)=_;rw[h]
theorem cd9:qa0=some (b true,[]):=by
 have e49:∀n m:V3,F9 (List.replicate 49 ⟨0,0,0⟩)=(0,2)/\G3 (List.replicate 49 ⟨0,0,0⟩)=true:=λ_ _=>⟨by rw[Hc0 _ (by simp),Td1],Hc1 _ (by simp)⟩
 have v:∀x y z,A9 x y z=⟨x,y,z⟩:=λ_ _ _=>rfl
 have hc:cb3 ⟨0,0,0⟩ ⟨1,2,3⟩=qd:=by kernel_rfl
 have hcg:cb4 ⟨0,0,0⟩ ⟨1,2,3⟩=true:=by kernel_rfl
 have s1:S7 tt 8=true:=by rw[Qc6 _ _ (by simp[tt]),Td0];rfl
 have s1g:S8 tt 8=true:=Qc7 _ _ (by simp[tt])
 have s2:S7 qd 36=true:=by rw[Qc6 _ _ (by simp[qd]),te5];rfl
 have s2g:S8 qd 36=true:=Qc7 _ _ (by simp[qd])
 have f1:F9 [⟨0,0,0⟩,⟨1,0,0⟩,⟨0,1,0⟩,⟨1,1,0⟩]=(0,11):=by rw[Hc0 _ (by simp),te6]
 have f1g:G3 [⟨0,0,0⟩,⟨1,0,0⟩,⟨0,1,0⟩,⟨1,1,0⟩]=true:=Hc1 _ (by simp)
 have m1:X6 tt ⟨0,0,0⟩ ⟨1,1,1⟩ 6=true:=by rw[Qc8 _ _ _ _ (by simp[tt]),Qc9 _ _ 6 (by kernel_rfl)];rfl
 have m2:X6 tt ⟨0,0,0⟩ ⟨5,5,5⟩ 8=true:=by rw[Qc8 _ _ _ _ (by simp[tt]),Qc9 _ _ 8 (by kernel_rfl)];rfl
 have m3:X6 tt ⟨3,0,0⟩ ⟨4,4,4⟩ 0=true:=by rw[Qc8 _ _ _ _ (by simp[tt]),Qc9 _ _ 0 (by kernel_rfl)];rfl
 have mg:∀y z n,ia5 tt y z n=true:=λy z n=>ge1 _ _ _ _ (by simp[tt])
 have b1:K0 ⟨0,0,0⟩ ⟨1,2,3⟩=6:=by kernel_rfl
 have b2:K0 ⟨0,0,0⟩ ⟨1,0,3⟩=0:=by kernel_rfl
 have b3:K0 ⟨0,0,0⟩ ⟨-1,-1,3⟩=0:=by kernel_rfl
 have t0:[(⟨0,0,0⟩:V3),⟨2,0,0⟩,⟨0,2,0⟩,⟨0,0,2⟩]=tt:=rfl;obtain⟨q1,q2⟩:=e49 ⟨0,0,0⟩ ⟨0,0,0⟩;simp only[List.replicate] at q1 q2;unfold qa0;simp only[v,o6,ma3,q1,q2,hc,hcg,t0,s1,s1g,s2,s2g,f1,f1g,m1,m2,m3,mg,b1,b2,b3,Sd6];rfl
theorem md2:Ca3=true:=by unfold Ca3;rw[cd9];rfl
theorem md3:Ca4=true:=by unfold Ca4;rw[cd9];rfl
def X7(l:List V3):List V3:=ea8 (F0 l) l
theorem Qb6(l:List V3):(X7 l).Pairwise LtV:=(tc4 l).filter _
def CN(p:Pln)(X:List V3)(o:V3):Int:=AR (onF p X) p.n (d9 (ptF p X) o)
theorem Ae7{p:Pln}{X Y:List V3}(h:onF p X=onF p Y)(o:V3):CN p X o=CN p Y o:=by unfold CN ptF;rw[h]
theorem Td2{l:List V3}(hl:l.all inV=true)(h4:Sol l){p:Pln}(hp:∀u∈l,dot p.n u<=p.b){w:V3}:w∈onF p (X7 l)↔w∈l/\dot p.n w=p.b/\∃m,∀u∈l,dot p.n u=p.b->u≠w->dot m u<dot m w:=by
 rw[J9];constructor
 ·rintro⟨hw,e⟩;have hwl:=Ba8 hl h4 hw;obtain⟨m,hm⟩:=(Qb2 hl h4 hwl).1 hw;exact⟨hwl,e,m,λu hu _ hne=>hm u hu hne⟩
 ·rintro⟨hw,e,m,hm⟩;refine⟨(Qb2 hl h4 hw).2 ?_,e⟩;obtain⟨N,hN,hb⟩:=big m (l.map λu=>⟨d9 u w,0⟩)
  refine⟨⟨m.x+(N+1)*p.n.x,m.y+(N+1)*p.n.y,m.z+(N+1)*p.n.z⟩,λu hu hne=>?_⟩
  have hd:∀t:V3,dot ⟨m.x+(N+1)*p.n.x,m.y+(N+1)*p.n.y,m.z+(N+1)*p.n.z⟩ t=dot m t+(N+1)*dot p.n t:=λt=>by simp only[dot];grind
  rw[hd,hd,e];by_cases hup:dot p.n u=p.b
  ·rw[hup]
   have:=hm u hu hup hne
   omega
  ·have h1:=hp u hu;have h2:dot (d9 u w) m<=N:=(hb _ (Qkb.2 ⟨u,hu,rfl⟩)).1;have h3:dot (d9 u w) m=dot m u-dot m w:=by simp only[dot,d9];grind
   have h5:(N+1)*dot p.n u<=(N+1)*(p.b-1):=Qkad (by omega) (by omega)
   rw[Int.mul_sub,Int.mul_one] at h5;omega
theorem Ae8{l l':List V3}(hl:l.all inV=true)(h4:Sol l)(hl':l'.all inV=true)(h4':Sol l'){p:Pln}(hp:∀u∈l,dot p.n u<=p.b)(hp':∀u∈l',dot p.n u<=p.b)(hs:∀u,dot p.n u=p.b->(u∈l↔u∈l')):onF p (X7 l)=onF p (X7 l'):=by
 refine Ia9 _ _ ((Qb6 l).filter _) ((Qb6 l').filter _) λw=>?_
 rw[Td2 hl h4 hp,Td2 hl' h4' hp'];constructor
 ·rintro⟨hw,e,m,hm⟩;exact⟨(hs w e).1 hw,e,m,λu hu eu hne=>hm u ((hs u eu).2 hu) eu hne⟩
 ·rintro⟨hw,e,m,hm⟩;exact⟨(hs w e).2 hw,e,m,λu hu eu hne=>hm u ((hs u eu).1 hu) eu hne⟩
theorem te8{l l':List V3}(hl:l.all inV=true)(hl':l'.all inV=true)(hs:∀u,u∈l'↔u∈l):F0 l'=F0 l:=by
 refine wb9 (tb5 _) (tb5 _) λp=>?_
 rw[A2 hl',A2 hl];constructor
 ·rintro⟨⟨hd,u,w,x,hu,hw,hx,hr⟩,ok⟩;exact⟨⟨λv hv=>hd v ((hs v).2 hv),u,w,x,(hs u).1 hu,(hs w).1 hw,(hs x).1 hx,hr⟩,ok⟩
 ·rintro⟨⟨hd,u,w,x,hu,hw,hx,hr⟩,ok⟩;exact⟨⟨λv hv=>hd v ((hs v).1 hv),u,w,x,(hs u).2 hu,(hs w).2 hw,(hs x).2 hx,hr⟩,ok⟩
theorem Sol.same{l l':List V3}(h:Sol l)(hs:∀u∈l,u∈l'):Sol l':=by
 obtain⟨a,c,k,v,ha,hc,hk,hv,hne⟩:=h;exact⟨a,c,k,v,hs a ha,hs c hc,hs k hk,hs v hv,hne⟩
theorem Td3{l l':List V3}(hc:aa5 l=0)(h48:l'.length<=48)(hs:∀u,u∈l'↔u∈l):Q8 l'=Q8 l:=by
 obtain⟨_,hl,h4⟩:=Y9 hc;have hl':l'.all inV=true:=Qkc.2 λu hu=>Qkc.1 hl u ((hs u).1 hu)
 have h4':Sol l':=h4.same λu hu=>(hs u).2 hu
 have hc':=Ea8 h48 hl' h4';have e:X7 l'=X7 l:=by
  unfold X7 ea8;rw[te8 hl hl' hs,show dis l'=dis l from Ia9 _ _ (tc4 l') (tc4 l) λv=>Iff.trans (Ya9 l' v) ((hs v).trans (Ya9 l v).symm)]
 unfold Q8;rw[if_pos hc,if_pos hc',show ea8 (F0 l') l'=_ from e]
 rfl
theorem ge2{l:List V3}(hc:aa5 l=0):Q8 (X7 l)=Q8 l:=by
 obtain⟨h48,hl,h4⟩:=Y9 hc;have e:X7 (X7 l)=X7 l:=by
  refine Ia9 _ _ (Qb6 _) (Qb6 _) λv=>?_
  have k1:=Qb1 (l:=X7 l) (jc5 hl h4) v;have k2:=Qb1 hl v;rw[show F0 (X7 l)=F0 l from ld8 hl h4] at k1
  unfold X7 at k1 ⊢;rw[show F0 (ea8 (F0 l) l)=F0 l from ld8 hl h4,k1,k2]
  exact⟨λh=>h.1,λh=>⟨h,h.2⟩⟩
 unfold Q8;rw[if_pos hc,if_pos (show aa5 (X7 l)=0 from fe2 hl h4 h48),show ea8 (F0 (X7 l)) (X7 l)=_ from e]
 rfl
section
variable{l:List V3}(hc:aa5 l=0)
include hc
theorem td3:Pol (X7 l):=by
 obtain⟨_,hl,h4⟩:=Y9 hc;exact sd7 hl h4
theorem dd0(o:V3):Q8 l=(sig (F0 l) λp=>CN p (X7 l) o,0):=by
 obtain⟨_,hl,h4⟩:=Y9 hc;have h:=(td3 hc).v6l o;unfold Q8;rw[if_pos hc];show (V6l (X7 l),(0:Int))=_;rw[<- h];unfold V6;rw[show F0 (X7 l)=F0 l from ld8 hl h4]
 rfl
theorem jc6{p:Pln}(hp:p∈F0 l)(o:V3):(dot p.n o<p.b->0<CN p (X7 l) o)/\(dot p.n o=p.b->CN p (X7 l) o=0)/\(p.b<dot p.n o->CN p (X7 l) o<0):=by
 obtain⟨_,hl,h4⟩:=Y9 hc;exact (td3 hc).cone (sd3 hl h4 ((A2 hl p).1 hp)) o
theorem ge3{v:V3}(hv:inV v=true){l':List V3}(h48:l'.length<=48)(hs:∀u,u∈l'↔u∈l\/u=v):Q8 l'=(sig (F0 l) λp=>if dot p.n v<p.b then CN p (X7 l) v else 0,0):=by
 obtain⟨_,hl,h4⟩:=Y9 hc;have hl':l'.all inV=true:=Qkc.2 λu hu=>by
  rcases (hs u).1 hu with h|rfl
  ·exact Qkc.1 hl u h
  ·exact hv
 have h4':Sol l':=h4.same λu hu=>(hs u).2 (.inl hu)
 have hc':=Ea8 h48 hl' h4';have on:∀p:Pln,dot p.n v<p.b->∀u,dot p.n u=p.b->(u∈l↔u∈l'):=λp hlt u hu=>by
  rw[hs];refine⟨.inl,λh=>h.resolve_right λe=>?_⟩
  subst e;omega
 have iff:∀p:Pln,dot p.n v<p.b->(p∈F0 l'↔p∈F0 l):=λp hlt=>by
  rw[A2 hl',A2 hl];constructor
  ·rintro⟨⟨hd,u,w,x,hu,hw,hx,h3,e1,e2,e3⟩,ok⟩;exact⟨⟨λt ht=>hd t ((hs t).2 (.inl ht)),u,w,x,(on p hlt u e1).2 hu,(on p hlt w e2).2 hw,(on p hlt x e3).2 hx,h3,e1,e2,e3⟩,ok⟩
  ·rintro⟨⟨hd,u,w,x,hu,hw,hx,h3,e1,e2,e3⟩,ok⟩;refine⟨⟨λt ht=>?_,u,w,x,(on p hlt u e1).1 hu,(on p hlt w e2).1 hw,(on p hlt x e3).1 hx,h3,e1,e2,e3⟩,ok⟩
   rcases (hs t).1 ht with h|rfl
   ·exact hd t h
   ·omega
 rw[dd0 hc' v];congr 1;have term:sig (F0 l') (λp=>CN p (X7 l') v)=sig (F0 l') (λp=>if decide (dot p.n v<p.b)=true then CN p (X7 l) v else 0):=N5 λp hp=>by
  have hpS:=(A2 hl' p).1 hp;by_cases hlt:dot p.n v<p.b
  ·rw[if_pos (decide_eq_true hlt)];exact Ae7 (Ae8 hl' h4' hl h4 hpS.hd ((A2 hl p).1 ((iff p hlt).1 hp)).hd λu hu=>(on p hlt u hu).symm) v
  ·rw[if_neg (by simpa using hlt)]
   have:=hpS.hd v ((hs v).2 (.inr rfl))
   exact (jc6 hc' hp v).2.1 (by omega)
 have term':sig (F0 l) (λp=>if dot p.n v<p.b then CN p (X7 l) v else 0)=sig (F0 l) (λp=>if decide (dot p.n v<p.b)=true then CN p (X7 l) v else 0):=N5 λp _=>by
  by_cases hlt:dot p.n v<p.b
  ·rw[if_pos hlt,if_pos (decide_eq_true hlt)]
  ·rw[if_neg hlt,if_neg (by simpa using hlt)]
 rw[term,term',<- Fa0,<- Fa0];refine Qd1 ((Rd1 l').filter _) ((Rd1 l).filter _) λp=>?_
 rw[Qkh,Qkh,decide_eq_true_eq];constructor
 ·rintro⟨h1,h2⟩;exact⟨(iff p h2).1 h1,h2⟩
 ·rintro⟨h1,h2⟩;exact⟨(iff p h2).2 h1,h2⟩
theorem Td4{v:V3}(hv:inV v=true){l':List V3}(h48:l'.length<=48)(hs:∀u,u∈l'↔u∈l\/u=v):(Q8 l').2=0/\(Q8 l).1<=(Q8 l').1/\((Q8 l).1<(Q8 l').1↔∃p∈F0 l,p.b<dot p.n v):=by
 have e1:=ge3 hc hv h48 hs;have e2:=dd0 hc v;have nn:∀p∈F0 l,0<=(if dot p.n v<p.b then CN p (X7 l) v else 0)-CN p (X7 l) v:=λp hp=>by
  obtain⟨k1,k2,k3⟩:=jc6 hc hp v;by_cases hlt:dot p.n v<p.b
  ·rw[if_pos hlt];omega
  ·rw[if_neg hlt];by_cases he:dot p.n v=p.b
   ·rw[k2 he];omega
   ·have:=k3 (by omega);omega
 have ed:sig (F0 l) (λp=>if dot p.n v<p.b then CN p (X7 l) v else 0)-sig (F0 l) (λp=>CN p (X7 l) v)=sig (F0 l) (λp=>(if dot p.n v<p.b then CN p (X7 l) v else 0)-CN p (X7 l) v):=(xb3 _ _ _).symm
 have hnn:=vc1 nn;have pos:∀L:List Pln,(∀p∈L,p∈F0 l)->(∃p∈L,p.b<dot p.n v)->0<sig L (λp=>(if dot p.n v<p.b then CN p (X7 l) v else 0)-CN p (X7 l) v):=λL=>by
  induction L with
  |nil=>rintro _ ⟨p,hp,_⟩;cases hp
  |cons q L ih =>
   rintro hL ⟨p,hp,hlt⟩;rw[m8];have h1:=nn q (hL q (by simp))
   have h2:0<=sig L (λp=>(if dot p.n v<p.b then CN p (X7 l) v else 0)-CN p (X7 l) v):=vc1 λr hr=>nn r (hL r (by simp[hr]))
   rcases Qke.1 hp with rfl|hp
   ·have h3:=(jc6 hc (hL p (by simp)) v).2.2 hlt
    rw[if_neg (by omega)]
    omega
   ·have:=ih (λr hr=>hL r (by simp[hr])) ⟨p,hp,hlt⟩
    omega
 rw[e1,e2];refine⟨rfl,by show _<=_;omega,?_⟩
 constructor
 ·intro hlt;have hlt:sig (F0 l) (λp=>CN p (X7 l) v)<sig (F0 l) (λp=>if dot p.n v<p.b then CN p (X7 l) v else 0):=hlt
  apply Qka;intro hno
  have:sig (F0 l) (λp=>(if dot p.n v<p.b then CN p (X7 l) v else 0)-CN p (X7 l) v)=0:=Ba7 λp hp=>by
   by_cases hb:dot p.n v<p.b
   ·rw[if_pos hb];omega
   ·rw[if_neg hb,(jc6 hc hp v).2.1 ?_]
    ·rfl
    ·apply Qka;intro hne;exact hno ⟨p,hp,by omega⟩
  omega
 ·intro hx
  have:=pos (F0 l) (λp h=>h) hx
  show sig (F0 l) _<sig (F0 l) _;omega
end
def ub4:List (Nat×Sum):=[(8,ub3),(9,ub1),(10,Cb9),(11,Ba6),(32,La5),(21,ub2),(29,uc2)]
theorem nb6:j9 prog G ub4:=⟨gc9,gc7,wc4,Ga9,gb0,Qb4,cd0,trivial⟩
def W4(x:List Int)(y:Int)(z:V3):Option (c7×List c9):=let t1:=Ca3;let t2:=(Ca0 (rt tI x));let t3:=(ea9 z);let t4:=(F9 (rt tV t2));let t5:=(ka8 (rt tV t2));let t8:=(S7 (rt tV t5.1) t4.1);let t9:=(Va0 (rt tV t2) t3);let a2:=(o5 (λk=>(tV).row (gL tV t2 k)) (List.range (List.length t2)));let t6:=(F9 (slR tV (app (app [] a2) [[i t3.x,i t3.y,i t3.z]]) 0 ((0+(len a2))+1)));let a3:=(Int.tmod (W y) (↑(List.length t2):Int));let a0:=(o5 (λk=>(λk=>(tV).row (gL tV t2 k)) (a3.toNat+k)) (List.range ((List.length t2)-a3.toNat)));let a1:=(o5 (λk=>(λk=>(tV).row (gL tV t2 k)) (0+k)) (List.range (a3.toNat-0)));let a4:=((0+(len a0))+(len a1));let t7:=(S7 (slR tV (app (app (app [] a0) a1) [[i (gL tV t2 a3.toNat).x,i (gL tV t2 a3.toNat).y,i (gL tV t2 a3.toNat).z]]) 0 (a4+1)) t4.1);(sl Ca4 (sl (okE tI x) (sl (Ca1 (rt tI x)) (sl ((↑(List.length t2):Int)==0) none (sl (okE tV t2) (sl (G3 (rt tV t2)) (sl (okE tV t2) (sl (ka9 (rt tV t2)) (sl (inB a3 ((List.length t2)+1)) (sl (Nat.beq 0 0&&Nat.ble ((0+(len a0))*24) room) (sl (inB a3 ((List.length t2)+1)) (sl (Nat.beq (0+(len a0)) (len (app [] a0))&&Nat.ble (a4*24) room) (sl (inB a3 (List.length t2)) (sl (Nat.beq a4 (len (app (app [] a0) a1))&&Nat.ble ((a4+1)*24) room) (sl (Nat.beq 0 0&&Nat.ble ((0+(len a2))*24) room) (sl (Nat.beq (0+(len a2)) (len (app [] a2))&&Nat.ble (((0+(len a2))+1)*24) room) (sl (okS tV (app (app [] a2) [[i t3.x,i t3.y,i t3.z]]) 0 ((0+(len a2))+1)) (sl (G3 (slR tV (app (app [] a2) [[i t3.x,i t3.y,i t3.z]]) 0 ((0+(len a2))+1))) (sl (t4.2 != 0) (some (b false,[])) (sl (t5.2 != 0) (some (b false,[])) (sl (t6.2 != 0) (some (b false,[])) (sl (okS tV (app (app (app [] a0) a1) [[i (gL tV t2 a3.toNat).x,i (gL tV t2 a3.toNat).y,i (gL tV t2 a3.toNat).z]]) 0 (a4+1)) (sl (S8 (slR tV (app (app (app [] a0) a1) [[i (gL tV t2 a3.toNat).x,i (gL tV t2 a3.toNat).y,i (gL tV t2 a3.toNat).z]]) 0 (a4+1)) t4.1) (sl (!t7) (some (b false,[])) (sl (okE tV t5.1) (sl (S8 (rt tV t5.1) t4.1) (sl (!t8) (some (b false,[])) (sl t1 (sl (decide (t6.1>=t4.1)) (sl (okE tV t2) (sl (Va1 (rt tV t2) t3) (some (b (!((decide (t6.1>t4.1))==t9)),[])) none) none) (some (b false,[]))) (some (b false,[])))) none) none)) none) none)))) none) none) none) none) none) none) none) none) none) none) none) none) none) none)) none) none) none)
def fa5(x:List Int)(y:Int)(z:V3):Bool:=V0 (one r1B) (W4 x y z)
def fa6(x:List Int)(y:Int)(z:V3):Bool:=okO (one r1B) (W4 x y z)
def yb7:Sum:=Kb1 (ya3 tI) cU (Z4 tV) (λx y z=>.guard (fa6 x y z) (.ret ((one r1B).enc (fa5 x y z),[])))
theorem ub5:i6 prog G 7 yb7:=Xd6 (bd b7 nb6) (one r1B) (o:=W4) λx y z=>y5 (by kernel_rfl)
theorem ge4(p:Pln)(v:V3):Oa2 ⟨p.n.x,p.n.y,p.n.z,p.b,v.x,v.y,v.z⟩=⟨1,decide (Q3 p v>0)⟩:=by
 unfold Oa2 ra9;simp only[xb1,kb1];rfl
theorem ge5 (l : List Pln) (v : V3) (hl : l.length ≤ 1000000000) :
  O6 ⟨l,v.x,v.y,v.z⟩=⟨1,if l.any (λp=>decide (Q3 p v>0)) then ((l.findIdx (λp=>decide (Q3 p v>0)):Nat):Int) else -1⟩:=by
 have h:=Na5 (step:=B7 ⟨l,(l.length:Int),v.x,v.y,v.z⟩) (mk:=λj=>(⟨(j:Int)⟩:l7)) (c:=λp=>decide (Q3 p v>0)) (u:=1) (fin:=2) tP l hl
  (λj hj=>by
   simp only[B7,A8,Int.toNat_natCast,ge4,D0 hj (show l.length<=4611686018427387904 by omega)]
   rw[btD (q7 hj),bt (i8 hj)]
   rfl)
  (by simp only[B7,A8];rw[bfD (A6 (Qks _))]) 0 (Qkz _)
 rw[List.drop_zero] at h;unfold O6 B4;simp only[o6,l9];rw[show (⟨0⟩:l7)=⟨((0:Nat):Int)⟩ from rfl,h]
 split
 ·simp only[Qkw];rfl
 ·rfl
theorem td4(l:List Pln)(v:V3)(hl:l.length<=1000000000):J8 ⟨l,v.x,v.y,v.z⟩=⟨1,l.any λp=>decide (Q3 p v>0)⟩:=by
 unfold J8 s6;simp only[o6,l9,ge5 l v hl];split
 ·rename_i h;rw[h,show decide (((l.findIdx (λp=>decide (Q3 p v>0)):Nat):Int)>=0)=true from decide_eq_true (by omega)];rfl
 ·rename_i h;rw[Bool.not_eq_true] at h;rw[h];rfl
theorem te9{l:List V3}(hc:aa5 l=0){v:V3}(hv:inV v=true)(hf:∀p∈F0 l,dot p.n v<=p.b):xa0 l v=some (b true,[]):=by
 obtain⟨h48,hl,h4⟩:=Y9 hc;have hne:1<=l.length:=by
  obtain⟨a,ha⟩:=h4.ne;exact Qkam ha
 have hg:ua4 l=true:=decide_eq_true ⟨hne,by omega⟩
 have hp:la9 l=(F0 l,0):=by unfold la9 ba4;rw[if_pos hc]
 have hF:=Pb5 h48 hl;have hany:(F0 l).any (λp=>decide (Q3 p v>0))=false:=by
  rw[List.any_eq_false];intro p hp' hs
  have:=(Ob6 ((A2 hl p).1 hp').ok hv).1 (of_decide_eq_true hs)
  have:=hf p hp'
  omega
 unfold xa0;simp only[o6,ma3,l9,hg,hp,(cb0 v).1,(cb0 v).2,hv,td4 (F0 l) v (by omega),hany]
 rfl
theorem pcE(x:List Int):(R5 x).1::(R5 x).2=o7 x:=by
 have h:=Zc3 x;unfold R5;cases hL:o7 x with
 |nil=>rw[hL] at h;simp at h
 |cons a l=>rfl
theorem wc6(x:List Int):pa9 x=some (eL tV (o7 (x.take 40)),[]):=by
 have hwl:((if (40:Int)<(↑(List.length x):Int) then (40:Int) else (↑(List.length x):Int)).toNat-0)=(x.take 40).length:=by
  rw[Qkak];split<;>omega
 have hin:inB (if (40:Int)<(↑(List.length x):Int) then (40:Int) else (↑(List.length x):Int)) (x.length+1)=true:=by
  split
  ·exact i8 (j:=40) (by omega)
  ·exact i8 (by omega)
 have hg:∀k,k<(x.take 40).length->(λk=>(λk=>tI.row (gL tI x k)) (0+k)) k=tI.row (gL tI (x.take 40) k):=λk hk=>by
  show tI.row (gL tI x (0+k))=_;have hk8:k<40:=by rw[Qkak] at hk;omega
  rw[Qkw,tc5 tI x hk8]
 have h4:Nat.ble 1 (o7 (x.take 40)).length=true:=by
  have:=(Zc3 (x.take 40)).1
  rw[Nat.ble_eq];omega
 unfold pa9;rw[hin,hwl,Rb9 tI rfl hg,ab0 tI (f:=λk=>gL tI (x.take 40) k) hg]
 simp only[Ld3,h4,pcE];rfl
theorem md4(x:List Int):Ca0 x=o7 (x.take 40):=by
 unfold Ca0;rw[wc6];exact Fc3 _ (by
  show (r1L tV).rd [] (eL tV _)=_;show Bool.rec (motive:=λ_=>Option (List V3)) none (some (rL tV (eL tV (o7 (x.take 40))))) (okE tV (o7 (x.take 40)))=_
  rw[ma3];exact congrArg some (o6 tV _))
theorem md5(x:List Int):Ca1 x=true:=by
 unfold Ca1;rw[wc6];exact Yc8 (one (r1L tV)) (r:=o7 (x.take 40)) (by
  show Bool.rec (motive:=λ_=>Option (List V3)) none (some (rL tV (eL tV (o7 (x.take 40))))) (okE tV (o7 (x.take 40)))=_
  rw[ma3];exact congrArg some (o6 tV _))
theorem Mp.chk{l:List V3}(h:Mp l):aa5 l=0:=Ea8 (by have:=h.l8;omega) h.inV (re4 h.nf)
theorem Td5(v:V3):Sm 11 (ea9 v).x/\Sm 11 (ea9 v).y/\Sm 11 (ea9 v).z:=by
 have h:∀n:Int,Sm 11 (Int.tmod n 12):=λn=>by
  have h1:=Int.tmod_lt_of_pos n (show (0:Int)<12 by omega)
  have h2:=Int.lt_tmod_of_pos n (show (0:Int)<12 by omega)
  exact⟨by omega,by omega⟩
 exact⟨h _,h _,h _⟩
theorem Cd6(v:V3):inV (ea9 v)=true:=by
 obtain⟨h1,h2,h3⟩:=Td5 v;exact (ra8 _).2 ⟨h1.mono (by omega),h2.mono (by omega),h3.mono (by omega)⟩
theorem td5{l:List V3}(hc:aa5 l=0){v:V3}(hv:inV v=true):xa0 l v=some (b (decide (∀p∈F0 l,dot p.n v<=p.b)),[]):=by
 by_cases hf:∀p∈F0 l,dot p.n v<=p.b
 ·rw[te9 hc hv hf,decide_eq_true hf]
 obtain⟨h48,hl,h4⟩:=Y9 hc;have hne:1<=l.length:=by
  obtain⟨a,ha⟩:=h4.ne;exact Qkam ha
 have hg:ua4 l=true:=decide_eq_true ⟨hne,by omega⟩
 have hp:la9 l=(F0 l,0):=by unfold la9 ba4;rw[if_pos hc]
 have hF:=Pb5 h48 hl;have hany:(F0 l).any (λp=>decide (Q3 p v>0))=true:=by
  rw[List.any_eq_true];apply Qka;intro hno;refine hf λp hp'=>?_
  apply Qka;intro hlt;exact hno ⟨p,hp',decide_eq_true ((Ob6 ((A2 hl p).1 hp').ok hv).2 (by omega))⟩
 rw[decide_eq_false hf];unfold xa0;simp only[o6,ma3,l9,hg,hp,(cb0 v).1,(cb0 v).2,hv,td4 (F0 l) v (by omega),hany]
 rfl
theorem Cd7{l:List V3}(hc:aa5 l=0){v:V3}(hv:inV v=true):Va0 l v=decide (∀p∈F0 l,dot p.n v<=p.b):=by unfold Va0;rw[td5 hc hv];rfl
theorem Cd8{l:List V3}(hc:aa5 l=0){v:V3}(hv:inV v=true):Va1 l v=true:=by unfold Va1;rw[td5 hc hv];rfl
theorem Hc2(x:List Int)(y:Int)(z:V3)(hy:0<=y/\y<=255):W4 x y z=some (b true,[]):=by
 have hm:=bd8 (x.take 40);have hp:=md4 x;have hgp:=md5 x;generalize o7 (x.take 40)=l at hm hp;have hl4:=hm.l4;have hl8:=hm.l8;have hc:=hm.chk;obtain⟨m,hm'⟩:∃m:Nat,Int.tmod (W y) (l.length:Int)=(m:Int)/\m<l.length:=by
  rw[ca8 (by omega) (by omega),Int.tmod_eq_emod_of_nonneg hy.1]
  have h1:=Int.emod_nonneg y (show (l.length:Int)≠0 by omega)
  have h2:=Int.emod_lt_of_pos y (show (0:Int)<l.length by omega)
  exact⟨(y % (l.length:Int)).toNat,by omega,by omega⟩
 obtain⟨hmv,hml⟩:=hm';obtain⟨v,hvz⟩:∃v,ea9 z=v:=⟨_,rfl⟩;have hv:=Cd6 z;rw[hvz] at hv
 -- the lists
 have a2:o5 (λk=>tV.row (gL tV l k)) (List.range l.length)=bL tV l:=Kb2 tV l
 have a0:=cd5 l m;have a1:=cd4 l m (by omega)
 have L4:app [] (bL tV (l.drop m))=bL tV (l.drop m):=rfl;have L5:app [] (bL tV l)=bL tV l:=rfl;have n0a:0+l.length=l.length:=Qkw _;have n0b:0+(l.drop m).length=(l.drop m).length:=Qkw _;have n1:l.length+1=(l++[v]).length:=by simp
 have n2:(l.drop m).length+(l.take m).length=(l.drop m++l.take m).length:=by simp
 have n3:(l.drop m++l.take m).length+1=(l.drop m++l.take m++[gL tV l m]).length:=by simp only[Qkx,List.length_singleton]
 have hlen:(l.drop m++l.take m++[gL tV l m]).length<=9:=by simp only[Qkx,List.length_drop,Qkak,List.length_singleton];omega
 have hlen1:(l++[v]).length<=9:=by simp only[Qkx,List.length_singleton];omega
 -- the volumes
 have s1:Q8 (l.drop m++l.take m++[gL tV l m])=Q8 l:=Td3 hc (by omega) λu=>by
  have h1:u∈l↔u∈l.take m\/u∈l.drop m:=by rw[<- Qki,List.take_append_drop]
  simp only[Qki,Qkj];constructor
  ·rintro ((h|h)|rfl)
   ·exact h1.2 (.inr h)
   ·exact h1.2 (.inl h)
   ·exact Ta7 tV hml
  ·intro h
   rcases h1.1 h with h|h
   ·exact .inl (.inr h)
   ·exact .inl (.inl h)
 obtain⟨m1,m2,m3⟩:=Td4 hc hv (l':=l++[v]) (by omega) λu=>by simp
 have e0:(Q8 l).2=0:=by unfold Q8;rw[if_pos hc]
 have ex:Pb4 l=(X7 l,0):=by unfold Pb4;rw[if_pos hc];rfl
 have hcl:(X7 l).length<=900000:=by have:=sd8 (l:=l);unfold X7;omega
 have k0:ka8 l=(X7 l,0):=ex;have k1:ka9 l=true:=decide_eq_true (by omega)
 have k2:S7 (l.drop m++l.take m++[gL tV l m]) (Q8 l).1=true:=by rw[Qc6 _ _ (by omega),s1];exact decide_eq_true ⟨e0,rfl⟩
 have k3:S7 (X7 l) (Q8 l).1=true:=by rw[Qc6 _ _ hcl,ge2 hc];exact decide_eq_true ⟨e0,rfl⟩
 have k4:Va0 l v=decide (∀p∈F0 l,dot p.n v<=p.b):=Cd7 hc hv;have k5:decide ((Q8 (l++[v])).1>(Q8 l).1)=!decide (∀p∈F0 l,dot p.n v<=p.b):=by
  by_cases hf:∀p∈F0 l,dot p.n v<=p.b
  ·rw[decide_eq_true hf];exact decide_eq_false λhgt=>by
    obtain⟨p,hp,hlt⟩:=m3.1 hgt
    have:=hf p hp
    omega
  ·rw[decide_eq_false hf];refine decide_eq_true (m3.2 ?_);apply Qka;intro hno;refine hf λp hp=>?_
   apply Qka;intro hlt;exact hno ⟨p,hp,by omega⟩
 have z0:((l.length:Int)==0)=false:=by rw[beq_eq_false_iff_ne];omega
 have r1:((l.drop m).length*24).ble room=true:=vc3 (by simp;omega)
 have r2:((l.drop m++l.take m).length*24).ble room=true:=vc3 (by simp;omega)
 have r3:((l.drop m++l.take m++[gL tV l m]).length*24).ble room=true:=vc3 (by omega)
 have r4:(l.length*24).ble room=true:=vc3 (by omega)
 have r5:((l++[v]).length*24).ble room=true:=vc3 (by omega)
 have q1:inB (m:Int) (l++[v]).length=true:=i8 (by rw[<- n1];omega)
 have ve:∀w:V3,(⟨w.x,w.y,w.z⟩:V3)=w:=λ_=>rfl
 have q2:inB (m:Int) l.length=true:=i8 hml;have u1:F9 (l++[v])=Q8 (l++[v]):=Hc0 _ (by omega)
 have u2:G3 (l++[v])=true:=Hc1 _ (by omega)
 have u3:F9 l=Q8 l:=Hc0 _ (by omega)
 have u4:G3 l=true:=Hc1 _ (by omega)
 have u5:S8 (l.drop m++l.take m++[gL tV l m]) (Q8 l).1=true:=Qc7 _ _ (by omega)
 have u6:S8 (X7 l) (Q8 l).1=true:=Qc7 _ _ hcl;have u7:Va1 l v=true:=Cd8 hc hv;have e1:((Q8 l).2 != 0)=false:=by rw[e0];rfl
 have e2:((Q8 (l++[v])).2 != 0)=false:=by rw[m1];rfl
 have e3:decide ((Q8 (l++[v])).1>=(Q8 l).1)=true:=decide_eq_true m2;have bq:∀n:Nat,Nat.beq n n=true:=λn=>Nat.beq_refl n
 have hx:∀c:Bool,(!((!c)==c))=true:=λc=>by cases c<;>rfl
 unfold W4;simp only[md2,md3,o6,ma3,l9,hp,hgp,hvz,hmv,Int.toNat_natCast,a2,a0,a1,L4,L5,tb0,Ra1,wa3,ve,n0a,n0b,n1,n2,n3,Eb9,Sb0,u1,u2,u3,u4,k0,k1,k2,k3,k4,k5,u5,u6,u7,z0,r1,r2,r3,r4,r5,q1,q2,e0,e1,e2,e3,bq,hx,m1];rfl
theorem ge6(x:List Int)(y:Int)(z:V3)(hy:0<=y/\y<=255):fa5 x y z=true:=by unfold fa5;rw[Hc2 x y z hy];rfl
theorem ge7(x:List Int)(y:Int)(z:V3)(hy:0<=y/\y<=255):fa6 x y z=true:=by unfold fa6;rw[Hc2 x y z hy];rfl
end Go.Ev.Ce
namespace Go.Ev.Ce
open Go Go.Ev Go.Ev.L Go.ChangeShapes Go.RowKit
theorem Td6 {P : Program} {w : World} {ρ : Rho} {H : List c9} {F : Fz} {t : TypeId} {v : Value} {bs : Nat} {r : Reach} (ht : P.underlying t = some (.int .u8))
  (hok:Value.okWide P w r bs t v):∃n:Int,(0<=n/\n<=255)/\V7 ρ H F w (.v (.int .u8 n)) v:=by
 unfold Value.okWide at hok;rw[ht] at hok;cases v with
 |int k' n =>
  simp only[Cell.okWide,ht,Cell.ok] at hok;obtain⟨rfl,h⟩:=hok;refine⟨n,?_,.cell (.v _)⟩;simp only[IntKind.has,IntKind.min,IntKind.max,IntKind.bits,IntKind.signed] at h
  simp at h
  omega
 |_=>simp[Cell.okWide,ht,Cell.ok] at hok
theorem Td7(n:Int)(h:0<=n/\n<=255):∃a,Rdg cU (.v (.int .u8 n)) a/\(0<=a/\a<=255):=⟨n,⟨rfl,rfl⟩,h⟩
end Go.Ev.Ce
