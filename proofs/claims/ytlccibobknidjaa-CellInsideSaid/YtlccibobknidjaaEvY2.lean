/- Own work: a part of the proof. -/
import Derived.Test.YtlccibobknidjaaEvIEA
import Derived.Test.YtlccibobknidjaaEvIE2
import Derived.Test.YtlccibobknidjaaEvSp3
import Derived.ChangeStays
import Derived.ChangeSame
import Derived.OpenShut
import Derived.RowKit
set_option linter.unusedVariables false
set_option linter.unusedSimpArgs false
set_option linter.unnecessarySimpa false
set_option linter.unusedSectionVars false
namespace Go.Ev.Ce
open Go Go.Ev Go.Ev.L Go.Proofs Go.Sort
theorem Hc7 (l:List Pln):List.Perm (cb7 l) l:=List.mergeSort_perm l _
theorem Tc0 (x y z:Pln) (h1:(!ltOf Ma4 y x)=true) (h2:(!ltOf Ma4 z y)=true):(!ltOf Ma4 z x)=true:=by
 simp only[Bool.not_eq_true',Ia9,decide_eq_false_iff_not] at *
 unfold LtP at *
 omega
theorem Tc1 (x y:Pln):((!ltOf Ma4 y x)||!ltOf Ma4 x y)=true:=by
 simp only[Bool.or_eq_true,Bool.not_eq_true',Ia9,decide_eq_false_iff_not]
 unfold LtP
 omega
theorem pc1 (l:List Pln):(cb7 l).Pairwise fun x y=>(!ltOf Ma4 y x)=true:=List.pairwise_mergeSort Tc0 Tc1 l
theorem pc2 {l r:List Pln} (hp:List.Perm r l) (hs:r.Pairwise fun x y=>(!ltOf Ma4 y x)=true):cb7 l=r :=
 List.Perm.eq_of_pairwise (fun x y _ _ h1 h2=>Cd0 x y (by simpa using h2) (by simpa using h1)) (pc1 l) hs ((Hc7 l).trans hp.symm)
instance:DecidableEq Pln:=fun x y=>decidable_of_iff _ (md5 x y)
def U6:List Pln:=[⟨⟨1,0,0⟩,1⟩,⟨⟨-1,0,0⟩,0⟩,⟨⟨0,1,0⟩,1⟩,⟨⟨0,-1,0⟩,0⟩,⟨⟨0,0,1⟩,1⟩,⟨⟨0,0,-1⟩,0⟩]
def U8:List Pln:=[⟨⟨-1,0,0⟩,0⟩,⟨⟨0,1,0⟩,1⟩,⟨⟨0,-1,0⟩,0⟩,⟨⟨0,0,1⟩,1⟩,⟨⟨0,0,-1⟩,0⟩,⟨⟨1,0,0⟩,1⟩,⟨⟨1,1,1⟩,3⟩,⟨⟨1,0,0⟩,7⟩]
def C4:List Pln:=[⟨⟨-1,0,0⟩,0⟩,⟨⟨0,-1,0⟩,0⟩,⟨⟨0,0,-1⟩,0⟩,⟨⟨2,3,4⟩,1⟩]
def U7:List Pln:=[⟨⟨1,0,0⟩,1⟩,⟨⟨-1,0,0⟩,0⟩,⟨⟨0,1,0⟩,1⟩,⟨⟨0,-1,0⟩,0⟩,⟨⟨0,0,1⟩,1⟩,⟨⟨0,0,-1⟩,0⟩,⟨⟨-1,0,0⟩,-1⟩]
def LU:List Pln:=[⟨⟨-1,0,0⟩,0⟩,⟨⟨0,-1,0⟩,0⟩,⟨⟨0,0,-1⟩,0⟩,⟨⟨0,0,1⟩,1⟩,⟨⟨0,1,0⟩,1⟩,⟨⟨1,0,0⟩,1⟩]
def PU:List Pt:=[⟨1,1,1,1⟩,⟨1,1,0,1⟩,⟨1,0,1,1⟩,⟨1,0,0,1⟩,⟨0,1,1,1⟩,⟨0,1,0,1⟩,⟨0,0,1,1⟩,⟨0,0,0,1⟩]
def PC:List Pt:=[⟨0,0,0,1⟩,⟨0,0,1,4⟩,⟨0,1,0,3⟩,⟨1,0,0,2⟩]
theorem vd8:pts U6=PU:=by kernel_rfl
theorem vd9:pts C4=PC:=by kernel_rfl
theorem wd0:ful []=true:=by kernel_rfl
theorem wd1:ful U7=false:=by kernel_rfl
theorem wd2:has U6 ⟨1,0,0⟩=true:=by kernel_rfl
theorem wd3:has U6 ⟨2,0,0⟩=false:=by kernel_rfl
theorem Cd4:bnd C4=(⟨0,0,0⟩,⟨1,1,1⟩,true):=by kernel_rfl
theorem Cd5:apart U6 [⟨⟨-1,0,0⟩,-1⟩]=true:=by kernel_rfl
theorem Cd6:apart U6 [⟨⟨-1,-1,0⟩,-1⟩]=false:=by kernel_rfl
theorem Cd7:cd2 U6 [⟨⟨1,1,1⟩,3⟩]=true:=by kernel_rfl
theorem Cd8:cd2 U6 [⟨⟨1,1,1⟩,2⟩]=false:=by kernel_rfl
theorem Cd9:chk [⟨⟨0,0,0⟩,0⟩]=12:=by kernel_rfl
theorem Dd0:(⟨⟨1,0,0⟩,1⟩::U8).filter (keep (pts (⟨⟨1,0,0⟩,1⟩::U8)))=[⟨⟨1,0,0⟩,1⟩,⟨⟨-1,0,0⟩,0⟩,⟨⟨0,1,0⟩,1⟩,⟨⟨0,-1,0⟩,0⟩,⟨⟨0,0,1⟩,1⟩,⟨⟨0,0,-1⟩,0⟩,⟨⟨1,0,0⟩,1⟩]:=by kernel_rfl
theorem wd4:ful (⟨⟨1,0,0⟩,1⟩::U8)=true:=by kernel_rfl
theorem wd5:lean (⟨⟨1,0,0⟩,1⟩::U8)=LU:=by
 unfold lean
 rw[wd4,if_pos rfl,Dd0,pc2 (r:=[⟨⟨-1,0,0⟩,0⟩,⟨⟨0,-1,0⟩,0⟩,⟨⟨0,0,-1⟩,0⟩,⟨⟨0,0,1⟩,1⟩,⟨⟨0,1,0⟩,1⟩,⟨⟨1,0,0⟩,1⟩,⟨⟨1,0,0⟩,1⟩])]
 ·rfl
 ·exact List.isPerm_iff.1 (by kernel_rfl)
 ·exact of_decide_eq_true (by kernel_rfl)
theorem md6:bb1=⟨1,0,1,0,1,0⟩:=by kernel_rfl
theorem hc8:ma0=some (b true,[]):=by
 have le:∀ {c:List Pln},c.length≤100→c.length≤1000000000:=fun h=>by omega
 have le':∀ {c:List Pln},c.length≤100→c.length≤100000000:=fun h=>by omega
 have u:U6.length≤100:=by decide
 have u7:U7.length≤100:=by decide
 have u8:U8.length≤1000000:=by decide
 have c4:C4.length≤100:=by decide
 have n0:([]:List Pln).length≤100:=by decide
 have o1:∀ p:Pln,[p].length≤100:=fun _=>(by decide:1≤100)
 unfold ma0
 rw[md6]
 simp only[E5,fa6]
 rw[show ([⟨⟨1,0,0⟩,1⟩,⟨⟨-1,0,0⟩,0⟩,⟨⟨0,1,0⟩,1⟩,⟨⟨0,-1,0⟩,0⟩,⟨⟨0,0,1⟩,1⟩,⟨⟨0,0,-1⟩,0⟩,⟨⟨-1,0,0⟩,-1⟩]:List Pln)=U7 from rfl,
  show ([⟨⟨-1,0,0⟩,0⟩,⟨⟨0,1,0⟩,1⟩,⟨⟨0,-1,0⟩,0⟩,⟨⟨0,0,1⟩,1⟩,⟨⟨0,0,-1⟩,0⟩,⟨⟨1,0,0⟩,1⟩,⟨⟨1,1,1⟩,3⟩,⟨⟨1,0,0⟩,7⟩]:List Pln)=U8 from rfl,
  show ([⟨⟨1,0,0⟩,1⟩,⟨⟨-1,0,0⟩,0⟩,⟨⟨0,1,0⟩,1⟩,⟨⟨0,-1,0⟩,0⟩,⟨⟨0,0,1⟩,1⟩,⟨⟨0,0,-1⟩,0⟩]:List Pln)=U6 from rfl,
  show ([⟨⟨-1,0,0⟩,0⟩,⟨⟨0,-1,0⟩,0⟩,⟨⟨0,0,-1⟩,0⟩,⟨⟨2,3,4⟩,1⟩]:List Pln)=C4 from rfl,
  show ([⟨⟨-1,0,0⟩,0⟩,⟨⟨0,-1,0⟩,0⟩,⟨⟨0,0,-1⟩,0⟩,⟨⟨0,0,1⟩,1⟩,⟨⟨0,1,0⟩,1⟩,⟨⟨1,0,0⟩,1⟩]:List Pln)=LU from rfl]
 simp only[kb3 (le u),kb4 (le u),kb3 (le c4),kb4 (le c4),vd8,vd9,vd6 _ U8 u8,vd7 _ U8 u8,wd5,kb5 (le n0),kb6 (le n0),wd0,kb5 (le u7),kb6 (le u7),wd1,
  Mc0 (le u),Mc1 (le u),wd2,wd3,ld7 (le c4),ld8 (le c4),Cd4,bb2 (le' u) (le' (o1 _)),bb3 (le' u) (le' (o1 _)),Cd5,Cd6,cd3 (le u) (le (o1 _)),cd4 (le u) (le (o1 _)),Cd7,Cd8,
  Ab6 _ (le (o1 _)),Ab7 _ (le (o1 _)),Cd9]
 rw[show ([⟨1,1,1,1⟩,⟨1,1,0,1⟩,⟨1,0,1,1⟩,⟨1,0,0,1⟩,⟨0,1,1,1⟩,⟨0,1,0,1⟩,⟨0,0,1,1⟩,⟨0,0,0,1⟩]:List Pt)=PU from rfl,
  show ([⟨0,0,0,1⟩,⟨0,0,1,4⟩,⟨0,1,0,3⟩,⟨1,0,0,2⟩]:List Pt)=PC from rfl]
 simp only[Bb3 PU (by decide),Bb4 PU (by decide),Bb3 PC (by decide),Bb4 PC (by decide),vd3 LU (by decide),vd4 LU (by decide)]
 rfl
theorem cd9:wa1=true:=by unfold wa1;rw[hc8];rfl
theorem dd0:wa2=true:=by unfold wa2;rw[hc8];rfl
end Go.Ev.Ce
namespace Go.Ev.Ce
open Go Go.Ev Go.Ev.L Go.Proofs
def atP (x:List Pln) (y:Pln):Nat:=x.findIdx fun p=>!decide (Ma4 p y < 0)
noncomputable def ins (x:List Pln) (y:Pln):List Pln:=if (atP x y < x.length∧eqP (gL tP x (atP x y)) y=true) then x else Id8 x y (atP x y)
def md7:List Pln→Pln→List Pln
 | [],y=>[y]
 | a::l,y=>if Ma4 a y < 0 then a::md7 l y else if eqP a y then a::l else y::a::l
end Go.Ev.Ce
namespace Go.Ev.Ce
def rmZ (p:Pln) (x:Pt):Int:=p.b*x.pw - (p.n.x*x.px+p.n.y*x.py+p.n.z*x.pz)
structure Inr (r:List Pln) (x:Pt):Prop where
 w:0 < x.pw
 h:∀ p∈r,0≤rmZ p x
def Hb6 (p:Pln):Pln:=⟨⟨-p.n.x,-p.n.y,-p.n.z⟩,-p.b⟩
theorem zc6 (p:Pln) (x:Pt):rmZ (Hb6 p) x=-rmZ p x:=by unfold rmZ Hb6;grind
structure Cn (r:List Pln) (x:Pt):Prop extends Inr r x where
 c:∃ p q s,p∈r∧q∈r∧s∈r∧mw p q s≠0∧rmZ p x=0∧rmZ q x=0∧rmZ s x=0
def Bdd (r:List Pln):Prop:=∀ d:V3,d≠⟨0,0,0⟩→∃ p∈r,0 < dot p.n d
def go (x:Pt) (q:Pln) (d:V3):Pt:=⟨x.px*dot q.n d+rmZ q x*d.x,x.py*dot q.n d+rmZ q x*d.y,x.pz*dot q.n d+rmZ q x*d.z,x.pw*dot q.n d⟩
theorem Mc7 (p q:Pln) (x:Pt) (d:V3):rmZ p (go x q d)=dot q.n d*rmZ p x - rmZ q x*dot p.n d:=by simp only[rmZ,go,dot];grind
theorem Aa3 {a b c:Int} (hc:0 < c) (h:a*c≤b*c):a≤b:=Int.le_of_mul_le_mul_right h hc
theorem first (x:Pt) (d:V3):∀ r:List Pln,(∀ p∈r,0≤rmZ p x)→(∃ p∈r,0 < dot p.n d)→∃ q∈r,0 < dot q.n d∧∀ p∈r,0 < dot p.n d→rmZ q x*dot p.n d≤rmZ p x*dot q.n d
 | [],_,h=>by obtain⟨p,hp,_⟩:=h;cases hp
 | a::r,hx,h=>by
  by_cases hr:∃ p∈r,0 < dot p.n d
  ·obtain⟨q,hq,h1,h2⟩:=first x d r (fun p hp=>hx p (List.mem_cons_of_mem _ hp)) hr
   by_cases ha:0 < dot a.n d
   ·by_cases hc:rmZ q x*dot a.n d≤rmZ a x*dot q.n d
    ·refine⟨q,List.mem_cons_of_mem _ hq,h1,fun p hp h3=>?_⟩
     rcases List.mem_cons.1 hp with rfl | hp
     ·exact hc
     ·exact h2 p hp h3
    ·refine⟨a,List.mem_cons_self,ha,fun p hp h3=>?_⟩
     rcases List.mem_cons.1 hp with rfl | hp
     ·exact Int.le_refl _
     ·have h4:=h2 p hp h3
      have h5:rmZ a x*dot q.n d < rmZ q x*dot a.n d:=by omega
      have h6:=Int.mul_le_mul_of_nonneg_right h4 (Int.le_of_lt ha)
      have h7:=Int.mul_lt_mul_of_pos_right h5 h3
      have e1:rmZ q x*dot p.n d*dot a.n d=rmZ q x*dot a.n d*dot p.n d:=by grind
      have e2:rmZ a x*dot q.n d*dot p.n d=rmZ a x*dot p.n d*dot q.n d:=by grind
      have e3:rmZ p x*dot q.n d*dot a.n d=rmZ p x*dot a.n d*dot q.n d:=by grind
      refine Aa3 h1 ?_
      omega
   ·refine⟨q,List.mem_cons_of_mem _ hq,h1,fun p hp h3=>?_⟩
    rcases List.mem_cons.1 hp with rfl | hp
    ·exact absurd h3 ha
    ·exact h2 p hp h3
  ·have ha : 0 < dot a.n d := by
    obtain⟨p,hp,h3⟩:=h
    rcases List.mem_cons.1 hp with rfl | hp
    ·exact h3
    ·exact absurd ⟨p,hp,h3⟩ hr
   refine⟨a,List.mem_cons_self,ha,fun p hp h3=>?_⟩
   rcases List.mem_cons.1 hp with rfl | hp
   ·exact Int.le_refl _
   ·exact absurd ⟨p,hp,h3⟩ hr
theorem step {r:List Pln} {x:Pt} (hx:Inr r x) (d:V3) (h:∃ p∈r,0 < dot p.n d):∃ q∈r,0 < dot q.n d∧Inr r (go x q d):=by
 obtain⟨q,hq,h1,h2⟩:=first x d r hx.h h
 refine⟨q,hq,h1,⟨Int.mul_pos hx.w h1,fun p hp=>?_⟩⟩
 rw[Mc7]
 have h3:=hx.h p hp
 have h4:=hx.h q hq
 by_cases h5:0 < dot p.n d
 ·have:=h2 p hp h5
  have e:rmZ p x*dot q.n d=dot q.n d*rmZ p x:=Int.mul_comm _ _
  omega
 ·have h6:=Int.mul_nonneg (Int.le_of_lt h1) h3
  have h7:rmZ q x*dot p.n d≤0:=Int.mul_nonpos_of_nonneg_of_nonpos h4 (by omega)
  omega
theorem dd1 {h q:Pln} {x:Pt} {d:V3} (h1:0≤rmZ q x) (h2:0≤dot h.n d):rmZ h (go x q d)*x.pw≤rmZ h x*(go x q d).pw∨x.pw≤0:=by
 rcases Int.lt_or_le 0 x.pw with hw | hw
 ·left
  rw[Mc7]
  have:=Int.mul_nonneg h1 h2
  have h3:=Int.mul_nonneg this (Int.le_of_lt hw)
  have e:rmZ h x*(go x q d).pw=dot q.n d*rmZ h x*x.pw:=by unfold go;grind
  have e2:(dot q.n d*rmZ h x - rmZ q x*dot h.n d)*x.pw=dot q.n d*rmZ h x*x.pw - rmZ q x*dot h.n d*x.pw:=by grind
  omega
 ·exact .inr hw
def neg (d:V3):V3:=⟨-d.x,-d.y,-d.z⟩
theorem Mc8 (a d:V3):dot a (neg d)=-dot a d:=by unfold dot neg;grind
theorem wd6 {d:V3} (h:d≠⟨0,0,0⟩):neg d≠⟨0,0,0⟩:=fun h'=>h (by
 cases d;unfold neg at h';simp only[V3.mk.injEq] at h' ⊢;omega)
theorem turn (h:Pln) {d:V3} (hd:d≠⟨0,0,0⟩):∃ e,e≠(⟨0,0,0⟩:V3)∧0≤dot h.n e∧∀ a,dot a d=0→dot a e=0:=by
 by_cases h1:0≤dot h.n d
 ·exact⟨d,hd,h1,fun _ h=>h⟩
 ·exact⟨neg d,wd6 hd,by rw[Mc8];omega,fun a h=>by rw[Mc8,h];rfl⟩
theorem Id9 {n:V3} (hn:n≠⟨0,0,0⟩):∃ d,d≠(⟨0,0,0⟩:V3)∧dot n d=0:=by
 by_cases h:n.x=0∧n.y=0
 ·exact⟨⟨1,0,0⟩,by simp,by unfold dot;simp[h.1]⟩
 ·refine⟨⟨n.y,-n.x,0⟩,fun h'=>h ?_,by unfold dot;grind⟩
  simp only[V3.mk.injEq] at h'
  omega
theorem V3.ext' {a b:V3} (h1:a.x=b.x) (h2:a.y=b.y) (h3:a.z=b.z):a=b:=by cases a;cases b;simp_all
theorem dd2 {m n d:V3} (hm:m≠⟨0,0,0⟩) (h1:dot m d=0) (h2:dot n d≠0):o5 m n≠⟨0,0,0⟩:=fun h=>by
 unfold o5 at h
 simp only[V3.mk.injEq] at h
 obtain⟨c1,c2,c3⟩:=h
 unfold dot at h1 h2
 have e1:m.x*(n.x*d.x+n.y*d.y+n.z*d.z)=0:=by grind
 have e2:m.y*(n.x*d.x+n.y*d.y+n.z*d.z)=0:=by grind
 have e3:m.z*(n.x*d.x+n.y*d.y+n.z*d.z)=0:=by grind
 have k:∀ {a:Int},a*(n.x*d.x+n.y*d.y+n.z*d.z)=0→a=0:=fun h=>(Int.mul_eq_zero.1 h).resolve_right h2
 exact hm (V3.ext' (k e1) (k e2) (k e3))
theorem zc7 (a b:V3):dot a (o5 a b)=0:=by unfold dot o5;grind
theorem zc8 (a b:V3):dot b (o5 a b)=0:=by unfold dot o5;grind
theorem dd3 {p q:Pln} {x:Pt} {d:V3} (h:rmZ p x=0) (h':dot p.n d=0):rmZ p (go x q d)=0:=by rw[Mc7,h,h'];simp
theorem dd4 (q:Pln) (x:Pt) (d:V3):rmZ q (go x q d)=0:=by rw[Mc7];grind
theorem Dd1 {q:Pln} {d:V3} (h:0 < dot q.n d):q.n≠⟨0,0,0⟩:=fun h'=>by rw[h'] at h;unfold dot at h;simp at h
theorem qd2 {a b c u v w:Int} (hu:0 < u) (hv:0 < v) (hw:0 < w) (h1:a*v≤b*u) (h2:b*w≤c*v):a*w≤c*u:=by
 have h3:=Int.mul_le_mul_of_nonneg_right h1 (Int.le_of_lt hw)
 have h4:=Int.mul_le_mul_of_nonneg_right h2 (Int.le_of_lt hu)
 have e1:a*v*w=a*w*v:=by grind
 have e2:b*u*w=b*w*u:=by grind
 have e3:c*v*u=c*u*v:=by grind
 exact Aa3 hv (by omega)
theorem wd7 {r:List Pln} (hb:Bdd r) (h:Pln) {x:Pt} (hx:Inr r x):∃ v,Cn r v∧rmZ h v*x.pw≤rmZ h x*v.pw:=by
 obtain⟨d0,n0,p0,_⟩:=turn h (d:=⟨1,0,0⟩) (by simp)
 obtain⟨q1,m1,k1,i1⟩:=step hx d0 (hb d0 n0)
 have l1:=(dd1 (h:=h) (x:=x) (hx.h q1 m1) p0).resolve_right (by have:=hx.w;omega)
 obtain⟨e1,ne1,he1⟩:=Id9 (Dd1 k1)
 obtain⟨d1,n1,p1,z1⟩:=turn h ne1
 obtain⟨q2,m2,k2,i2⟩:=step i1 d1 (hb d1 n1)
 have l2:=(dd1 (h:=h) (x:=go x q1 d0) (i1.h q2 m2) p1).resolve_right (by have:=i1.w;omega)
 have hc:=dd2 (Dd1 k1) (z1 _ he1) (n:=q2.n) (by omega)
 obtain⟨d2,n2,p2,z2⟩:=turn h hc
 obtain⟨q3,m3,k3,i3⟩:=step i2 d2 (hb d2 n2)
 have l3:=(dd1 (h:=h) (x:=go (go x q1 d0) q2 d1) (i2.h q3 m3) p2).resolve_right (by have:=i2.w;omega)
 have a1:rmZ q1 (go (go x q1 d0) q2 d1)=0:=dd3 (dd4 _ _ _) (z1 _ he1)
 refine⟨_,⟨i3,q3,q1,q2,m3,m1,m2,fun h0=>?_,dd4 _ _ _,dd3 a1 (z2 _ (zc7 _ _)),dd3 (dd4 _ _ _) (z2 _ (zc8 _ _))⟩,?_⟩
 ·have:dot q3.n d2=0:=z2 _ h0
  omega
 ·exact qd2 i3.w i2.w hx.w l3 (qd2 i2.w i1.w hx.w l2 l1)
theorem Mb6 {r:List Pln} (hb:Bdd r) {h:Pln} (hv:∀ v,Cn r v→0≤rmZ h v) {x:Pt} (hx:Inr r x):0≤rmZ h x:=by
 obtain⟨v,h1,h2⟩:=wd7 hb h hx
 have h3:=Int.mul_nonneg (hv v h1) (Int.le_of_lt hx.w)
 exact Aa3 h1.w (by rw[Int.zero_mul];omega)
def mid (x y:Pt):Pt:=⟨x.px*y.pw+y.px*x.pw,x.py*y.pw+y.py*x.pw,x.pz*y.pw+y.pz*x.pw,2*(x.pw*y.pw)⟩
theorem dd5 (p:Pln) (x y:Pt):rmZ p (mid x y)=rmZ p x*y.pw+rmZ p y*x.pw:=by unfold rmZ mid;grind
theorem Inr.mid {r:List Pln} {x y:Pt} (hx:Inr r x) (hy:Inr r y):Inr r (mid x y):=⟨by unfold Ce.mid;exact Int.mul_pos (by decide) (Int.mul_pos hx.w hy.w),fun p hp=>by
 rw[dd5]
 exact Int.add_nonneg (Int.mul_nonneg (hx.h p hp) (Int.le_of_lt hy.w)) (Int.mul_nonneg (hy.h p hp) (Int.le_of_lt hx.w))⟩
def md8 (r:List Pln):Prop:=∃ x:Pt,0 < x.pw∧∀ p∈r,0 < rmZ p x
theorem Mc9 {r:List Pln}:∀ (l:List Pln),(∀ p∈l,p∈r)→(∃ x,Inr r x)→(∀ p∈l,∃ v,Inr r v∧0 < rmZ p v)→∃ x,Inr r x∧∀ p∈l,0 < rmZ p x
 | [],_,h,_=>by obtain⟨x,h⟩:=h;exact⟨x,h,fun p hp=>by cases hp⟩
 | a::l,hl,h,hv=>by
  obtain⟨x,h1,h2⟩:=Mc9 l (fun p hp=>hl p (List.mem_cons_of_mem _ hp)) h (fun p hp=>hv p (List.mem_cons_of_mem _ hp))
  obtain⟨y,h3,h4⟩:=hv a List.mem_cons_self
  refine⟨mid x y,h1.mid h3,fun p hp=>?_⟩
  rw[dd5]
  rcases List.mem_cons.1 hp with rfl | hp
  ·have:=Int.mul_nonneg (h1.h p (hl p List.mem_cons_self)) (Int.le_of_lt h3.w)
   have:=Int.mul_pos h4 h1.w
   omega
  ·have:=Int.mul_pos (h2 p hp) h3.w
   have:=Int.mul_nonneg (h3.h p (hl p (List.mem_cons_of_mem _ hp))) (Int.le_of_lt h1.w)
   omega
theorem dd6 {r:List Pln} (hb:Bdd r) (h0:r≠[]):md8 r↔∀ p∈r,∃ v,Cn r v∧0 < rmZ p v:=by
 constructor
 ·intro ⟨x,hw,hx⟩ p hp
  by_cases h:∃ v,Cn r v∧0 < rmZ p v
  ·exact h
  ·have hx':Inr r x:=⟨hw,fun q hq=>Int.le_of_lt (hx q hq)⟩
   have:=Mb6 hb (h:=Hb6 p) (fun v hv=>by
    rw[zc6]
    have:¬ 0 < rmZ p v:=fun h'=>h ⟨v,hv,h'⟩
    omega) hx'
   rw[zc6] at this
   have:=hx p hp
   omega
 ·intro h
  obtain⟨p,hp⟩:=List.exists_mem_of_ne_nil r h0
  obtain⟨v,hv,_⟩:=h p hp
  obtain⟨x,h1,h2⟩:=Mc9 r (fun _ h=>h) ⟨v,hv.toInr⟩ fun p hp=>by
   obtain⟨v,hv,h⟩:=h p hp
   exact⟨v,hv.toInr,h⟩
  exact⟨x,h1.w,h2⟩
structure Eqv (x v:Pt):Prop where
 e1:x.px*v.pw=v.px*x.pw
 e2:x.py*v.pw=v.py*x.pw
 e3:x.pz*v.pw=v.pz*x.pw
theorem Eqv.rm {x v:Pt} (h:Eqv x v) (p:Pln):rmZ p x*v.pw=rmZ p v*x.pw:=by
 obtain⟨e1,e2,e3⟩:=h
 unfold rmZ
 grind
theorem Eqv.inr {r:List Pln} {x v:Pt} (h:Eqv x v) (hw:0 < x.pw) (hv:Inr r v):Inr r x:=⟨hw,fun p hp=>by
 have:=h.rm p
 have h2:=Int.mul_nonneg (hv.h p hp) (Int.le_of_lt hw)
 exact Aa3 hv.w (by rw[Int.zero_mul];omega)⟩
end Go.Ev.Ce
namespace Go.Ev.Ce
open Go Go.Ev Go.Ev.L Go.Proofs
theorem Tc2 {p:Pln} {x:Pt} (hp:Bd p) (hx:Okx x):rm p x=rmZ p x:=by
 unfold rm rmZ
 obtain⟨w1,w2,⟨a1,a2⟩,⟨a3,a4⟩,a5,a6⟩:=hx
 have h0:=mb hp.b1 hp.b2 (show -600000000000≤x.pw by omega) w2
 have h1:=mb hp.x1 hp.x2 a1 a2
 have h2:=mb hp.y1 hp.y2 a3 a4
 have h3:=mb hp.z1 hp.z2 a5 a6
 exact da1 (by omega) (by omega)
theorem Nc0 {r:List Pln} (hb:Bds r) {x:Pt} (hx:Okx x):inn r x=true↔Inr r x:=by
 unfold inn
 rw[List.all_eq_true]
 constructor
 ·intro h
  refine⟨hx.w1,fun p hp=>?_⟩
  have:=h p hp
  rw[Tc2 (hb p hp) hx] at this
  simpa using this
 ·intro h p hp
  rw[Tc2 (hb p hp) hx]
  simpa using h.h p hp
theorem qd3 {p q s:Pln} (h:(mpt p q s).2=true):mw p q s≠0∧∃ k:Int,k≠0∧k*(mpt p q s).1.px=(mv p q s).x∧k*(mpt p q s).1.py=(mv p q s).y∧k*(mpt p q s).1.pz=(mv p q s).z∧k*(mpt p q s).1.pw=mw p q s:=by
 unfold mpt at h ⊢
 by_cases h0:mw p q s=0
 ·rw[if_pos h0] at h;cases h
 refine⟨h0,?_⟩
 have hg:=nc1 (v:=mv p q s) h0
 have dv:∀ {x:Int},(gc (mv p q s) (mw p q s))∣x→gc (mv p q s) (mw p q s)*Int.tdiv x (gc (mv p q s) (mw p q s))=x:=fun h=>Int.mul_tdiv_cancel' h
 have d1:gc (mv p q s) (mw p q s)∣(mv p q s).x:=by
  rw[← Int.dvd_natAbs];exact Int.natCast_dvd_natCast.2 (Nat.dvd_trans (Nat.gcd_dvd_left _ _) (Nat.gcd_dvd_left _ _))
 have d2:gc (mv p q s) (mw p q s)∣(mv p q s).y:=by
  rw[← Int.dvd_natAbs];exact Int.natCast_dvd_natCast.2 (Nat.dvd_trans (Nat.gcd_dvd_left _ _) (Nat.gcd_dvd_right _ _))
 have d3:gc (mv p q s) (mw p q s)∣(mv p q s).z:=by
  rw[← Int.dvd_natAbs];exact Int.natCast_dvd_natCast.2 (Nat.dvd_trans (Nat.gcd_dvd_right _ _) (Nat.gcd_dvd_left _ _))
 have d4:gc (mv p q s) (mw p q s)∣mw p q s:=by
  rw[← Int.dvd_natAbs];exact Int.natCast_dvd_natCast.2 (Nat.dvd_trans (Nat.gcd_dvd_right _ _) (Nat.gcd_dvd_right _ _))
 rw[if_neg h0]
 by_cases h1:mw p q s < 0
 ·rw[if_pos h1]
  have e:∀ {x:Int},(gc (mv p q s) (mw p q s))∣x→-(gc (mv p q s) (mw p q s))*Int.tdiv (-x) (gc (mv p q s) (mw p q s))=x:=fun {x} h=>by
   rw[Int.neg_mul,dv ((Int.dvd_neg).2 h),Int.neg_neg]
  exact⟨-(gc (mv p q s) (mw p q s)),by omega,e d1,e d2,e d3,e d4⟩
 ·rw[if_neg h1]
  exact⟨gc (mv p q s) (mw p q s),by omega,dv d1,dv d2,dv d3,dv d4⟩
theorem dd7 {p q s:Pln} (h:(mpt p q s).2=true):rmZ p (mpt p q s).1=0∧rmZ q (mpt p q s).1=0∧rmZ s (mpt p q s).1=0:=by
 obtain⟨_,k,hk,e1,e2,e3,e4⟩:=qd3 h
 generalize (mpt p q s).1=x at *
 have f:∀ a:Pln,a.b*mw p q s - (a.n.x*(mv p q s).x+a.n.y*(mv p q s).y+a.n.z*(mv p q s).z)=0→rmZ a x=0:=fun a ha=>by
  rw[← e1,← e2,← e3,← e4] at ha
  have:k*rmZ a x=0:=by rw[← ha];unfold rmZ;grind
  exact (Int.mul_eq_zero.1 this).resolve_left hk
 refine⟨f p ?_,f q ?_,f s ?_⟩<;>(simp only[mw,mv,dot,o5];grind)
theorem md9 {p q s:Pln} (h:mw p q s≠0):(mpt p q s).2=true:=by
 unfold mpt
 rw[if_neg h]
 split<;>rfl
theorem dd8 {p q s:Pln} {x:Pt} (h1:rmZ p x=0) (h2:rmZ q x=0) (h3:rmZ s x=0):mw p q s*x.px=(mv p q s).x*x.pw∧mw p q s*x.py=(mv p q s).y*x.pw∧mw p q s*x.pz=(mv p q s).z*x.pw:=by
 have i1:(mv p q s).x*x.pw - mw p q s*x.px=(o5 q.n s.n).x*rmZ p x+(o5 s.n p.n).x*rmZ q x+(o5 p.n q.n).x*rmZ s x:=by simp only[mw,mv,dot,o5,rmZ];grind
 have i2:(mv p q s).y*x.pw - mw p q s*x.py=(o5 q.n s.n).y*rmZ p x+(o5 s.n p.n).y*rmZ q x+(o5 p.n q.n).y*rmZ s x:=by simp only[mw,mv,dot,o5,rmZ];grind
 have i3:(mv p q s).z*x.pw - mw p q s*x.pz=(o5 q.n s.n).z*rmZ p x+(o5 s.n p.n).z*rmZ q x+(o5 p.n q.n).z*rmZ s x:=by simp only[mw,mv,dot,o5,rmZ];grind
 rw[h1,h2,h3] at i1 i2 i3
 simp only[Int.mul_zero,Int.add_zero] at i1 i2 i3
 omega
theorem wd8 {p q s:Pln} {x v:Pt} (h:mw p q s≠0) (h1:rmZ p x=0) (h2:rmZ q x=0) (h3:rmZ s x=0) (k1:rmZ p v=0) (k2:rmZ q v=0) (k3:rmZ s v=0):Eqv x v:=by
 obtain⟨a1,a2,a3⟩:=dd8 h1 h2 h3
 obtain⟨c1,c2,c3⟩:=dd8 k1 k2 k3
 have f:∀ {a c m:Int},mw p q s*a=m*x.pw→mw p q s*c=m*v.pw→a*v.pw=c*x.pw:=fun {a c m} ha hc=>by
  have:mw p q s*(a*v.pw - c*x.pw)=0:=by grind
  have:=(Int.mul_eq_zero.1 this).resolve_left h
  omega
 exact⟨f a1 c1,f a2 c2,f a3 c3⟩
theorem Tc3 {r:List Pln} {p q:Pln} {out:List Pt} {s:Pln} {x:Pt} (h:x∈out):x∈xa0 r p q out s:=by
 unfold xa0
 split
 ·exact List.mem_append_left _ h
 ·exact h
theorem Xb0 {r:List Pln} {p q:Pln} {x:Pt}:∀ {l:List Pln} {out:List Pt},x∈out→x∈db4 r p q l out
 | [],_,h=>h
 | s::l,out,h=>Xb0 (l:=l) (out:=xa0 r p q out s) (Tc3 h)
theorem Cb2 {r:List Pln} {p:Pln} {x:Pt}:∀ {l:List Pln} {out:List Pt},x∈out→x∈Ta0 r p l out
 | [],_,h=>h
 | _::l,_,h=>Cb2 (l:=l) (Xb0 h)
theorem zc9 {r:List Pln} {x:Pt}:∀ {l:List Pln} {out:List Pt},x∈out→x∈Lb7 r l out
 | [],_,h=>h
 | _::l,_,h=>zc9 (l:=l) (Cb2 h)
theorem Tc4 {r:List Pln} {p q:Pln} {out:List Pt} {s:Pln} (h1:(mpt p q s).2=true) (h2:inn r (mpt p q s).1=true):(mpt p q s).1∈xa0 r p q out s:=by
 unfold xa0
 rw[h1,h2]
 cases h:Vb2 out (mpt p q s).1 with
 | true=>simpa using (Zc8 _ _).1 h
 | false=>simp
theorem Xb1 {r:List Pln} {p q s:Pln} (h1:(mpt p q s).2=true) (h2:inn r (mpt p q s).1=true):∀ {l:List Pln} {out:List Pt},s∈l→(mpt p q s).1∈db4 r p q l out
 | [],_,h=>by cases h
 | t::l,out,h=>by
  show _∈db4 r p q l (xa0 r p q out t)
  rcases List.mem_cons.1 h with rfl | h
  ·exact Xb0 (Tc4 h1 h2)
  ·exact Xb1 h1 h2 h
structure Hit (r:List Pln) (Q:Pt→Prop) (p q s:Pln):Prop where
 h1:(mpt p q s).2=true
 h2:inn r (mpt p q s).1=true
 h3:Q (mpt p q s).1
theorem Ac0 {r:List Pln} {Q:Pt→Prop} {p q s:Pln} (hq:Hit r Q p q s) (hs:Hit r Q p s q) (hne:q≠s):∀ {l:List Pln} {out:List Pt},q∈l→s∈l→∃ x∈Ta0 r p l out,Q x
 | [],_,h,_=>by cases h
 | t::l,out,hql,hsl=>by
  show ∃ x∈Ta0 r p l (db4 r p t l out),Q x
  rcases List.mem_cons.1 hql with rfl | h1
  ·have h2:=(List.mem_cons.1 hsl).resolve_left fun h=>hne h.symm
   exact⟨_,Cb2 (Xb1 hq.h1 hq.h2 h2),hq.h3⟩
  ·rcases List.mem_cons.1 hsl with rfl | h2
   ·exact⟨_,Cb2 (Xb1 hs.h1 hs.h2 h1),hs.h3⟩
   ·exact Ac0 hq hs hne (l:=l) h1 h2
theorem Ac1 {r : List Pln} {Q : Pt → Prop} {p q s : Pln} (H : ∀ a c d, (a = p ∨ a = q ∨ a = s) → (c = p ∨ c = q ∨ c = s) → (d = p ∨ d = q ∨ d = s) → a ≠ c → c ≠ d → a ≠ d → Hit r Q a c d) (h1 : p ≠ q) (h2 : q ≠ s) (h3 : p ≠ s) :
  ∀ {l:List Pln} {out:List Pt},p∈l→q∈l→s∈l→∃ x∈Lb7 r l out,Q x
 | [],_,h,_,_=>by cases h
 | t::l,out,hp,hq,hs=>by
  have fin:∀ {a c d:Pln} {out:List Pt},(a=p∨a=q∨a=s)→(c=p∨c=q∨c=s)→(d=p∨d=q∨d=s)→a≠c→c≠d→a≠d→c∈l→d∈l→∃ x∈Lb7 r l (Ta0 r a l out),Q x:=fun ha hc hd n1 n2 n3 m1 m2=>by
   obtain⟨x,hx,hQ⟩:=Ac0 (H _ _ _ ha hc hd n1 n2 n3) (H _ _ _ ha hd hc n3 n2.symm n1) n2 (out:=_) m1 m2
   exact⟨x,zc9 hx,hQ⟩
  show ∃ x∈Lb7 r l (Ta0 r t l out),Q x
  rcases List.mem_cons.1 hp with rfl | hp'
  ·exact fin (.inl rfl) (.inr (.inl rfl)) (.inr (.inr rfl)) h1 h2 h3 ((List.mem_cons.1 hq).resolve_left (Ne.symm h1)) ((List.mem_cons.1 hs).resolve_left (Ne.symm h3))
  ·rcases List.mem_cons.1 hq with rfl | hq'
   ·exact fin (.inr (.inl rfl)) (.inl rfl) (.inr (.inr rfl)) (Ne.symm h1) h3 h2 hp' ((List.mem_cons.1 hs).resolve_left (Ne.symm h2))
   ·rcases List.mem_cons.1 hs with rfl | hs'
    ·exact fin (.inr (.inr rfl)) (.inl rfl) (.inr (.inl rfl)) (Ne.symm h3) h1 (Ne.symm h2) hp' hq'
    ·exact Ac1 H h1 h2 h3 hp' hq' hs'
theorem Dd2 {p q s:Pln} (h:mw p q s≠0):p≠q∧q≠s∧p≠s:=by
 refine⟨fun e=>h ?_,fun e=>h ?_,fun e=>h ?_⟩<;>(subst e;simp only[mw,dot,o5];grind)
theorem wd9 {r:List Pln} (hb:Bds r):∀ x∈cor r,Cn r x:=Lc5 fun p hp q hq s hs h hi=>by
 obtain⟨w1,w2,w3,w4,w5⟩:=Gc4 (hb p hp) (hb q hq) (hb s hs) h
 obtain⟨e1,e2,e3⟩:=dd7 h
 exact⟨(Nc0 hb ⟨w1,w5,w2,w3,w4⟩).1 hi,p,q,s,hp,hq,hs,(qd3 h).1,e1,e2,e3⟩
theorem xd0 {r:List Pln} (hb:Bds r) {v:Pt} (hv:Cn r v):∃ x∈cor r,Eqv x v:=by
 obtain⟨p,q,s,hp,hq,hs,hw,e1,e2,e3⟩:=hv.c
 obtain⟨n1,n2,n3⟩:=Dd2 hw
 refine Ac1 (fun a c d ha hc hd m1 m2 m3=>?_) n1 n2 n3 hp hq hs
 have hm:∀ {a},(a=p∨a=q∨a=s)→a∈r∧rmZ a v=0:=fun h=>by
  rcases h with rfl | rfl | rfl
  ·exact⟨hp,e1⟩
  ·exact⟨hq,e2⟩
  ·exact⟨hs,e3⟩
 have hw':mw a c d≠0:=by
  have k:mw a c d=mw p q s∨mw a c d=-mw p q s:=by
   rcases ha with rfl | rfl | rfl<;>rcases hc with rfl | rfl | rfl<;>rcases hd with rfl | rfl | rfl<;>first | exact absurd rfl m1 | exact absurd rfl m2 | exact absurd rfl m3 | exact .inl rfl | (left;simp only[mw,dot,o5];grind;done) | (right;simp only[mw,dot,o5];grind;done)
  rcases k with k | k<;>omega
 have h:=md9 hw'
 obtain⟨w1,w2,w3,w4,w5⟩:=Gc4 (hb a (hm ha).1) (hb c (hm hc).1) (hb d (hm hd).1) h
 obtain⟨f1,f2,f3⟩:=dd7 h
 have he:=wd8 hw' f1 f2 f3 (hm ha).2 (hm hc).2 (hm hd).2
 exact⟨h,(Nc0 hb ⟨w1,w5,w2,w3,w4⟩).2 (he.inr w1 hv.toInr),he⟩
theorem Hc8 (c:List Pln):Bdd (c++ws):=fun d hd=>by
 have k:∀ {n:V3} {m:Int},(⟨n,m⟩:Pln)∈ws→0 < dot n d→∃ p∈c++ws,0 < dot p.n d:=fun h h'=>⟨_,List.mem_append_right _ h,h'⟩
 by_cases h1:0 < d.x
 ·exact k (n:=⟨1,0,0⟩) (m:=24) (by simp[ws]) (by unfold dot;simp;omega)
 by_cases h2:d.x < 0
 ·exact k (n:=⟨-1,0,0⟩) (m:=24) (by simp[ws]) (by unfold dot;simp;omega)
 by_cases h3:0 < d.y
 ·exact k (n:=⟨0,1,0⟩) (m:=24) (by simp[ws]) (by unfold dot;simp;omega)
 by_cases h4:d.y < 0
 ·exact k (n:=⟨0,-1,0⟩) (m:=24) (by simp[ws]) (by unfold dot;simp;omega)
 by_cases h5:0 < d.z
 ·exact k (n:=⟨0,0,1⟩) (m:=24) (by simp[ws]) (by unfold dot;simp;omega)
 by_cases h6:d.z < 0
 ·exact k (n:=⟨0,0,-1⟩) (m:=24) (by simp[ws]) (by unfold dot;simp;omega)
 exact absurd (V3.ext' (by show d.x=0;omega) (by show d.y=0;omega) (by show d.z=0;omega)) hd
theorem Nc1 {r:List Pln} (hb:Bds r) {p:Pln} (hp:Bd p):pos (cor r) p=true↔∃ v,Cn r v∧0 < rmZ p v:=by
 unfold pos
 rw[List.any_eq_true]
 constructor
 ·rintro⟨x,hx,h⟩
  rw[Tc2 hp (Ob1 hb x hx)] at h
  exact⟨x,wd9 hb x hx,by simpa using h⟩
 ·rintro⟨v,hv,h⟩
  obtain⟨x,hx,he⟩:=xd0 hb hv
  refine⟨x,hx,?_⟩
  rw[Tc2 hp (Ob1 hb x hx)]
  have h1:=he.rm p
  have h2:=Int.mul_pos h (Ob1 hb x hx).w1
  have:0 < rmZ p x:=Int.lt_of_mul_lt_mul_right (by rw[Int.zero_mul];omega:0*v.pw < rmZ p x*v.pw) (Int.le_of_lt hv.w)
  simpa using this
theorem Hb7 {r:List Pln} (hb:Bds r) (hd:Bdd r) (h0:r≠[]):ball r=true↔md8 r:=by
 rw[dd6 hd h0]
 unfold ball
 rw[List.all_eq_true]
 exact⟨fun h p hp=>(Nc1 hb (hb p hp)).1 (h p hp),fun h p hp=>(Nc1 hb (hb p hp)).2 (h p hp)⟩
end Go.Ev.Ce
namespace Go.Ev.Ce
def dv (z v:Pt):V3:=⟨v.px*z.pw - z.px*v.pw,v.py*z.pw - z.py*v.pw,v.pz*z.pw - z.pz*v.pw⟩
end Go.Ev.Ce
namespace Go.Ev.Ce
open Go Go.Ev Go.Ev.L Go.Proofs
def phP (out:List Pln):Nat:=match out with
 | []=>0
 | _::_=>1
end Go.Ev.Ce
namespace Go.Ev.Ce
open Go Go.Ev Go.Ev.L Go.Proofs
def Wa4 (p:Pln) (v:V3):Int:=if okp p&&inV v then (if dot p.n v - p.b < 0 then -1 else if dot p.n v - p.b > 0 then 1 else 0) else 0
theorem dd9 {p:Pln} {v:V3} (hp:Bd p) (hv:inV v=true):Sm 331776 (dot p.n v):=by
 obtain⟨⟨a1,a2⟩,⟨a3,a4⟩,a5,a6⟩:=(ob5 v).1 hv
 have r1:=mb hp.x1 hp.x2 a1 a2;have r2:=mb hp.y1 hp.y2 a3 a4;have r3:=mb hp.z1 hp.z2 a5 a6
 unfold Sm dot
 omega
def Tc5 (v:V3):Pt:=⟨v.x,v.y,v.z,1⟩
theorem nd0 (p:Pln) (v:V3):rmZ p (Tc5 v)=p.b - dot p.n v:=by simp only[rmZ,Tc5,dot];omega
theorem Ac2 {p:Pln} {v:V3} (hp:okp p=true) (hv:inV v=true):Wa4 p v > 0↔dot p.n v > p.b:=by
 unfold Wa4
 rw[hp,hv]
 simp only[Bool.and_self,if_true]
 split
 ·omega
 ·split<;>omega
theorem hc9 {p:Pln} {v:V3} (hp:okp p=true) (hv:inV v=true):Wa4 p v=0↔dot p.n v=p.b:=by
 unfold Wa4
 rw[hp,hv]
 simp only[Bool.and_self,if_true]
 split
 ·omega
 ·split<;>omega
theorem xd1 (v:V3):g3 v∣v.x∧g3 v∣v.y∧g3 v∣v.z:=by
 unfold g3
 refine⟨?_,?_,?_⟩<;>rw[← Int.dvd_natAbs]<;>apply Int.natCast_dvd_natCast.2
 ·exact Nat.dvd_trans (Nat.gcd_dvd_left _ _) (Nat.gcd_dvd_left _ _)
 ·exact Nat.dvd_trans (Nat.gcd_dvd_left _ _) (Nat.gcd_dvd_right _ _)
 ·exact Nat.gcd_dvd_right _ _
theorem xd2 (v:V3) (h:g3 v≠0):g3 ⟨Int.tdiv v.x (g3 v),Int.tdiv v.y (g3 v),Int.tdiv v.z (g3 v)⟩=1:=by
 generalize hg:g3 v=g at *
 have h0:0≤g:=hg ▸ Gb7 v
 obtain⟨n,rfl⟩:∃ n:Nat,g=n:=⟨g.toNat,by omega⟩
 have hn:0 < n:=by omega
 have hgn:Nat.gcd (Nat.gcd v.x.natAbs v.y.natAbs) v.z.natAbs=n:=by unfold g3 at hg;omega
 have d1:n∣Nat.gcd v.x.natAbs v.y.natAbs:=hgn ▸ Nat.gcd_dvd_left _ _
 have d3:n∣v.z.natAbs:=hgn ▸ Nat.gcd_dvd_right _ _
 have d4:n∣v.x.natAbs:=Nat.dvd_trans d1 (Nat.gcd_dvd_left _ _)
 have d5:n∣v.y.natAbs:=Nat.dvd_trans d1 (Nat.gcd_dvd_right _ _)
 unfold g3
 simp only[Int.natAbs_tdiv,Int.natAbs_natCast]
 show ((Nat.gcd (Nat.gcd (v.x.natAbs / n) (v.y.natAbs / n)) (v.z.natAbs / n):Nat):Int)=1
 rw[Nat.gcd_div d4 d5,Nat.gcd_div d1 d3,hgn,Nat.div_self hn]
 rfl
structure Thr (a b c:V3) (p:Pln):Prop where
 ok:okp p=true
 k:∃ g:Int,0 < g∧g*p.n.x=(o5 (sub b a) (sub c a)).x∧g*p.n.y=(o5 (sub b a) (sub c a)).y∧g*p.n.z=(o5 (sub b a) (sub c a)).z
 o:p.b=dot p.n a
theorem nd1 {a b c:V3} (h:(ub5 a b c).2=true):(inV a=true∧inV b=true∧inV c=true)∧Thr a b c (ub5 a b c).1:=by
 unfold ub5 at h ⊢
 cases ha:inV a with
 | false=>rw[ha] at h;cases h
 | true =>
  cases hb:inV b with
  | false=>rw[ha,hb] at h;cases h
  | true =>
   cases hc:inV c with
   | false=>rw[ha,hb,hc] at h;cases h
   | true =>
    rw[ha,hb,hc] at h
    simp only[Bool.and_self,if_true] at h ⊢
    obtain⟨_,k1,k2,k3⟩:=rb1 ha hb hc
    generalize hn:o5 (sub b a) (sub c a)=n at *
    by_cases h0:g3 n=0
    ·rw[if_pos h0] at h;cases h
    ·rw[if_neg h0]
     have hp:=Gb7 n
     obtain⟨d1,d2,d3⟩:=xd1 n
     have q1:=L7 (g:=g3 n) k1 (by omega)
     have q2:=L7 (g:=g3 n) k2 (by omega)
     have q3:=L7 (g:=g3 n) k3 (by omega)
     refine⟨⟨trivial,trivial,trivial⟩,⟨?_,⟨g3 n,by omega,by rw[hn];exact Int.mul_tdiv_cancel' d1,by rw[hn];exact Int.mul_tdiv_cancel' d2,by rw[hn];exact Int.mul_tdiv_cancel' d3⟩,rfl⟩⟩
     obtain⟨⟨a1,a2⟩,⟨a3,a4⟩,a5,a6⟩:=(ob5 a).1 ha
     have r1:=mb q1.1 q1.2 a1 a2;have r2:=mb q2.1 q2.2 a3 a4;have r3:=mb q3.1 q3.2 a5 a6
     unfold okp
     rw[xd2 n h0]
     simp only[List.all_cons,List.all_nil,Bool.and_true,Bool.and_eq_true,za9,beq_self_eq_true,true_and,and_true]
     refine⟨⟨q1,q2,q3⟩,?_⟩
     unfold Sm dot
     simp only
     omega
theorem ed0 {p:Pln} (h:okp p=true):okp (Hb6 p)=true:=by
 unfold okp Hb6 g3 at *
 simp only[List.all_cons,List.all_nil,Bool.and_true,Bool.and_eq_true,za9,Int.natAbs_neg] at h ⊢
 obtain⟨⟨h1,h2,h3⟩,h4,h5⟩:=h
 exact⟨⟨h1.neg,h2.neg,h3.neg⟩,h4,h5.neg⟩
def hold (p:Pln) (l:List V3):Bool:=!l.any fun v=>decide (Wa4 p v > 0)
end Go.Ev.Ce
namespace Go.Ev.Ce
open Go Go.Ev Go.Ev.L Go.Proofs
noncomputable def Dd3 (l:List V3) (a c:Nat) (out:List Pln) (k:Nat):List Pln :=
  if (ub5 (gL tV l a) (gL tV l c) (gL tV l k)).2 then
    (if hold (Hb6 (ub5 (gL tV l a) (gL tV l c) (gL tV l k)).1) l then md7 (if hold (ub5 (gL tV l a) (gL tV l c) (gL tV l k)).1 l then md7 out (ub5 (gL tV l a) (gL tV l c) (gL tV l k)).1 else out) (Hb6 (ub5 (gL tV l a) (gL tV l c) (gL tV l k)).1)
     else (if hold (ub5 (gL tV l a) (gL tV l c) (gL tV l k)).1 l then md7 out (ub5 (gL tV l a) (gL tV l c) (gL tV l k)).1 else out))
  else out
noncomputable def F2 (l:List V3) (a:Nat) (out:List Pln) (c:Nat):List Pln:=(List.range c).foldl (Dd3 l a c) out
noncomputable def F1 (l:List V3) (out:List Pln) (a:Nat):List Pln:=(List.range a).foldl (F2 l a) out
noncomputable def F0 (l:List V3):List Pln:=(List.range l.length).foldl (F1 l) []
end Go.Ev.Ce
namespace Go.Ev.Ce
open Go Go.Ev Go.Ev.L Go.Proofs
def ipt (v:V3):Pt:=⟨v.x,v.y,v.z,1⟩
theorem xd3 {v:V3} (h:inV v=true):Okx (ipt v):=by
 obtain⟨h1,h2,h3⟩:=(ob5 v).1 h
 exact⟨Int.one_pos,by show (1:Int)≤_;omega,h1.mono (by omega),h2.mono (by omega),h3.mono (by omega)⟩
theorem nd2 {c:List Pln} {x:Pt} (hb:∀ p∈c,Bd p) (hx:Okx x):inn c x=true↔∀ p∈c,0≤rmZ p x:=by
 unfold inn
 rw[List.all_eq_true]
 refine⟨fun h p hp=>?_,fun h p hp=>?_⟩
 ·have:=h p hp
  rw[Tc2 (hb p hp) hx] at this
  simpa using this
 ·rw[Tc2 (hb p hp) hx]
  simpa using h p hp
end Go.Ev.Ce
namespace Go.Ev.Ce
open Go Go.Ev Go.Ev.L Go.Proofs
structure Jd1 (l:List V3):Prop where
 h:∃ a c k v,a∈l∧c∈l∧k∈l∧v∈l∧dot (o5 (sub c a) (sub k a)) (sub v a)≠0
structure Fct (l:List V3) (p:Pln):Prop where
 ok:okp p=true
 hd:hold p l=true
end Go.Ev.Ce
namespace Go.Ev.Ce
open Go Go.Ev Go.Ev.L Go.Proofs
theorem ed1 (l:List Int):Rd (one r1P) (sa1 l) (fun p=>okp p=true):=by
 unfold sa1
 simp only[E5,G3]
 obtain⟨v1,j1,e1,a1,b1,c1,d1⟩:=ab7 8 l 0 (by omega) (by omega) (by omega) (by omega)
 rw[e1]
 simp only
 obtain⟨v2,j2,e2,a2,b2,c2,d2⟩:=ab7 17 l j1 (by omega) (by omega) (by omega) (by omega)
 rw[e2]
 simp only
 obtain⟨x1,x2,x3,j3,e3,_,_,_,c3,d3⟩:=Gb6 8 l j2 (by omega) (by omega) (by omega) (by omega)
 rw[e3]
 simp only
 obtain⟨y1,y2,y3,j4,e4,_,_,_,c4,d4⟩:=Gb6 8 l j3 (by omega) (by omega) (by omega) (by omega)
 rw[e4]
 simp only
 obtain⟨z1,z2,z3,j5,e5,_,_,_,c5,d5⟩:=Gb6 8 l j4 (by omega) (by omega) (by omega) (by omega)
 rw[e5]
 simp only[gc9,hc3,bd5 _ (show (0:Int) < 3 by omega) (by omega),G3]
 simp only[Nat.beq_refl,Bool.and_true,L2]
 have w2:W (v2 - 8)=v2 - 8:=da1 (by omega) (by omega)
 have w1:W (1 - W (2*Int.tmod v1 2))=1∨W (1 - W (2*Int.tmod v1 2))=-1:=by
  have h:=Int.tmod_nonneg 2 a1
  have h2:=Int.tmod_lt_of_pos v1 (show (0:Int) < 2 by omega)
  rw[da1 (n:=2*Int.tmod v1 2) (by omega) (by omega),da1 (by omega) (by omega)]
  omega
 rw[w2]
 generalize W (1 - W (2*Int.tmod v1 2))=s at *
 have ax:∀ {a c d:Int},(a=s∧c=0∧d=0)∨(a=0∧c=s∧d=0)∨(a=0∧c=0∧d=s)→okp ⟨⟨a,c,d⟩,v2 - 8⟩=true:=fun h=>by
  unfold okp
  simp only[List.all_cons,List.all_nil,Bool.and_true,Bool.and_eq_true,za9,beq_iff_eq,Sm]
  rcases h with⟨rfl,rfl,rfl⟩ | ⟨rfl,rfl,rfl⟩ | ⟨rfl,rfl,rfl⟩<;>rcases w1 with rfl | rfl<;>exact⟨by omega,by decide,by omega⟩
 have r1:Rd (one r1P) (some ((.agg [(i 0),(i s),(i 0),(i (v2 - 8))]),[])) (fun p=>okp p=true):=⟨_,⟨⟨0,s,0⟩,v2 - 8⟩,rfl,rfl,ax (.inr (.inl ⟨rfl,rfl,rfl⟩))⟩
 have r2:Rd (one r1P) (some ((.agg [(i 0),(i 0),(i s),(i (v2 - 8))]),[])) (fun p=>okp p=true):=⟨_,⟨⟨0,0,s⟩,v2 - 8⟩,rfl,rfl,ax (.inr (.inr ⟨rfl,rfl,rfl⟩))⟩
 have r3:Rd (one r1P) (some ((.agg [(i s),(i 0),(i 0),(i (v2 - 8))]),[])) (fun p=>okp p=true):=⟨_,⟨⟨s,0,0⟩,v2 - 8⟩,rfl,rfl,ax (.inl ⟨rfl,rfl,rfl⟩)⟩
 refine Rd.sl (fun _=>Rd.sl (fun h=>?_) fun _=>?_) (fun _=>?_)
 ·exact⟨_,(ub5 ⟨x1,x2,x3⟩ ⟨y1,y2,y3⟩ ⟨z1,z2,z3⟩).1,rfl,rfl,(nd1 h).2.ok⟩
 ·exact Rd.sl (fun _=>r1) fun _=>Rd.sl (fun _=>r2) fun _=>r3
 ·exact Rd.sl (fun _=>r1) fun _=>Rd.sl (fun _=>r2) fun _=>r3
theorem Nc2 (l:List Int):okp (X9 l)=true:=(ed1 l).p
theorem ic0:g3 ⟨1,0,0⟩=1∧g3 ⟨-1,0,0⟩=1∧g3 ⟨0,1,0⟩=1∧g3 ⟨0,-1,0⟩=1∧g3 ⟨0,0,1⟩=1∧g3 ⟨0,0,-1⟩=1:=by decide
structure Ac3 (c:List Pln):Prop where
 l:c.length≤47
 v:∀ p∈c,okp p=true
 f:md8 (c++ws)
theorem Ac3.chk {c:List Pln} (h:Ac3 c):(chk c==0)=true:=by
 rw[beq_iff_eq,kb1]
 exact⟨by have:=h.l;omega,h.v⟩
theorem Ac3.bds {c:List Pln} (h:Ac3 c):Bds (c++ws):=(Qa5 h.chk).1
theorem Ac3.ful {c:List Pln} (h:Ac3 c):ful c=true:=by
 unfold Ce.ful
 rw[h.chk,(Hb7 h.bds (Hc8 c) (by simp[ws])).2 h.f]
 rfl
theorem Ac3.pts {c:List Pln} (h:Ac3 c):pts c=cor (c++ws):=by unfold Ce.pts;rw[if_pos h.chk]
end Go.Ev.Ce
namespace Go.Ev
open Go Go.ChangeShapes Go.RowKit
structure Xb2 (w w':World):Prop where
 os:w'.os=w.os
 output:w'.output=w.output
 size:w.heap.size≤w'.heap.size
 block:∀ k,k < w.heap.size→w'.heap[k]?=w.heap[k]?
theorem Xb2.kept {w w':World} (h:Xb2 w w') (may:MemPlace→Prop):w.keptBut w' may:=by
 refine⟨h.os,h.output,fun i hi=>?_⟩
 rw[h.block i hi]
 cases w.heap[i]? with
 | none=>rfl
 | some o=>cases o<;>first | exact⟨rfl,rfl,rfl,fun _ _=>rfl⟩ | exact .inr ⟨rfl,rfl⟩ | rfl
theorem Xb2.frozen {w w':World} (h:Xb2 w w') (b off:Nat) (hb:b < w.heap.size):w'.frozen? ⟨b,off,none⟩=w.frozen? ⟨b,off,none⟩:=by
 simp only[World.frozen?,h.block b hb]
theorem Xb2.cell {w w':World} (h:Xb2 w w') (b off:Nat) (hb:b < w.heap.size):w'.cell? ⟨b,off,none⟩=w.cell? ⟨b,off,none⟩:=by
 simp only[World.cell?,h.block b hb]
theorem Xb2.same {w w':World} (h:Xb2 w w') (p:MemPlace) (hp:p.block < w.heap.size):w.sameAt w' p:=by
 cases p with
 | cell b off=>exact h.cell b off hp
 | map b=>exact h.block b hp
theorem Wa5 {α β:Type} {f:α→Option β}:∀ {l:List α} {r:List β},l.mapM f=some r→r.length=l.length∧∀ (j:Nat) y,r[j]?=some y→∃ x,l[j]?=some x∧f x=some y
 | [],r,h=>by
  have:r=[]:=by simpa using h.symm
  subst this;simp
 | x::l,r,h=>by
  rw[List.mapM_cons] at h
  obtain⟨y,h1,h2⟩:=Option.bind_eq_some_iff.1 h
  obtain⟨r',h3,h4⟩:=Option.bind_eq_some_iff.1 h2
  have:r=y::r':=by simpa using h4.symm
  subst this
  obtain⟨g1,g2⟩:=Wa5 h3
  refine⟨by simp[g1],fun j z hz=>?_⟩
  cases j with
  | zero=>simp at hz;subst hz;exact⟨x,rfl,h1⟩
  | succ j=>simpa using g2 j z (by simpa using hz)
section
variable {D:Type} {enc:TypeId×Value→D} {P:Program}
theorem rb4 {T : TypeId → Prop} (K : Kids P T) (hsz : ∀ {t e : TypeId}, T t → P.underlying t = some (.slice e) → 0 < P.cellsOf e) {w w' : World} {sp : Nat → Bool} (hs : Xb2 w w') :
  ∀ {ts:List TypeId} {vs:List Value} {ds:List (DataW D)} {ps:List MemPlace},(∀ t∈ts,T t)→DataW.TrodAll enc P w 0 (fun _=>true) true ts vs ds ps→(∀ p∈ps,p.block < w.heap.size)→(∀ p∈ps,sp p.block=true)→DataW.TrodAll enc P w' 0 sp true ts vs ds ps
 | [],[],[],_,_,h,_,_=>h
 | t::ts,v::vs,d::ds,ps,ht,h,hlt,hsp=>by
  obtain⟨p,q,⟨fuel,h1⟩,h2,rfl⟩:=h
  refine⟨p,q,⟨fuel,?_⟩,rb4 K hsz hs (fun t h=>ht t (by simp[h])) h2 (fun x hx=>hlt x (by simp[hx])) (fun x hx=>hsp x (by simp[hx])),rfl⟩
  exact DataW.trod_stays K hsz (fun h=>by cases h) (ht t (by simp)) h1 (fun x hx=>hs.same x (hlt x (by simp at hx ⊢;exact .inl hx))) (fun x hx=>hsp x (by simp at hx ⊢;exact .inl hx))
 | [],_::_,_,_,_,h,_,_=>h.elim
 | [],[],_::_,_,_,h,_,_=>h.elim
 | _::_,[],_,_,_,h,_,_=>h.elim
 | _::_,_::_,[],_,_,h,_,_=>h.elim
theorem ed2 {T : TypeId → Prop} (K : Kids P T) (hsz : ∀ {t e : TypeId}, T t → P.underlying t = some (.slice e) → 0 < P.cellsOf e) {f : Func} {s : ChangeSpec} {apart fresh handsOn again : Bool} {W W' : World} {args : Array Value} {ds gs : List (DataW D)} {before : List MemPlace} {tb : TypeId}
  (hT:∀ t∈f.params.toList,T t) (hW:DataW.Whole enc P f.params.toList s.vars apart W args.toList ds gs before) (hv:s.vars=[]) (hr:f.resultTypes=#[tb]) (hb:P.underlying tb=some .bool)
  (h1:(s.fn D ds).results=[.lit (.bool true)]) (h2:(s.fn D ds).args=ds) (h3:(s.fn D ds).vars=[]) (hs:Xb2 W W') :
  s.post enc P f apart fresh handsOn again W args (.bool true) W':=by
 have hlt:=hW.lt
 obtain⟨pa,pv,hA,hV,hps,hz,hn⟩:=id hW
 rw[hv] at hV
 have hpv:gs=[]∧pv=[]:=by
  cases gs with
  | nil=>exact⟨rfl,hV⟩
  | cons=>exact hV.elim
 obtain⟨rfl,rfl⟩:=hpv
 rw[← List.append_nil ds] at h1 h3
 have h2:(s.fn D (ds++[])).args=ds:=by rw[List.append_nil];exact h2
 have hpa:before=pa:=by rw[hps];simp
 subst hpa
 have hagain:∀ sp:Nat→Bool,(∀ p∈before,sp p.block=true)→DataW.TrodAll enc P W' 0 sp true f.params.toList args.toList ds before:=fun sp h=>rb4 K hsz hs hT hA hlt h
 have hres:∀ (b:Nat) (sp:Nat→Bool) (hd:Bool),DataW.TrodAll enc P W' b sp hd f.resultTypes.toList ((Value.bool true).resultList f.resultTypes.size) [.lit (.bool true)] []:=fun b sp hd=>by
  rw[hr]
  exact⟨[],[],⟨1,by simp[DataW.trod,hb,Value.cells,Value.resultList]⟩,rfl,rfl⟩
 have hvars:∀ sp:Nat→Bool,DataW.TrodVars enc P W' sp s.vars ([]:List (DataW D)) []:=fun sp=>by rw[hv];exact rfl
 have hok:∀ (j:Nat) (t:TypeId) (r:Value),f.resultTypes[j]?=some t→((Value.bool true).resultList f.resultTypes.size)[j]?=some r→Value.okWide P W' .any 0 t r:=by
  rw[hr]
  intro j t r h4 h5
  cases j with
  | zero =>
   simp at h4
   subst h4
   have:r=.bool true:=by simpa [Value.resultList] using h5.symm
   subst this
   exact okWide_bool_mk hb _
  | succ j=>simp at h4
 have hag:DataW.TrodAll enc P W' 0 (fun _=>true) true (f.resultTypes.toList++f.params.toList) ((Value.bool true).resultList f.resultTypes.size++args.toList) (.lit (.bool true)::ds) before:=by
  have:=hagain (fun _=>true) (fun _ _=>rfl)
  rw[hr]
  exact⟨[],before,⟨1,by simp[DataW.trod,hb,Value.cells,Value.resultList]⟩,this,rfl⟩
 refine⟨ds,[],before,[],before,[],hW,?_,?_,?_,hs.kept _,fun _=>?_⟩
 ·rw[h1];exact hres _ _ _
 ·rw[h2];exact hagain _ fun p hp=>by simpa using hlt p hp
 ·rw[h3];exact hvars _
 ·refine⟨hok,.lit (.bool true)::ds,[],before,⟨before,[],hag,hvars _,by simp,?_,?_⟩,?_⟩
  ·intro b off hp
   rw[hs.frozen b off (hlt _ hp)]
   exact hz b off (by simpa using hp)
  ·intro ha;simpa using hn ha
  ·intro p hp _;exact hp
variable {w:World} {base:Nat} {spare:Nat→Bool} {held:Bool}
def Hb8 (w:World):Fz:=fun b o=>(w.cell? ⟨b,o,none⟩).isSome
theorem xd4 {fuel : Nat} {t : TypeId} {k : IntKind} {cs : List Value} {x : DataW D × List MemPlace} (ht : P.underlying t = some (.int k)) (h : DataW.trod enc P w base spare held fuel t cs = some x) :
  ∃ n,cs=[.int k n]∧(Lit.int k n).wf=true∧x.1=.lit (.int k n):=by
 cases fuel with
 | zero=>cases h
 | succ fuel =>
  match cs,h with
  | [],h=>simp[DataW.trod,ht] at h
  | [v],h =>
   cases v with
   | int k' n =>
    simp only[DataW.trod,ht] at h
    split at h
    ·rename_i hk
     obtain⟨rfl,hw⟩:=hk
     injection h with h;subst h
     exact⟨n,rfl,hw,rfl⟩
    ·cases h
   | _=>simp[DataW.trod,ht] at h
  | a::b::r,h=>simp[DataW.trod,ht] at h
theorem nd3 {fuel : Nat} {t : TypeId} {cs : List Value} {x : DataW D × List MemPlace} (ht : P.underlying t = some .bool) (h : DataW.trod enc P w base spare held fuel t cs = some x) :
  ∃ n,cs=[.bool n]∧x.1=.lit (.bool n):=by
 cases fuel with
 | zero=>cases h
 | succ fuel =>
  match cs,h with
  | [],h=>simp[DataW.trod,ht] at h
  | [v],h =>
   cases v with
   | bool n =>
    simp only[DataW.trod,ht] at h
    injection h with h;subst h
    exact⟨n,rfl,rfl⟩
   | _=>simp[DataW.trod,ht] at h
  | a::b::r,h=>simp[DataW.trod,ht] at h
theorem ed3 {fuel : Nat} {t e : TypeId} {n : Nat} {cs : List Value} {x : DataW D × List MemPlace} (ht : P.underlying t = some (.array n e)) (h : DataW.trod enc P w base spare held fuel t cs = some x) :
  cs.length=P.cellsOf t∧∃ (fuel':Nat) (xs:List (DataW D×List MemPlace)),xs.length=n∧x.1=.agg (xs.map (·.1))∧∀ (j:Nat) y,xs[j]?=some y→DataW.trod enc P w base spare held fuel' e ((cs.drop (j*P.cellsOf e)).take (P.cellsOf e))=some y:=by
 cases fuel with
 | zero=>cases h
 | succ fuel =>
  unfold DataW.trod at h
  rw[ht] at h
  simp only at h
  split at h
  ·rename_i hl
   obtain⟨xs,h1,h2⟩:=Option.map_eq_some_iff.1 h
   have hx:=Wa5 h1
   exact⟨hl,fuel,xs,by simpa using hx.1,by rw[← h2],fun j y hy=>by
    obtain⟨a,ha,hb⟩:=hx.2 j y hy
    have:j < n:=by
     have:=(List.getElem?_eq_some_iff.1 hy).1
     rw[hx.1] at this;simpa using this
    rw[List.getElem?_range this] at ha
    injection ha with ha
    subst ha
    exact hb⟩
  ·cases h
theorem Tc6 {fuel : Nat} {t : TypeId} {fs : Array Field} {cs : List Value} {x : DataW D × List MemPlace} (ht : P.underlying t = some (.struct fs)) (h : DataW.trod enc P w base spare held fuel t cs = some x) :
  cs.length=P.cellsOf t∧∃ (fuel':Nat) (xs:List (DataW D×List MemPlace)),xs.length=fs.size∧x.1=.agg (xs.map (·.1))∧∀ (j:Nat) f,fs[j]?=some f→∃ y,xs[j]?=some y∧DataW.trod enc P w base spare held fuel' f.type ((cs.drop f.offset).take (P.cellsOf f.type))=some y:=by
 cases fuel with
 | zero=>cases h
 | succ fuel =>
  unfold DataW.trod at h
  rw[ht] at h
  simp only at h
  split at h
  ·rename_i hl
   obtain⟨xs,h1,h2⟩:=Option.map_eq_some_iff.1 h
   have hx:=Wa5 h1
   refine⟨hl,fuel,xs,by simpa using hx.1,by rw[← h2],fun j f hf=>?_⟩
   have hj:j < xs.length:=by
    rw[hx.1];simpa using (Array.getElem?_eq_some_iff.1 hf).1
   obtain⟨a,ha,hb⟩:=hx.2 j _ (List.getElem?_eq_getElem hj)
   have:a=f:=by
    have:fs.toList[j]?=some f:=by simpa using hf
    exact Option.some.inj (ha.symm.trans this)
   subst this
   exact⟨_,List.getElem?_eq_getElem hj,hb⟩
  ·cases h
theorem Ac4 {fuel : Nat} {t e : TypeId} {cs : List Value} {x : DataW D × List MemPlace} (ht : P.underlying t = some (.slice e)) (h : DataW.trod enc P w base spare held fuel t cs = some x) :
  cs=[.slice none 0 0]∨∃ (a:Addr) (n cap fuel':Nat),cs=[.slice (some a) n cap]∧n≤cap∧cap≤maxLen∧∀ j,j < n→∃ row y,w.cells? base (a.add (j*P.cellsOf e)) (P.cellsOf e)=some row∧DataW.trod enc P w base spare held fuel' e row=some y:=by
 cases fuel with
 | zero=>cases h
 | succ fuel =>
  match cs,h with
  | [],h=>simp[DataW.trod,ht] at h
  | [v],h =>
   cases v with
   | slice a len cap =>
    cases a with
    | none =>
     simp only[DataW.trod,ht] at h
     split at h<;>first | (rename_i e1;cases e1;done) | skip
     all_goals first | exact .inl rfl | (simp_all;done) | skip
    | some a =>
     refine .inr ?_
     simp only[DataW.trod,ht] at h
     split at h
     ·rename_i hc
      obtain⟨elems,h1,h2⟩:=Option.bind_eq_some_iff.1 h
      have hx:=Wa5 h1
      refine⟨a,len,cap,fuel,rfl,hc.2.1,hc.2.2,fun j hj=>?_⟩
      have hj':j < elems.length:=by rw[hx.1];simpa using hj
      obtain⟨i,hi,hb⟩:=hx.2 j _ (List.getElem?_eq_getElem hj')
      rw[List.getElem?_range hj] at hi
      injection hi with hi
      subst hi
      obtain⟨row,r1,r2⟩:=Option.bind_eq_some_iff.1 hb
      exact⟨row,_,r1,r2⟩
     ·cases h
   | _=>simp[DataW.trod,ht] at h
  | a::b::r,h=>simp[DataW.trod,ht] at h
theorem Nc3:∀ (d:Nat) (t:TypeId) (l:List (Nat×CK)),P3 P d t=some l→∀ (fuel:Nat) (cs:List Value) (x:DataW D×List MemPlace),DataW.trod enc P w base spare held fuel t cs=some x→∀ p∈l,ma9 cs.toArray p
 | 0,_,_,h,_,_,_,_=>by cases h
 | d+1,t,l,h,fuel,cs,x,hx=>by
  have hpart:∀ {off n:Nat} {e:TypeId} {l':List (Nat×CK)} {fuel':Nat} {y:DataW D×List MemPlace},eb9 off n (P3 P d e)=some l'→DataW.trod enc P w base spare held fuel' e ((cs.drop off).take n)=some y→∀ p∈l',ma9 cs.toArray p:=fun {off n e l' fuel' y} h1 h2 p hp=>by
   obtain⟨l2,g1,g2,rfl⟩:=sa4 h1
   obtain⟨q,hq,rfl⟩:=List.mem_map.1 hp
   have:=Nc3 d e l2 g1 fuel' _ y h2 q hq
   have hlt:=g2 q hq
   unfold ma9 at this ⊢
   simp only[List.getElem?_toArray,List.getElem?_take,hlt,if_true,List.getElem?_drop] at this ⊢
   exact this
  have hcat:∀ {α:Type} (f:α→Option (List (Nat×CK))) (xs:List α) (l:List (Nat×CK)),ba6 (xs.map f)=some l→∀ p∈l,∃ a∈xs,∃ l',f a=some l'∧p∈l':=fun {α} f xs=>by
   induction xs with
   | nil=>intro l h;simp only[List.map_nil,ba6] at h;injection h with h;subst h;simp
   | cons a xs ih =>
    intro l h p hp
    simp only[List.map_cons,ba6] at h
    cases h1:f a with
    | none=>simp[h1] at h
    | some l1 =>
    cases h2:ba6 (xs.map f) with
    | none=>simp[h1,h2] at h
    | some l2 =>
    simp only[h1,h2] at h
    injection h with h;subst h
    rcases List.mem_append.1 hp with hp | hp
    ·exact⟨a,by simp,l1,h1,hp⟩
    ·obtain⟨b,hb,r⟩:=ih l2 h2 p hp
     exact⟨b,by simp[hb],r⟩
  unfold P3 at h
  cases hu:P.underlying t with
  | none=>simp[hu] at h
  | some u =>
  cases u with
  | int k =>
   simp only[hu] at h;injection h with h;subst h
   obtain⟨n,rfl,_,_⟩:=xd4 hu hx
   intro p hp;simp at hp;subst hp;exact⟨n,rfl⟩
  | bool =>
   simp only[hu] at h;injection h with h;subst h
   obtain⟨n,rfl,_⟩:=nd3 hu hx
   intro p hp;simp at hp;subst hp;exact⟨n,rfl⟩
  | struct fs =>
   simp only[hu] at h
   split at h
   ·cases h
   obtain⟨_,fuel',xs,_,_,hxs⟩:=Tc6 hu hx
   intro p hp
   obtain⟨f,hf,l',h1,h2⟩:=hcat _ _ _ h p hp
   split at h1
   ·cases h1
   obtain⟨j,hj⟩:=List.getElem?_of_mem hf
   obtain⟨y,_,hy⟩:=hxs j f (by simpa using hj)
   have hc:P.cellsOf f.type=szT P f.type:=by
    unfold Program.cellsOf szT
    cases P.info? f.type<;>rfl
   rw[hc] at hy
   exact hpart h1 hy p h2
  | array n e =>
   simp only[hu] at h
   split at h
   case isFalse=>cases h
   obtain⟨_,fuel',xs,hn,_,hxs⟩:=ed3 hu hx
   intro p hp
   obtain⟨j,hj,l',h1,h2⟩:=hcat _ _ _ h p hp
   have hj':j < xs.length:=by rw[hn];simpa using hj
   have hy:=hxs j _ (List.getElem?_eq_getElem hj')
   have hc:P.cellsOf e=szT P e:=by
    unfold Program.cellsOf szT
    cases P.info? e<;>rfl
   rw[hc] at hy
   exact hpart h1 hy p h2
  | _=>simp[hu] at h
def Ma5 (k:IntKind) (es:Nat) (g:Nat→Int):List a7:=(List.range es).map fun c=>.v (.int k (g c))
def ja1 (k:IntKind) (es:Nat):List (Nat×CK):=(List.range es).map fun c=>(c,.int k)
theorem Nc4 {d : Nat} {t : TypeId} {k : IntKind} {es : Nat} (hf : P3 P d t = some (ja1 k es)) {fuel : Nat} {cs : List Value} {x : DataW D × List MemPlace} (hx : DataW.trod enc P w base spare held fuel t cs = some x) (hl : cs.length = es) :
  ∃ g:Nat→Int,∀ c,c < es→cs[c]?=some (.int k (g c)):=by
 have h:=Nc3 d t _ hf fuel cs x hx
 have h':∀ c,∃ n:Int,c < es→cs[c]?=some (.int k n):=fun c=>by
  by_cases hc:c < es
  ·have:=h (c,.int k) (List.mem_map.2 ⟨c,by simpa using hc,rfl⟩)
   obtain⟨n,hn⟩:=this
   exact⟨n,fun _=>by simpa using hn⟩
  ·exact⟨0,fun h=>absurd h hc⟩
 exact⟨fun c=>Classical.choose (h' c),fun c hc=>Classical.choose_spec (h' c) hc⟩
theorem ed4 {F:Fz} {w:World} (k:IntKind) (n:Int):O7 F w (.v (.int k n)) (.int k n):=.v _ rfl
theorem Xb3 {k:IntKind} {es:Nat} {g:Nat→Int} {c:Nat} {x:a7} (h:(Ma5 k es g)[c]?=some x):c < es∧x=.v (.int k (g c)):=by
 unfold Ma5 at h
 obtain⟨h1,h2⟩:=ta5 h
 exact⟨h1,h2.symm⟩
theorem bc6 {t e : TypeId} {k : IntKind} {es d : Nat} (ht : P.underlying t = some (.slice e)) (hf : P3 P d e = some (ja1 k es)) (hes : P.cellsOf e = es) (h0 : 0 < es) {fuel : Nat} {cs : List Value} {x : DataW D × List MemPlace} (hx : DataW.trod enc P w 0 spare held fuel t cs = some x) :
  ∃ (v:Value) (n:Nat) (g:Nat→Nat→Int),cs=[v]∧n≤maxLen∧O7 (Hb8 w) w (.tree es n fun j=>Ma5 k es (g j)) v:=by
 rcases Ac4 ht hx with rfl | ⟨a,n,cap,fuel',rfl,hn,hc,hel⟩
 ·exact⟨_,0,fun _ _=>0,rfl,Nat.zero_le _,.nil _ _⟩
 ·rw[hes] at hel
  have hcell:∀ j,j < n→∃ g:Nat→Int,∀ c,c < es→w.cell? ((a.add (j*es)).add c)=some (.int k (g c)):=fun j hj=>by
   obtain⟨row,y,h1,h2⟩:=hel j hj
   unfold World.cells? at h1
   split at h1
   ·obtain⟨l1,l2⟩:=Wa5 h1
    have hl:row.length=es:=by simpa using l1
    obtain⟨g,hg⟩:=Nc4 hf h2 hl
    refine⟨g,fun c hc=>?_⟩
    obtain⟨i,hi,hi2⟩:=l2 c _ (hg c hc)
    rw[List.getElem?_range hc] at hi
    injection hi with hi
    subst hi
    exact hi2
   ·cases h1
  have hg:∀ j,∃ g:Nat→Int,j < n→∀ c,c < es→w.cell? ((a.add (j*es)).add c)=some (.int k (g c)):=fun j=>by
   by_cases hj:j < n
   ·obtain⟨g,hg⟩:=hcell j hj
    exact⟨g,fun _=>hg⟩
   ·exact⟨fun _=>0,fun h=>absurd h hj⟩
  obtain⟨g,hg⟩:=Classical.axiomOfChoice hg
  have hspot:0 < n→a.spot=none:=fun hn=>by
   have:=hg 0 hn 0 h0
   simpa [Addr.add] using World.cell?_spot this
  have hw:∀ j c,j < n→c < es→w.cell? ⟨a.block,a.off+(j*es+c),none⟩=some (.int k (g j c)):=fun j c hj hc=>by
   have:=hg j hj c hc
   rw[L1 (hspot (by omega)),L1 rfl] at this
   simpa [Nat.add_assoc] using this
  refine⟨_,n,g,rfl,Nat.le_trans hn hc,.tree es n _ a cap (fun j c=>.int k (g j c)) hspot hn (fun i hi=>by simp[Ma5]) (fun i c hi hc=>?_) hw fun i c hi hc=>?_⟩
  ·unfold Hb8
   rw[hw i c hi hc]
   rfl
  ·have:=(Xb3 (List.getElem?_eq_getElem hc)).2
   rw[this]
   exact ed4 _ _
theorem Tc7 (w:World):s6 (fun k=>w.heap.size≤k) (fun _=>⟨0,0,0⟩) [] (Hb8 w) w :=
 ⟨fun id b h=>by simp at h,fun id id' b b' h=>by simp at h,fun _ _ h=>h,fun _ h=>h⟩
theorem Tc8 {G : Nat → List Value} {f : FuncId} {S : Sum} (hS : i7 P G f S) {aargs : List a7} {args : List Value} (hrun : ∃ out, (S aargs []).run = some (b true, out)) (hl : aargs.length = args.length)
  (ha:∀ (i:Nat) x x',aargs[i]?=some x→args[i]?=some x'→S8 (fun _=>⟨0,0,0⟩) [] (Hb8 w) w x x') (hG:∀ g (c:Nat) x,(G g)[c]?=some x→x.oneCell'=true∧w.cell? ⟨g,c,none⟩=some x) :
  Calls P f args.toArray w fun e w'=>e=.returned (.bool true)∧Xb2 w w':=by
 obtain⟨out,hrun⟩:=hrun
 obtain⟨_,hc⟩:=hS aargs [] (b true) out hrun (fun k=>w.heap.size≤k) (fun _=>⟨0,0,0⟩) (Hb8 w) w args (Tc7 w) hl (fun i x x' h1 h2=>.val (ha i x x' h1 h2)) (fun g c x hx=>by
  obtain⟨h1,h2⟩:=hG g c x hx
  exact⟨h1,by unfold Hb8;rw[h2];rfl,h2⟩)
 refine hc.mono fun e w' ⟨r',he,ρ',F',hA,hH,hW⟩=>?_
 have:=S9 hW
 subst this
 exact⟨he,hA.ext.os,hA.ext.output,hA.ext.size,fun k hk=>hA.ext.block k hk (by omega)⟩
theorem nd4 {ρ : Rho} {H : List a8} {F : Fz} {t : TypeId} {k : IntKind} {es d : Nat} {v : Value} {dd : DataW D} {pp : List MemPlace} {bs : Nat} {r : Reach} (hag : agT P t = true) (hf : P3 P d t = some (ja1 k es)) (hes : P.cellsOf t = es)
  (hok:Value.okWide P w r bs t v) (h:DataW.Trod enc P w base spare held t v dd pp):∃ g:Nat→Int,S8 ρ H F w (.agg (Ma5 k es g)) v:=by
 have hv:∃ cs:Array Value,v=.agg cs∧cs.size=P.cellsOf t:=by
  unfold agT at hag
  unfold Value.okWide at hok
  split at hag
  ·rename_i fs hu;rw[hu] at hok;obtain⟨cs,h1,h2,_⟩:=hok;exact⟨cs,h1,h2⟩
  ·rename_i n e hu;rw[hu] at hok;obtain⟨cs,h1,h2,_⟩:=hok;exact⟨cs,h1,h2⟩
  ·cases hag
 obtain⟨cs,rfl,hsz⟩:=hv
 obtain⟨fuel,hx⟩:=h
 have hx:DataW.trod enc P w base spare held fuel t cs.toList=some (dd,pp):=hx
 obtain⟨g,hg⟩:=Nc4 hf hx (by simpa [hes] using hsz)
 refine⟨g,.agg _ _ (by simp[Ma5,hsz,hes]) fun c x x' h1 h2=>?_⟩
 obtain⟨hc,rfl⟩:=Xb3 h1
 have:=hg c hc
 have h3:some x'=some (.int k (g c)):=by rw[← h2];simpa using this
 injection h3 with h3
 subst h3
 exact .v _
end
end Go.Ev
namespace Go.Ev.L
open Go Go.Ev
def Rdg {α:Type} (c:Cod α) (x:a7) (a:α):Prop:=c.dec x=some a∧c.grd x=true
section
variable {α β γ δ ε:Type} {c:Cod α} {d:Cod β} {e:Cod γ} {f:Cod δ} {c5:Cod ε} {x y z w v:a7} {a:α} {b':β} {g:γ} {j:δ} {m:ε} {r:a7×List a8}
theorem Jd0 {k:α→β→DT (a7×List a8)} (h1:Rdg c x a) (h2:Rdg d y b') (h:(k a b').run=some r):(pa0 c d k [x,y] []).run=some r:=by
 unfold pa0
 simp only[h1.1,h1.2,h2.1,h2.2]
 exact h
end
theorem xd5 {g p:Bool} (hg:g=true) (hp:p=true):(DT.guard g (.ret ((one r1B).enc p,([]:List a8)))).run=some (b true,([]:List a8)):=by subst hg;subst hp;rfl
end Go.Ev.L
namespace Go.Ev.Ce
open Go Go.Ev Go.Ev.L Go.Proofs
structure B3 where
 b0:Int
 b1:Int
 b2:Int
def okB:List a7→Bool
 | [.v (.int .u8 _),.v (.int .u8 _),.v (.int .u8 _)]=>true
 | _=>false
def rdB:List a7→B3
 | [.v (.int .u8 x),.v (.int .u8 y),.v (.int .u8 z)]=>⟨x,y,z⟩
 | _=>⟨0,0,0⟩
noncomputable def tW:Ty B3 where
 es:=3
 row x:=[.v (.int .u8 x.b0),.v (.int .u8 x.b1),.v (.int .u8 x.b2)]
 rd:=rdB
 ok:=okB
 cks:=List.replicate 3 (.int .u8)
 d:=⟨0,0,0⟩
 h0 _:=rfl
 h1 _:=rfl
 h2 _:=rfl
 h3 r h:=by
  unfold okB at h
  split at h
  ·exact .refl _
  ·cases h
 h4 _:=rfl
 h5 _:=rfl
end Go.Ev.Ce
section
namespace Go.Ev.Ce
open Go Go.Ev Go.Ev.L Go.Proofs
set_option maxRecDepth 100000
noncomputable def pc3:List (Nat×Sum):=[]
theorem bc7:m9 prog G pc3:=trivial
noncomputable def ma1 (x:V3) (y:V3):V3:=(⟨(W (x.x - y.x)),(W (x.y - y.y)),(W (x.z - y.z))⟩:V3)
noncomputable def lb6:Sum:=pa0 (ja0 tV) (ja0 tV) (fun x y=>.ret ((one r1V).enc (ma1 x y),[]))
theorem Cb3:i7 prog G 18 lb6:=ta8 (bd b18 bc7) fun x y=>D2 (by kernel_rfl)
noncomputable def bc8:List (Nat×Sum):=[(18,lb6)]
theorem Xb4:m9 prog G bc8:=⟨Cb3,trivial⟩
noncomputable def wa3 (x:Pln):Pln:=let t1:=(ma1 (⟨0,0,0⟩:V3) x.n);(⟨t1,(W (0 - x.b))⟩:Pln)
noncomputable def Cb4:Sum:=ra8 (ja0 tP) (fun x=>.ret ((one r1P).enc (wa3 x),[]))
theorem bc9:i7 prog G 17 Cb4:=yb2 (bd b17 Xb4) fun x=>D2 (by kernel_rfl)
noncomputable def cc2:List (Nat×Sum):=[(45,Sa2),(40,ub6),(47,Qa3),(46,Ta4)]
theorem Xb5:m9 prog G cc2:=⟨jb3,Jb4,Za2,lb0,trivial⟩
noncomputable def wa4 (x:Pln) (y:V3):Option (a7×List a8):=let t1:=(pa5 x);let t2:=(La9 y);let t3:=(aa5 x.n y);let t4:=(W5 t3 x.b);(sl (pa6 x) (sl (!t1) (some ((i 0),[])) (sl (Ma0 y) (sl (!t2) (some ((i 0),[])) (sl (W6 t3 x.b) (some ((i t4),[])) none)) none)) none)
noncomputable def wa5 (x:Pln) (y:V3):Int:=fa4 (one r1I) (wa4 x y)
noncomputable def wa6 (x:Pln) (y:V3):Bool:=okO (one r1I) (wa4 x y)
noncomputable def Cb5:Sum:=pa0 (ja0 tP) (ja0 tV) (fun x y=>.guard (wa6 x y) (.ret ((one r1I).enc (wa5 x y),[])))
theorem cc3:i7 prog G 16 Cb5:=Eb4 (bd b16 Xb5) (one r1I) (o:=wa4) fun x y=>D2 (by kernel_rfl)
noncomputable def Ga0:List (Nat×Sum):=[(5,lb5),(15,Wb0),(16,Cb5),(17,Cb4),(18,lb6),(6,jb1),(7,ub8),(19,Ga9),(20,sa7),(14,ub7),(12,ab9)]
theorem lb7:m9 prog G Ga0:=⟨Mb5,yc1,cc3,bc9,Cb3,zb4,Jb6,Sa3,va4,Jb5,rb2,trivial⟩
structure B7 where
 M4:List (List Int)
 bs5:Bool
 n7:Int
 g7:Int
 n8:Int
structure o0 where
 ph:Nat
 is8:Int
 ns7:Nat
 eh1:List (List a7)
noncomputable def bb5 (p:B7) (s:o0):St:=⟨((eL (tLs tI) p.M4)::(ra 4 ((b p.bs5)::((.ptr 0 0 0 0)::((.v (.slice none 0 0))::((i s.is8)::(ra 87 []))))))),[⟨0,3,[[(i p.n7),(i p.g7),(i p.n8)]],true,false,0⟩]⟩
noncomputable def bb6 (p:B7) (s:o0):St:=⟨((eL (tLs tI) p.M4)::(ra 4 ((b p.bs5)::((.ptr 0 0 0 0)::((.sl 1 0 s.ns7 0)::((i s.is8)::(ra 87 []))))))),[⟨0,3,[[(i p.n7),(i p.g7),(i p.n8)]],true,false,0⟩,⟨42,4,s.eh1,true,false,0⟩]⟩
noncomputable def db7 (p:B7) (s:o0):St:=(sel (Nat.beq s.ph 1) (bb6 p s) (bb5 p s))
noncomputable def D0 {α:Type} (k:o0→α) (e:Nat→α) (z:α) (p:B7) (s:o0):α:=let t1:=(X9 (rt tI (gL (tLs tI) p.M4 s.is8.toNat)));let t2:=(wa5 t1 (⟨p.n7,p.g7,p.n8⟩:V3));let t3:=(wa3 t1);(sl (decide (s.is8 < (↑(List.length p.M4):Int))) (sl (decide (s.is8 < 6)) (sl (inB s.is8 (List.length p.M4)) (sl (okE tI (gL (tLs tI) p.M4 s.is8.toNat)) (sl (ab3 (rt tI (gL (tLs tI) p.M4 s.is8.toNat))) (sl (wa6 t1 (⟨p.n7,p.g7,p.n8⟩:V3)) (sl (t2==1) (k ⟨1,(W (s.is8+1)),1,[[(i t3.n.x),(i t3.n.y),(i t3.n.z),(i t3.b)]]⟩) (sl (t2==0) (k ⟨1,(W (s.is8+1)),1,[[(i t1.n.x),(i t1.n.y),(i t1.n.z),(i (W (t1.b+1)))]]⟩) (k ⟨1,(W (s.is8+1)),1,[[(i t1.n.x),(i t1.n.y),(i t1.n.z),(i t1.b)]]⟩))) z) z) z) z) (e 1)) (e 2))
noncomputable def D1 {α:Type} (k:o0→α) (e:Nat→α) (z:α) (p:B7) (s:o0):α:=let t1:=(X9 (rt tI (gL (tLs tI) p.M4 s.is8.toNat)));let t2:=(wa5 t1 (⟨p.n7,p.g7,p.n8⟩:V3));let t3:=(wa3 t1);(sl (decide (s.is8 < (↑(List.length p.M4):Int))) (sl (decide (s.is8 < 6)) (sl (inB s.is8 (List.length p.M4)) (sl (okE tI (gL (tLs tI) p.M4 s.is8.toNat)) (sl (ab3 (rt tI (gL (tLs tI) p.M4 s.is8.toNat))) (sl (wa6 t1 (⟨p.n7,p.g7,p.n8⟩:V3)) (sl (t2==1) (sl (Nat.beq s.ns7 (len s.eh1)&&Nat.ble ((s.ns7+1)*32) room) (k ⟨1,(W (s.is8+1)),(s.ns7+1),(app s.eh1 [[(i t3.n.x),(i t3.n.y),(i t3.n.z),(i t3.b)]])⟩) z) (sl (t2==0) (sl (Nat.beq s.ns7 (len s.eh1)&&Nat.ble ((s.ns7+1)*32) room) (k ⟨1,(W (s.is8+1)),(s.ns7+1),(app s.eh1 [[(i t1.n.x),(i t1.n.y),(i t1.n.z),(i (W (t1.b+1)))]])⟩) z) (sl (Nat.beq s.ns7 (len s.eh1)&&Nat.ble ((s.ns7+1)*32) room) (k ⟨1,(W (s.is8+1)),(s.ns7+1),(app s.eh1 [[(i t1.n.x),(i t1.n.y),(i t1.n.z),(i t1.b)]])⟩) z))) z) z) z) z) (e 3)) (e 4))
noncomputable def r4 (p:B7) (s:o0):Stp o0:=(sel (Nat.beq s.ph 1) (D1 .next .exit .fail p s) (D0 .next .exit .fail p s))
noncomputable def ma2:Lo B7 o0:=⟨En Ga0,0,pf4,[1,1,1,1,0,1,4,4],[0,5,6,7,8],.p,[⟨((.s (.c 1 (nL (tLs tI))))::(ru2 4 ((.s (.o .bool))::((.s (.o (.ptr 0 0 0 0)))::((.s (.o .nil))::((.s (.o (.int .i64)))::(ru2 87 []))))))),[⟨0,3,true,(some [[(.o (.int .i64)),(.o (.int .i64)),(.o (.int .i64))]])⟩],fun a H=>(⟨(rL (tLs tI) (slT a 0)),(toB (slT a 5)),(toI (slT (rwT (elT H 0) 0) 0)),(toI (slT (rwT (elT H 0) 0) 1)),(toI (slT (rwT (elT H 0) 0) 2))⟩,⟨0,(toI (slT a 8)),0,[]⟩)⟩,⟨((.s (.c 1 (nL (tLs tI))))::(ru2 4 ((.s (.o .bool))::((.s (.o (.ptr 0 0 0 0)))::((.s (.o (.sl 1 0 (some 0) none)))::((.s (.o (.int .i64)))::(ru2 87 []))))))),[⟨0,3,true,(some [[(.o (.int .i64)),(.o (.int .i64)),(.o (.int .i64))]])⟩,⟨42,4,true,none⟩],fun a H=>(⟨(rL (tLs tI) (slT a 0)),(toB (slT a 5)),(toI (slT (rwT (elT H 0) 0) 0)),(toI (slT (rwT (elT H 0) 0) 1)),(toI (slT (rwT (elT H 0) 0) 2))⟩,⟨1,(toI (slT a 8)),(slN (slT a 7)),(elT H 1)⟩)⟩],r4,[(some 0,fun p s=>⟨((eL (tLs tI) p.M4)::(ra 4 ((b p.bs5)::((.ptr 0 0 0 0)::((.v (.slice none 0 0))::((i s.is8)::(ra 20 ((i s.is8)::((eL (tLs tI) p.M4)::((i (↑(List.length p.M4):Int))::((b (decide (s.is8 < (↑(List.length p.M4):Int))))::((b true)::((i s.is8)::((b (decide (s.is8 < 6)))::((b (decide (s.is8 < 6)))::(ra 59 [])))))))))))))))),[⟨0,3,[[(i p.n7),(i p.g7),(i p.n8)]],true,false,0⟩]⟩),(some 0,fun p s=>⟨((eL (tLs tI) p.M4)::(ra 4 ((b p.bs5)::((.ptr 0 0 0 0)::((.v (.slice none 0 0))::((i s.is8)::(ra 20 ((i s.is8)::((eL (tLs tI) p.M4)::((i (↑(List.length p.M4):Int))::((b (decide (s.is8 < (↑(List.length p.M4):Int))))::((b false)::(u::(u::((b false)::(ra 59 [])))))))))))))))),[⟨0,3,[[(i p.n7),(i p.g7),(i p.n8)]],true,false,0⟩]⟩),(some 0,fun p s=>⟨((eL (tLs tI) p.M4)::(ra 4 ((b p.bs5)::((.ptr 0 0 0 0)::((.sl 1 0 s.ns7 0)::((i s.is8)::(ra 20 ((i s.is8)::((eL (tLs tI) p.M4)::((i (↑(List.length p.M4):Int))::((b (decide (s.is8 < (↑(List.length p.M4):Int))))::((b true)::((i s.is8)::((b (decide (s.is8 < 6)))::((b (decide (s.is8 < 6)))::(ra 59 [])))))))))))))))),[⟨0,3,[[(i p.n7),(i p.g7),(i p.n8)]],true,false,0⟩,⟨42,4,s.eh1,true,false,0⟩]⟩),(some 0,fun p s=>⟨((eL (tLs tI) p.M4)::(ra 4 ((b p.bs5)::((.ptr 0 0 0 0)::((.sl 1 0 s.ns7 0)::((i s.is8)::(ra 20 ((i s.is8)::((eL (tLs tI) p.M4)::((i (↑(List.length p.M4):Int))::((b (decide (s.is8 < (↑(List.length p.M4):Int))))::((b false)::(u::(u::((b false)::(ra 59 [])))))))))))))))),[⟨0,3,[[(i p.n7),(i p.g7),(i p.n8)]],true,false,0⟩,⟨42,4,s.eh1,true,false,0⟩]⟩)],db7⟩
theorem db8:ma2.Ok:=Lo.ok [] (by kernel_rfl) .nil rfl (.cons (fun a H=>by kernel_rfl) (.cons (fun a H=>by kernel_rfl) .nil)) fun p s=>(.sel (Nat.beq s.ph 1) (.of @D1 (fun F _ _ _ _ _=>by unfold D1;(repeat' apply A4 (f:=F))<;>rfl) (by kernel_rfl)) (.of @D0 (fun F _ _ _ _ _=>by unfold D0;(repeat' apply A4 (f:=F))<;>rfl) (by kernel_rfl)))
noncomputable def Y4 (x:List (List Int)) (y:B3):Option (a7×List a8):=let t1:=wa1;let t6:=(fa7 []);let t7:=(W4 []);let a1:=(W ((W (Int.tmod y.b0 47)) - 23));let a2:=(W ((W (Int.tmod y.b1 47)) - 23));let a3:=(W ((W (Int.tmod y.b2 47)) - 23));let t2:=(lp (r4 (⟨(rt (tLs tI) x),t1,a1,a2,a3⟩:B7)) (⟨0,0,0,[]⟩:o0));let t3:=(ma1 (⟨a1,a2,a3⟩:V3) (⟨1,1,1⟩:V3));let t4:=(M0 (⟨a1,a2,a3⟩:V3) (⟨1,1,1⟩:V3));let t5:=(ga2 t3 t4);let t8:=(sa3 [] (⟨a1,a2,a3⟩:V3));let t9:=(V6 [] [(⟨(⟨1,0,0⟩:V3),t5.d8⟩:Pln),(⟨(⟨(-1),0,0⟩:V3),t5.r5⟩:Pln),(⟨(⟨0,1,0⟩:V3),t5.r6⟩:Pln),(⟨(⟨0,(-1),0⟩:V3),t5.r7⟩:Pln),(⟨(⟨0,0,1⟩:V3),t5.r8⟩:Pln),(⟨(⟨0,0,(-1)⟩:V3),t5.r9⟩:Pln)]);let t10:=(V6 [(⟨(⟨1,0,0⟩:V3),t5.d8⟩:Pln),(⟨(⟨(-1),0,0⟩:V3),t5.r5⟩:Pln),(⟨(⟨0,1,0⟩:V3),t5.r6⟩:Pln),(⟨(⟨0,(-1),0⟩:V3),t5.r7⟩:Pln),(⟨(⟨0,0,1⟩:V3),t5.r8⟩:Pln),(⟨(⟨0,0,(-1)⟩:V3),t5.r9⟩:Pln)] []);let a0:=(slR tP t2.2.eh1 0 t2.2.ns7);let t11:=(fa7 a0);let t12:=(W4 a0);let t13:=(sa3 a0 (⟨a1,a2,a3⟩:V3));let t14:=(V6 a0 [(⟨(⟨1,0,0⟩:V3),t5.d8⟩:Pln),(⟨(⟨(-1),0,0⟩:V3),t5.r5⟩:Pln),(⟨(⟨0,1,0⟩:V3),t5.r6⟩:Pln),(⟨(⟨0,(-1),0⟩:V3),t5.r7⟩:Pln),(⟨(⟨0,0,1⟩:V3),t5.r8⟩:Pln),(⟨(⟨0,0,(-1)⟩:V3),t5.r9⟩:Pln)]);let t15:=(V6 [(⟨(⟨1,0,0⟩:V3),t5.d8⟩:Pln),(⟨(⟨(-1),0,0⟩:V3),t5.r5⟩:Pln),(⟨(⟨0,1,0⟩:V3),t5.r6⟩:Pln),(⟨(⟨0,(-1),0⟩:V3),t5.r7⟩:Pln),(⟨(⟨0,0,1⟩:V3),t5.r8⟩:Pln),(⟨(⟨0,0,(-1)⟩:V3),t5.r9⟩:Pln)] a0);let a4:=(okS tP t2.2.eh1 0 t2.2.ns7);(sl wa2 (sl ((cnE (tLs tI) x)&&true) (sl (Nat.beq t2.1 1) (sl t1 (sl (T7 []) (sl (t6==0) (sl (M1 []) (sl t7 (sl (ga1 [] (⟨a1,a2,a3⟩:V3)) (sl t8 (sl (H5 [] [(⟨(⟨1,0,0⟩:V3),t5.d8⟩:Pln),(⟨(⟨(-1),0,0⟩:V3),t5.r5⟩:Pln),(⟨(⟨0,1,0⟩:V3),t5.r6⟩:Pln),(⟨(⟨0,(-1),0⟩:V3),t5.r7⟩:Pln),(⟨(⟨0,0,1⟩:V3),t5.r8⟩:Pln),(⟨(⟨0,0,(-1)⟩:V3),t5.r9⟩:Pln)]) (sl (!t9) (sl (H5 [(⟨(⟨1,0,0⟩:V3),t5.d8⟩:Pln),(⟨(⟨(-1),0,0⟩:V3),t5.r5⟩:Pln),(⟨(⟨0,1,0⟩:V3),t5.r6⟩:Pln),(⟨(⟨0,(-1),0⟩:V3),t5.r7⟩:Pln),(⟨(⟨0,0,1⟩:V3),t5.r8⟩:Pln),(⟨(⟨0,0,(-1)⟩:V3),t5.r9⟩:Pln)] []) (some ((b (!t10)),[])) none) (some ((b false),[]))) none) (some ((b false),[]))) none) (some ((b false),[]))) none) (some ((b false),[]))) none) (some ((b false),[]))) (sl (Nat.beq t2.1 2) (sl t1 (sl (T7 []) (sl (t6==0) (sl (M1 []) (sl t7 (sl (ga1 [] (⟨a1,a2,a3⟩:V3)) (sl t8 (sl (H5 [] [(⟨(⟨1,0,0⟩:V3),t5.d8⟩:Pln),(⟨(⟨(-1),0,0⟩:V3),t5.r5⟩:Pln),(⟨(⟨0,1,0⟩:V3),t5.r6⟩:Pln),(⟨(⟨0,(-1),0⟩:V3),t5.r7⟩:Pln),(⟨(⟨0,0,1⟩:V3),t5.r8⟩:Pln),(⟨(⟨0,0,(-1)⟩:V3),t5.r9⟩:Pln)]) (sl (!t9) (sl (H5 [(⟨(⟨1,0,0⟩:V3),t5.d8⟩:Pln),(⟨(⟨(-1),0,0⟩:V3),t5.r5⟩:Pln),(⟨(⟨0,1,0⟩:V3),t5.r6⟩:Pln),(⟨(⟨0,(-1),0⟩:V3),t5.r7⟩:Pln),(⟨(⟨0,0,1⟩:V3),t5.r8⟩:Pln),(⟨(⟨0,0,(-1)⟩:V3),t5.r9⟩:Pln)] []) (some ((b (!t10)),[])) none) (some ((b false),[]))) none) (some ((b false),[]))) none) (some ((b false),[]))) none) (some ((b false),[]))) none) (some ((b false),[]))) (sl (Nat.beq t2.1 3) (sl t1 (sl a4 (sl (T7 a0) (sl (t11==0) (sl a4 (sl (M1 a0) (sl t12 (sl a4 (sl (ga1 a0 (⟨a1,a2,a3⟩:V3)) (sl t13 (sl a4 (sl (H5 a0 [(⟨(⟨1,0,0⟩:V3),t5.d8⟩:Pln),(⟨(⟨(-1),0,0⟩:V3),t5.r5⟩:Pln),(⟨(⟨0,1,0⟩:V3),t5.r6⟩:Pln),(⟨(⟨0,(-1),0⟩:V3),t5.r7⟩:Pln),(⟨(⟨0,0,1⟩:V3),t5.r8⟩:Pln),(⟨(⟨0,0,(-1)⟩:V3),t5.r9⟩:Pln)]) (sl (!t14) (sl a4 (sl (H5 [(⟨(⟨1,0,0⟩:V3),t5.d8⟩:Pln),(⟨(⟨(-1),0,0⟩:V3),t5.r5⟩:Pln),(⟨(⟨0,1,0⟩:V3),t5.r6⟩:Pln),(⟨(⟨0,(-1),0⟩:V3),t5.r7⟩:Pln),(⟨(⟨0,0,1⟩:V3),t5.r8⟩:Pln),(⟨(⟨0,0,(-1)⟩:V3),t5.r9⟩:Pln)] a0) (some ((b (!t15)),[])) none) none) (some ((b false),[]))) none) none) (some ((b false),[]))) none) none) (some ((b false),[]))) none) none) (some ((b false),[]))) none) none) (some ((b false),[]))) (sl (Nat.beq t2.1 4) (sl t1 (sl a4 (sl (T7 a0) (sl (t11==0) (sl a4 (sl (M1 a0) (sl t12 (sl a4 (sl (ga1 a0 (⟨a1,a2,a3⟩:V3)) (sl t13 (sl a4 (sl (H5 a0 [(⟨(⟨1,0,0⟩:V3),t5.d8⟩:Pln),(⟨(⟨(-1),0,0⟩:V3),t5.r5⟩:Pln),(⟨(⟨0,1,0⟩:V3),t5.r6⟩:Pln),(⟨(⟨0,(-1),0⟩:V3),t5.r7⟩:Pln),(⟨(⟨0,0,1⟩:V3),t5.r8⟩:Pln),(⟨(⟨0,0,(-1)⟩:V3),t5.r9⟩:Pln)]) (sl (!t14) (sl a4 (sl (H5 [(⟨(⟨1,0,0⟩:V3),t5.d8⟩:Pln),(⟨(⟨(-1),0,0⟩:V3),t5.r5⟩:Pln),(⟨(⟨0,1,0⟩:V3),t5.r6⟩:Pln),(⟨(⟨0,(-1),0⟩:V3),t5.r7⟩:Pln),(⟨(⟨0,0,1⟩:V3),t5.r8⟩:Pln),(⟨(⟨0,0,(-1)⟩:V3),t5.r9⟩:Pln)] a0) (some ((b (!t15)),[])) none) none) (some ((b false),[]))) none) none) (some ((b false),[]))) none) none) (some ((b false),[]))) none) none) (some ((b false),[]))) none) none) (some ((b false),[]))) none)))) none) none)
noncomputable def ga3 (x:List (List Int)) (y:B3):Bool:=fa4 (one r1B) (Y4 x y)
noncomputable def ga4 (x:List (List Int)) (y:B3):Bool:=okO (one r1B) (Y4 x y)
noncomputable def vb0:Sum:=pa0 (Aa8 (tLs tI)) (ja0 tW) (fun x y=>.guard (ga4 x y) (.ret ((one r1B).enc (ga3 x y),[])))
theorem pb6:i7 prog G 4 vb0:=Eb4 (bd b4 lb7) (one r1B) (o:=Y4) fun x y=>db0 (.s .p (.s .p (.s .p (.s .p (.s (.s .p (.b (.u ma2.ls))) .p))))) [ma2.pr] (by kernel_rfl) (.cons db8 .nil) (by kernel_rfl)
end Go.Ev.Ce
end
namespace Go.Ev.Ce
open Go Go.Ev Go.Ev.L Go.Proofs
theorem nd5 {p:Pln} (h:Bd p):wa3 p=Hb6 p:=by
 unfold wa3 ma1 Hb6
 simp only
 have:=h.x1;have:=h.x2;have:=h.y1;have:=h.y2;have:=h.z1;have:=h.z2;have:=h.b1;have:=h.b2
 rw[da1 (by omega) (by omega),da1 (by omega) (by omega),da1 (by omega) (by omega),da1 (by omega) (by omega)]
 simp only[Int.zero_sub]
theorem Ac5 (p:Pln) (v:V3):wa4 p v=some (i (Wa4 p v),[]):=by
 unfold wa4 Wa4
 simp only[Lc0,Lc1,(oc4 v).1,(oc4 v).2,Mc2,Mc3,L2]
 cases hp:okp p with
 | false=>rfl
 | true =>
  cases hv:inV v with
  | false=>rfl
  | true =>
   have hb:=ub1 hp
   have hd:=dd9 hb hv
   have e:aa5 p.n v=dot p.n v:=by
    unfold aa5
    simp only[hb8,Sb5]
    exact Va6 (hd.mono (by omega))
   rw[e]
   simp only[Bool.not_true,Vc8,Bool.and_self,if_true,ub9]
   by_cases h1:dot p.n v < p.b
   ·rw[if_pos h1,if_pos (by omega)]
   ·rw[if_neg h1]
    by_cases h2:dot p.n v > p.b
    ·rw[if_pos h2,if_neg (by omega),if_pos (by omega)]
    ·rw[if_neg h2,if_neg (by omega),if_neg (by omega)]
theorem Nc5 (p:Pln) (v:V3):wa5 p v=Wa4 p v:=by unfold wa5;rw[Ac5];rfl
theorem Nc6 (p:Pln) (v:V3):wa6 p v=true:=by unfold wa6;rw[Ac5];rfl
def Neg (v:V3) (q:Pln):Prop:=okp q=true∧dot q.n v < q.b
structure vb1 (v:V3):Prop where
 x:Sm 23 v.x
 y:Sm 23 v.y
 z:Sm 23 v.z
theorem vb1.inV {v:V3} (h:vb1 v):inV v=true:=(ob5 v).2 ⟨h.x.mono (by omega),h.y.mono (by omega),h.z.mono (by omega)⟩
theorem ed5 {v:V3} {p:Pln} (hv:vb1 v) (hp:okp p=true) (hs:Wa4 p v=1):Neg v (Hb6 p):=by
 refine⟨ed0 hp,?_⟩
 have:=(Ac2 hp hv.inV).1 (by omega)
 unfold Hb6 dot at *
 simp only at *
 rw[Int.neg_mul,Int.neg_mul,Int.neg_mul]
 omega
theorem ed6 {v:V3} {p:Pln} (hv:vb1 v) (hp:okp p=true) (hs:Wa4 p v=0):W (p.b+1)=p.b+1∧Neg v ⟨p.n,p.b+1⟩:=by
 have h:=(hc9 hp hv.inV).1 hs
 have hb:=ub1 hp
 have hd:=dd9 hb hv.inV
 have h1:=hd.1;have h2:=hd.2
 refine⟨da1 (by omega) (by omega),?_,by show dot p.n v < p.b+1;omega⟩
 unfold okp at hp ⊢
 simp only[List.all_cons,List.all_nil,Bool.and_true,Bool.and_eq_true,za9] at hp ⊢
 refine⟨hp.1,hp.2.1,?_⟩
 constructor<;>omega
theorem ed7 {v:V3} {p:Pln} (hv:vb1 v) (hp:okp p=true) (h1:Wa4 p v≠1) (h0:Wa4 p v≠0):Neg v p:=by
 refine⟨hp,?_⟩
 have h2:Wa4 p v=1∨Wa4 p v=0∨Wa4 p v=-1:=by
  unfold Wa4
  split
  ·split
   ·exact .inr (.inr rfl)
   ·split
    ·exact .inl rfl
    ·exact .inr (.inl rfl)
  ·exact .inr (.inl rfl)
 have hz:=hc9 hp hv.inV
 have hp':=Ac2 hp hv.inV
 have n1:¬ dot p.n v > p.b:=fun h=>by have:=hp'.2 h;omega
 have n2:¬ dot p.n v=p.b:=fun h=>h0 (hz.2 h)
 omega
@[reducible] noncomputable def mkI (j:Nat) (c:List Pln):o0:=⟨phP c,(j:Int),c.length,bL tP c⟩
structure Cel (v:V3) (c:List Pln):Prop where
 l:c.length≤6
 n:∀ q∈c,Neg v q
theorem Cel.add {v:V3} {c:List Pln} {q:Pln} (h:Cel v c) (hl:c.length < 6) (hq:Neg v q):Cel v (c++[q]):=by
 refine⟨by rw[List.length_append,List.length_singleton];omega,fun x hx=>?_⟩
 rcases List.mem_append.1 hx with hx | hx
 ·exact h.n x hx
 ·rw[List.mem_singleton.1 hx];exact hq
theorem nd6 (j:Nat) (c:List Pln) (q:Pln):mkI j (c++[q])=⟨1,(j:Int),c.length+1,bL tP (c++[q])⟩:=by
 unfold mkI
 rw[List.length_append,List.length_singleton]
 cases c<;>rfl
theorem Dd4 (x : List (List Int)) (b0 : Bool) (v : V3) (j : Nat) (c : List Pln) (hj : j < x.length) (h6 : j < 6) (hl : c.length = j) :
  r4 ⟨x,b0,v.x,v.y,v.z⟩ (mkI j c)=sl (Wa4 (X9 (gL (tLs tI) x j)) v==1) (.next (mkI (j+1) (c++[Hb6 (X9 (gL (tLs tI) x j))])))
   (sl (Wa4 (X9 (gL (tLs tI) x j)) v==0) (.next (mkI (j+1) (c++[⟨(X9 (gL (tLs tI) x j)).n,W ((X9 (gL (tLs tI) x j)).b+1)⟩]))) (.next (mkI (j+1) (c++[X9 (gL (tLs tI) x j)])))):=by
 have hp:=Nc2 (gL (tLs tI) x j)
 have hg:=md0 (gL (tLs tI) x j)
 have hW:=M3 h6 (by omega)
 have hi:inB (j:Int) x.length=true:=q8 hj
 have h6':(j:Int) < 6:=by omega
 have hfl:=nd5 (ub1 hp)
 unfold r4
 cases c with
 | nil =>
  show D0 Stp.next Stp.exit Stp.fail _ (mkI j [])=_
  simp only[D0,mkI,Int.toNat_natCast,E5,fa6,hg,Nc5,Nc6,hW,hfl]
  rw[btD (J7 hj),btD h6',bt hi,L2,L2,L2]
  rfl
 | cons q0 c0 =>
  have hr:(Nat.beq (q0::c0).length (len (bL tP (q0::c0)))&&Nat.ble (((q0::c0).length+1)*32) room)=true:=by
   rw[ua0,Nat.beq_refl,yb4 (by rw[hl];omega)];rfl
  show D1 Stp.next Stp.exit Stp.fail _ (mkI j (q0::c0))=_
  simp only[D1,nd6]
  simp only[mkI,Int.toNat_natCast,E5,fa6,hg,Nc5,Nc6,hW,hfl,hr,cd0]
  rw[btD (J7 hj),btD h6',bt hi,L2,L2,L2,L2,L2,L2]
theorem xd6 (x : List (List Int)) (b0 : Bool) (v : V3) (hv : vb1 v) (j : Nat) (c : List Pln) (hj : j < x.length) (h6 : j < 6) (hl : c.length = j) :
  ∃ q,Neg v q∧r4 ⟨x,b0,v.x,v.y,v.z⟩ (mkI j c)=.next (mkI (j+1) (c++[q])):=by
 rw[Dd4 x b0 v j c hj h6 hl]
 have hp:=Nc2 (gL (tLs tI) x j)
 generalize X9 (gL (tLs tI) x j)=p at *
 by_cases h1:Wa4 p v=1
 ·exact⟨Hb6 p,ed5 hv hp h1,bt (by rw[h1];rfl) _ _⟩
 ·rw[bf (by simpa using h1)]
  by_cases h0:Wa4 p v=0
  ·obtain⟨k1,k2⟩:=ed6 hv hp h0
   refine⟨_,k2,?_⟩
   rw[bt (by rw[h0];rfl),k1]
  ·exact⟨p,ed7 hv hp h1 h0,bf (by simpa using h0) _ _⟩
theorem Dd5 (x : List (List Int)) (b0 : Bool) (v : V3) (j : Nat) (c : List Pln) (h : ¬ (j < x.length ∧ j < 6)) :
  ∃ t,r4 ⟨x,b0,v.x,v.y,v.z⟩ (mkI j c)=.exit t∧((c=[]∧(t=1∨t=2))∨(t=3∨t=4)):=by
 unfold r4
 cases c with
 | nil =>
  show ∃ t,D0 Stp.next Stp.exit Stp.fail _ (mkI j [])=_∧_
  simp only[D0,mkI]
  by_cases h1:j < x.length
  ·rw[btD (J7 h1),bfD (by omega)]
   exact⟨1,rfl,.inl ⟨trivial,.inl rfl⟩⟩
  ·rw[bfD (la5 h1)]
   exact⟨2,rfl,.inl ⟨trivial,.inr rfl⟩⟩
 | cons q0 c0 =>
  show ∃ t,D1 Stp.next Stp.exit Stp.fail _ (mkI j (q0::c0))=_∧_
  simp only[D1,mkI]
  by_cases h1:j < x.length
  ·rw[btD (J7 h1),bfD (by omega)]
   exact⟨3,rfl,.inr (.inl rfl)⟩
  ·rw[bfD (la5 h1)]
   exact⟨4,rfl,.inr (.inr rfl)⟩
theorem xd7 (x : List (List Int)) (b0 : Bool) (v : V3) (hv : vb1 v) :
  ∃ c t j,Cel v c∧lp (r4 ⟨x,b0,v.x,v.y,v.z⟩) ⟨0,0,0,[]⟩=(t,mkI j c)∧((c=[]∧(t=1∨t=2))∨(t=3∨t=4)):=by
 have key:=hb9 (step:=r4 ⟨x,b0,v.x,v.y,v.z⟩) (I:=fun m s=>∃ j c,m+j=6∧c.length=j∧Cel v c∧s=mkI j c)
  (Q:=fun t s=>∃ c j,Cel v c∧s=mkI j c∧((c=[]∧(t=1∨t=2))∨(t=3∨t=4))) (fun m s ⟨j,c,hm,hl,hc,hs⟩=>by
   subst hs
   by_cases h:j < x.length∧j < 6
   ·obtain⟨q,hq,e⟩:=xd6 x b0 v hv j c h.1 h.2 hl
    exact .inr ⟨_,m - 1,by omega,e,j+1,c++[q],by omega,by rw[List.length_append,List.length_singleton,hl],hc.add (by omega) hq,rfl⟩
   ·obtain⟨t,e,ht⟩:=Dd5 x b0 v j c h
    exact .inl ⟨t,e,c,j,hc,rfl,ht⟩) 6 (mkI 0 []) (by omega) ⟨0,[],rfl,rfl,⟨by simp,fun q hq=>by simp at hq⟩,rfl⟩
 obtain⟨c,j,hc,hs,ht⟩:=key
 exact⟨c,_,j,hc,Prod.ext rfl hs,ht⟩
def Ins (v:V3) (l:List Pln):Prop:=∀ q∈l,0 < rmZ q (Tc5 v)
theorem Ins.app {v:V3} {l r:List Pln} (h:Ins v l) (h':Ins v r):Ins v (l++r):=fun q hq=>(List.mem_append.1 hq).elim (h q) (h' q)
theorem Ins.ball {v:V3} {l:List Pln} (h:Ins v l):md8 l:=⟨Tc5 v,Int.one_pos,h⟩
theorem ed8 {v:V3} (hv:vb1 v):Ins v ws:=by
 obtain⟨⟨a1,a2⟩,⟨a3,a4⟩,a5,a6⟩:=hv
 intro p hp
 simp only[ws,List.mem_cons,List.not_mem_nil,or_false] at hp
 rcases hp with rfl | rfl | rfl | rfl | rfl | rfl<;>simp only[rmZ,Tc5]<;>omega
theorem Cel.ins {v:V3} {c:List Pln} (h:Cel v c):Ins v c:=fun q hq=>by
 rw[nd0]
 have:=(h.n q hq).2
 omega
theorem Cel.chk {v:V3} {c:List Pln} (h:Cel v c):(chk c==0)=true:=by
 rw[beq_iff_eq,kb1]
 exact⟨by have:=h.l;omega,fun q hq=>(h.n q hq).1⟩
noncomputable def Hc9 (v:V3):List Pln:=ld3 (ma1 v ⟨1,1,1⟩) (M0 v ⟨1,1,1⟩)
theorem pc4 {v:V3} (hv:vb1 v):Hc9 v=[⟨⟨1,0,0⟩,v.x+1⟩,⟨⟨-1,0,0⟩,1 - v.x⟩,⟨⟨0,1,0⟩,v.y+1⟩,⟨⟨0,-1,0⟩,1 - v.y⟩,⟨⟨0,0,1⟩,v.z+1⟩,⟨⟨0,0,-1⟩,1 - v.z⟩]:=by
 obtain⟨⟨a1,a2⟩,⟨a3,a4⟩,a5,a6⟩:=hv
 have w1:∀ {x:Int},-23≤x→x≤23→W (x+1)=x+1:=fun h h'=>da1 (by omega) (by omega)
 have w2:∀ {x:Int},-23≤x→x≤23→W (0 - W (x - 1))=1 - x:=fun {x} h h'=>by rw[da1 (n:=x - 1) (by omega) (by omega),da1 (by omega) (by omega)];omega
 unfold Hc9 ld3 ma1 M0
 simp only[w1 a1 a2,w1 a3 a4,w1 a5 a6,w2 a1 a2,w2 a3 a4,w2 a5 a6]
theorem ed9 {v:V3} (hv:vb1 v):Ins v (Hc9 v):=by
 rw[pc4 hv]
 intro p hp
 simp only[List.mem_cons,List.not_mem_nil,or_false] at hp
 rcases hp with rfl | rfl | rfl | rfl | rfl | rfl<;>simp only[rmZ,Tc5]<;>omega
theorem fd0 {v:V3} (hv:vb1 v):(chk (Hc9 v)==0)=true:=by
 rw[beq_iff_eq,kb1,pc4 hv]
 refine⟨by simp,fun p hp=>?_⟩
 obtain⟨⟨a1,a2⟩,⟨a3,a4⟩,a5,a6⟩:=hv
 simp only[List.mem_cons,List.not_mem_nil,or_false] at hp
 unfold okp
 simp only[List.all_cons,List.all_nil,Bool.and_true,Bool.and_eq_true,za9,beq_iff_eq,Sm]
 rcases hp with rfl | rfl | rfl | rfl | rfl | rfl<;>exact⟨by simp,by first | exact ic0.1 | exact ic0.2.1 | exact ic0.2.2.1 | exact ic0.2.2.2.1 | exact ic0.2.2.2.2.1 | exact ic0.2.2.2.2.2,by simp only;omega⟩
theorem nd7 {v:V3} {c:List Pln} (hv:vb1 v) (hk:(chk c==0)=true) (h:Ins v c):ful c=true:=by
 unfold ful
 rw[hk,(Hb7 (Qa5 hk).1 (Hc8 _) (by simp[ws])).2 (h.app (ed8 hv)).ball]
 rfl
theorem nd8 {v:V3} {c:List Pln} (hv:vb1 v) (hk:(chk c==0)=true) (h:Ins v c):has c v=true:=by
 unfold has
 rw[hk,hv.inV,Bool.true_and,Bool.true_and]
 exact (nd2 (fun p hp=>(Qa5 hk).1 p (List.mem_append_left _ hp)) (xd3 hv.inV)).2 fun p hp=>Int.le_of_lt (h p hp)
theorem ic1 {v:V3} {a c:List Pln} (hv:vb1 v) (ha:(chk a==0)=true) (hc:(chk c==0)=true) (h:Ins v a) (h':Ins v c):apart a c=false:=by
 unfold apart
 rw[ha,hc,(Hb7 (zc2 ha hc).1 (Hc8 _) (by simp[ws])).2 ((h.app h').app (ed8 hv)).ball]
 rfl
theorem Ic0 {y:Int} (h:0≤y):-23≤W (W (Int.tmod y 47) - 23)∧W (W (Int.tmod y 47) - 23)≤23:=by
 have h1:=Int.tmod_nonneg 47 h
 have h2:=Int.tmod_lt_of_pos y (show (0:Int) < 47 by omega)
 rw[da1 (n:=Int.tmod y 47) (by omega) (by omega),da1 (by omega) (by omega)]
 omega
theorem ic2 (x:List (List Int)) (y:B3) (h:0≤y.b0∧0≤y.b1∧0≤y.b2):Y4 x y=some (b true,[]):=by
 have hv:vb1 ⟨W (W (Int.tmod y.b0 47) - 23),W (W (Int.tmod y.b1 47) - 23),W (W (Int.tmod y.b2 47) - 23)⟩:=⟨Ic0 h.1,Ic0 h.2.1,Ic0 h.2.2⟩
 unfold Y4
 simp only[E5,fa6,G3,cd9,dd0]
 generalize W (W (Int.tmod y.b0 47) - 23)=a1 at *
 generalize W (W (Int.tmod y.b1 47) - 23)=a2 at *
 generalize W (W (Int.tmod y.b2 47) - 23)=a3 at *
 obtain⟨c,t,j,hc,hl,ht⟩:=xd7 x true ⟨a1,a2,a3⟩ hv
 simp only at hl
 rw[hl]
 have hbox:∀ lo hi:V3,[(⟨⟨1,0,0⟩,(ga2 lo hi).d8⟩:Pln),⟨⟨-1,0,0⟩,(ga2 lo hi).r5⟩,⟨⟨0,1,0⟩,(ga2 lo hi).r6⟩,⟨⟨0,-1,0⟩,(ga2 lo hi).r7⟩,⟨⟨0,0,1⟩,(ga2 lo hi).r8⟩,⟨⟨0,0,-1⟩,(ga2 lo hi).r9⟩]=ld3 lo hi:=fun _ _=>rfl
 simp only[hbox]
 have hcu:ld3 (ma1 ⟨a1,a2,a3⟩ ⟨1,1,1⟩) (M0 ⟨a1,a2,a3⟩ ⟨1,1,1⟩)=Hc9 ⟨a1,a2,a3⟩:=rfl
 simp only[hcu]
 have l6:(Hc9 ⟨a1,a2,a3⟩).length=6:=by rw[pc4 hv];rfl
 have kI:=ed9 hv
 have kC:=fd0 hv
 generalize Hc9 ⟨a1,a2,a3⟩=K at *
 have hl6:=hc.l
 have lc:c.length≤1000000000:=by omega
 have lc':c.length≤100000000:=by omega
 have lk:K.length≤100000000:=by omega
 have e1:chk c=0:=by simpa using hc.chk
 have e2:=nd7 hv hc.chk hc.ins
 have e3:=nd8 hv hc.chk hc.ins
 have e4:=ic1 hv hc.chk kC hc.ins kI
 have e5:=ic1 hv kC hc.chk kI hc.ins
 have es:slR tP (mkI j c).eh1 0 (mkI j c).ns7=c:=Ec3 tP c
 have eo:okS tP (mkI j c).eh1 0 (mkI j c).ns7=true:=Ec4 tP c
 simp only[es,eo,Ab6 c lc,Ab7 c lc,kb5 lc,kb6 lc,Mc0 lc,Mc1 lc,bb2 lc' lk,bb3 lc' lk,bb2 lk lc',bb3 lk lc',e1,e2,e3,e4,e5]
 rcases ht with⟨rfl,rfl | rfl⟩ | rfl | rfl
 ·simp only[Ab6 _ lc,Ab7 _ lc,kb5 lc,kb6 lc,Mc0 lc,Mc1 lc,bb2 lc' lk,bb3 lc' lk,bb2 lk lc',bb3 lk lc',e1,e2,e3,e4,e5]
  rfl
 ·simp only[Ab6 _ lc,Ab7 _ lc,kb5 lc,kb6 lc,Mc0 lc,Mc1 lc,bb2 lc' lk,bb3 lc' lk,bb2 lk lc',bb3 lk lc',e1,e2,e3,e4,e5]
  rfl
 ·rfl
 ·rfl
theorem fd1 (x:List (List Int)) (y:B3) (h:0≤y.b0∧0≤y.b1∧0≤y.b2):ga3 x y=true:=by unfold ga3;rw[ic2 x y h];rfl
theorem fd2 (x:List (List Int)) (y:B3) (h:0≤y.b0∧0≤y.b1∧0≤y.b2):ga4 x y=true:=by unfold ga4;rw[ic2 x y h];rfl
end Go.Ev.Ce
namespace Go.Ev
open Go Go.ChangeShapes Go.RowKit
section
variable {D:Type} {enc:TypeId×Value→D} {P:Program} {w:World} {spare:Nat→Bool} {held:Bool}
theorem xd8 {t e u : TypeId} {k : IntKind} {d : Nat} (ht : P.underlying t = some (.slice e)) (he : P.underlying e = some (.slice u)) (hf : P3 P d u = some (ja1 k 1)) (hes : P.cellsOf u = 1) (hce : P.cellsOf e = 1) {fuel : Nat} {cs : List Value} {x : DataW D × List MemPlace} (hx : DataW.trod enc P w 0 spare held fuel t cs = some x) :
  ∃ (v:Value) (n:Nat) (m:Nat→Nat) (g:Nat→Nat→Int),cs=[v]∧O7 (Hb8 w) w (.tree 1 n fun j=>[.tree 1 (m j) fun q=>[.v (.int k (g j q))]]) v:=by
 rcases Ac4 ht hx with rfl | ⟨a,n,cap,fuel',rfl,hn,hc,hel⟩
 ·exact⟨_,0,fun _=>0,fun _ _=>0,rfl,.nil _ _⟩
 ·rw[hce] at hel
  have hcell:∀ j,j < n→∃ (m:Nat) (g:Nat→Int) (v:Value),w.cell? (a.add (j*1))=some v∧O7 (Hb8 w) w (.tree 1 m fun q=>[.v (.int k (g q))]) v:=fun j hj=>by
   obtain⟨row,y,h1,h2⟩:=hel j hj
   obtain⟨v',m,g,e1,_,e3⟩:=bc6 he hf hes (by omega) h2
   subst e1
   refine⟨m,fun q=>g q 0,v',?_,?_⟩
   ·unfold World.cells? at h1
    split at h1
    ·obtain⟨l1,l2⟩:=Wa5 h1
     obtain⟨i,hi,hi2⟩:=l2 0 v' rfl
     have:i=0:=by
      have:=List.getElem?_eq_some_iff.1 hi
      obtain⟨h3,h4⟩:=this
      simpa using h4.symm
     subst this
     have e:(a.add (j*1)).add 0=a.add (j*1):=by
      unfold Addr.add
      cases (a.spot)<;>simp
     rw[← e]
     exact hi2
    ·cases h1
   ·exact e3.get fun q _=>rfl
  have hg:∀ j,∃ p:Nat×(Nat→Int),j < n→∃ v:Value,w.cell? (a.add (j*1))=some v∧O7 (Hb8 w) w (.tree 1 p.1 fun q=>[.v (.int k (p.2 q))]) v:=fun j=>by
   by_cases hj:j < n
   ·obtain⟨m,g,v,h1,h2⟩:=hcell j hj
    exact⟨(m,g),fun _=>⟨v,h1,h2⟩⟩
   ·exact⟨(0,fun _=>0),fun h=>absurd h hj⟩
  obtain⟨p,hp⟩:=Classical.axiomOfChoice hg
  have hv:∀ j,∃ v:Value,j < n→w.cell? (a.add (j*1))=some v∧O7 (Hb8 w) w (.tree 1 (p j).1 fun q=>[.v (.int k ((p j).2 q))]) v:=fun j=>by
   by_cases hj:j < n
   ·obtain⟨v,h⟩:=hp j hj
    exact⟨v,fun _=>h⟩
   ·exact⟨.bool true,fun h=>absurd h hj⟩
  obtain⟨v,hv⟩:=Classical.axiomOfChoice hv
  have hspot:0 < n→a.spot=none:=fun hn=>by
   have:=(hv 0 hn).1
   simpa [Addr.add] using World.cell?_spot this
  have hw:∀ j c,j < n→c < 1→w.cell? ⟨a.block,a.off+(j*1+c),none⟩=some (v j):=fun j c hj hc=>by
   have:=(hv j hj).1
   rw[L1 (hspot (by omega))] at this
   have:c=0:=by omega
   subst this
   simpa using (hv j hj).1 |> fun h=>by rw[L1 (hspot (by omega))] at h;simpa using h
  refine⟨_,n,fun j=>(p j).1,fun j q=>(p j).2 q,rfl,.tree 1 n _ a cap (fun j _=>v j) hspot hn (fun i hi=>rfl) (fun i c hi hc=>?_) hw fun i c hi hc=>?_⟩
  ·unfold Hb8
   rw[hw i c hi hc]
   rfl
  ·have:c=0:=by simpa using hc
   subst this
   exact (hv i hi).2
theorem nd9 {ρ : Rho} {H : List a8} {t e u : TypeId} {k : IntKind} {d : Nat} {v : Value} {dd : DataW D} {pp : List MemPlace} {bs : Nat} {r : Reach} (ht : P.underlying t = some (.slice e)) (he : P.underlying e = some (.slice u)) (hf : P3 P d u = some (ja1 k 1)) (hes : P.cellsOf u = 1) (hce : P.cellsOf e = 1)
  (hok:Value.okWide P w r bs t v) (h:DataW.Trod enc P w 0 spare held t v dd pp):∃ (n:Nat) (m:Nat→Nat) (g:Nat→Nat→Int),S8 ρ H (Hb8 w) w (.tree 1 n fun j=>[.tree 1 (m j) fun q=>[.v (.int k (g j q))]]) v:=by
 obtain⟨fuel,hx⟩:=h
 obtain⟨v',n,m,g,h1,h3⟩:=xd8 ht he hf hes hce hx
 have hv:v.cells=#[v]:=by
  unfold Value.okWide at hok
  rw[ht] at hok
  cases v with
  | agg cs=>exfalso;simp[Cell.okWide,Cell.ok,ht] at hok
  | _=>rfl
 rw[hv] at h1
 have:v=v':=by simpa using h1
 subst this
 exact⟨n,m,g,.cell (.mem h3)⟩
end
end Go.Ev
namespace Go.Ev.Ce
open Go Go.Ev Go.Ev.L Go.ChangeShapes Go.RowKit
theorem od0 (n:Nat) (m:Nat→Nat) (g:Nat→Nat→Int):∃ l,Rdg (Aa8 (tLs tI)) (.tree 1 n fun j=>[.tree 1 (m j) fun q=>[.v (.int .i64 (g j q))]]) l:=by
 refine⟨lsL (tLs tI) n fun j=>[.tree 1 (m j) fun q=>[.v (.int .i64 (g j q))]],rfl,?_⟩
 show okL (tLs tI) n _=true
 unfold okL
 rw[List.all_eq_true]
 intro j _
 show Bool.and (Nat.beq 1 1) (okL tI (m j) fun q=>[.v (.int .i64 (g j q))])=true
 have h:okL tI (m j) (fun q=>[.v (.int .i64 (g j q))])=true:=tb0 tI (f:=fun q=>g j q) fun _ _=>rfl
 rw[h]
 rfl
theorem Tc9 (g:Nat→Int) (h:∀ c,c < 3→0≤g c∧g c≤255):∃ a,Rdg (ja0 tW) (.agg (Ma5 .u8 3 g)) a∧0≤a.b0∧0≤a.b1∧0≤a.b2 :=
 ⟨⟨g 0,g 1,g 2⟩,⟨rfl,rfl⟩,(h 0 (by omega)).1,(h 1 (by omega)).1,(h 2 (by omega)).1⟩
theorem od1 {D : Type} {enc : TypeId × Value → D} {P : Program} {w : World} {base : Nat} {spare : Nat → Bool} {held : Bool} {ρ : Rho} {H : List a8} {F : Fz} {t e : TypeId} {d : Nat} {v : Value} {dd : DataW D} {pp : List MemPlace} {bs : Nat} {r : Reach}
  (ht:P.underlying t=some (.array 3 e)) (he:P.underlying e=some (.int .u8)) (hts:P.cellTypes P.depth t=some [e,e,e]) (hf:P3 P d t=some (ja1 .u8 3)) (hes:P.cellsOf t=3)
  (hok:Value.okWide P w r bs t v) (h:DataW.Trod enc P w base spare held t v dd pp):∃ g:Nat→Int,(∀ c,c < 3→0≤g c∧g c≤255)∧S8 ρ H F w (.agg (Ma5 .u8 3 g)) v:=by
 obtain⟨g,hv⟩:=nd4 (ρ:=ρ) (H:=H) (F:=F) (by simp[agT,ht]) hf hes hok h
 refine⟨g,fun c hc=>?_,hv⟩
 obtain⟨vs,e0,hl,hr⟩:=ja7 (.val hv)
 subst e0
 have hlen:vs.size=3:=by rw[← hl];simp[Ma5]
 have hc':c < vs.size:=by omega
 have hg:(Ma5 .u8 3 g)[c]?=some (.v (.int .u8 (g c))):=by
  unfold Ma5
  rw[List.getElem?_map,List.getElem?_range hc]
  rfl
 have hx:=S9 (.val (.cell (hr c _ _ hg (Array.getElem?_eq_getElem hc'))))
 unfold Value.okWide at hok
 rw[ht] at hok
 obtain⟨cs,e1,hsz,ts,h1,h2,h3⟩:=hok
 injection e1 with e1
 subst e1
 rw[hts] at h1
 injection h1 with h1
 subst h1
 obtain⟨u,hu,hcell⟩:=h3 c _ (Array.getElem?_eq_getElem hc')
 rw[hx] at hcell
 have hue:u=e:=by
  have:c=0∨c=1∨c=2:=by omega
  rcases this with rfl | rfl | rfl<;>simpa using hu.symm
 subst hue
 simp only[Cell.okWide,Cell.ok,he] at hcell
 have:=hcell.2
 simp only[IntKind.has,IntKind.min,IntKind.max,IntKind.bits,IntKind.signed] at this
 simp at this
 omega
end Go.Ev.Ce
