/- Own work: a part of the proof. -/
import Derived.Test.YtlccibobknidjaaGreatEvE5
import Derived.Test.YtlccibobknidjaaGreatEvGe1
import Derived.Test.YtlccibobknidjaaGreatEvSp3
import Derived.ChangeStays
import Derived.ChangeSame
import Derived.OpenShut
import Derived.RowKit
set_option linter.unusedVariables false
set_option linter.unusedSimpArgs false
set_option linter.unnecessarySimpa false
set_option linter.unusedSectionVars false
namespace Go.Ev.Ce
open Go Go.Ev Go.Ev.L Go.Proofs
theorem bd0 {p:Pln} {x:Pt} (hp:Bd p) (hx:Okx x):rm p x=rmZ p x:=by
 unfold rm rmZ
 obtain⟨w1,w2,⟨a1,a2⟩,⟨a3,a4⟩,a5,a6⟩:=hx
 have h0:=mb hp.b1 hp.b2 (show -600000000000≤x.pw by omega) w2
 have h1:=mb hp.x1 hp.x2 a1 a2
 have h2:=mb hp.y1 hp.y2 a3 a4
 have h3:=mb hp.z1 hp.z2 a5 a6
 exact Z3 (by omega) (by omega)
theorem Ed5 {r:List Pln} (hb:Bds r) {x:Pt} (hx:Okx x):inn r x=true↔Inr r x:=by
 unfold inn
 rw[List.all_eq_true]
 constructor
 ·intro h
  refine⟨hx.w1,fun p hp=>?_⟩
  have:=h p hp
  rw[bd0 (hb p hp) hx] at this
  simpa using this
 ·intro h p hp
  rw[bd0 (hb p hp) hx]
  simpa using h.h p hp
theorem pe3 {p q s:Pln} (h:(mpt p q s).2=true):mw p q s≠0∧∃ k:Int,k≠0∧k*(mpt p q s).1.px=(mv p q s).x∧k*(mpt p q s).1.py=(mv p q s).y∧k*(mpt p q s).1.pz=(mv p q s).z∧k*(mpt p q s).1.pw=mw p q s:=by
 unfold mpt at h ⊢
 by_cases h0:mw p q s=0
 ·rw[if_pos h0] at h;cases h
 refine⟨h0,?_⟩
 have hg:=zc7 (v:=mv p q s) h0
 have dv:∀ {x:Int},(gc (mv p q s) (mw p q s))∣x→gc (mv p q s) (mw p q s)*Int.tdiv x (gc (mv p q s) (mw p q s))=x:=fun h=>Int.mul_tdiv_cancel' h
 have d1:gc (mv p q s) (mw p q s)∣(mv p q s).x:=by
  rw[← Int.dvd_natAbs];exact Int.natCast_dvd_natCast.2 (Nat.dvd_trans (Nat.gcd_dvd_left _ _) (Nat.gcd_dvd_left _ _))
 have d2:gc (mv p q s) (mw p q s)∣(mv p q s).y:=by
  rw[← Int.dvd_natAbs];exact Int.natCast_dvd_natCast.2 (Nat.dvd_trans (Nat.gcd_dvd_left _ _) (Nat.gcd_dvd_right _ _))
 have d3:gc (mv p q s) (mw p q s)∣(mv p q s).z:=by
  rw[← Int.dvd_natAbs];exact Int.natCast_dvd_natCast.2 (Nat.dvd_trans (Nat.gcd_dvd_right _ _) (Nat.gcd_dvd_left _ _))
 have d4:gc (mv p q s) (mw p q s)∣mw p q s:=by
  rw[← Int.dvd_natAbs];exact Int.natCast_dvd_natCast.2 (Nat.dvd_trans (Nat.gcd_dvd_right _ _) (Nat.gcd_dvd_right _ _))
 rw[if_neg h0]
 by_cases h1:mw p q s < 0
 ·rw[if_pos h1]
  have e:∀ {x:Int},(gc (mv p q s) (mw p q s))∣x→-(gc (mv p q s) (mw p q s))*Int.tdiv (-x) (gc (mv p q s) (mw p q s))=x:=fun {x} h=>by
   rw[Int.neg_mul,dv ((Int.dvd_neg).2 h),Int.neg_neg]
  exact⟨-(gc (mv p q s) (mw p q s)),by omega,e d1,e d2,e d3,e d4⟩
 ·rw[if_neg h1]
  exact⟨gc (mv p q s) (mw p q s),by omega,dv d1,dv d2,dv d3,dv d4⟩
theorem Yd0 {p q s:Pln} (h:(mpt p q s).2=true):rmZ p (mpt p q s).1=0∧rmZ q (mpt p q s).1=0∧rmZ s (mpt p q s).1=0:=by
 obtain⟨_,k,hk,e1,e2,e3,e4⟩:=pe3 h
 generalize (mpt p q s).1=x at *
 have f:∀ a:Pln,a.b*mw p q s - (a.n.x*(mv p q s).x+a.n.y*(mv p q s).y+a.n.z*(mv p q s).z)=0→rmZ a x=0:=fun a ha=>by
  rw[← e1,← e2,← e3,← e4] at ha
  have:k*rmZ a x=0:=by rw[← ha];unfold rmZ;grind
  exact (Int.mul_eq_zero.1 this).resolve_left hk
 refine⟨f p ?_,f q ?_,f s ?_⟩<;>(simp only[mw,mv,dot,i6];grind)
theorem ke2 {p q s:Pln} (h:mw p q s≠0):(mpt p q s).2=true:=by
 unfold mpt
 rw[if_neg h]
 split<;>rfl
theorem Yd1 {p q s:Pln} {x:Pt} (h1:rmZ p x=0) (h2:rmZ q x=0) (h3:rmZ s x=0):mw p q s*x.px=(mv p q s).x*x.pw∧mw p q s*x.py=(mv p q s).y*x.pw∧mw p q s*x.pz=(mv p q s).z*x.pw:=by
 have i1:(mv p q s).x*x.pw - mw p q s*x.px=(i6 q.n s.n).x*rmZ p x+(i6 s.n p.n).x*rmZ q x+(i6 p.n q.n).x*rmZ s x:=by simp only[mw,mv,dot,i6,rmZ];grind
 have i2:(mv p q s).y*x.pw - mw p q s*x.py=(i6 q.n s.n).y*rmZ p x+(i6 s.n p.n).y*rmZ q x+(i6 p.n q.n).y*rmZ s x:=by simp only[mw,mv,dot,i6,rmZ];grind
 have i3:(mv p q s).z*x.pw - mw p q s*x.pz=(i6 q.n s.n).z*rmZ p x+(i6 s.n p.n).z*rmZ q x+(i6 p.n q.n).z*rmZ s x:=by simp only[mw,mv,dot,i6,rmZ];grind
 rw[h1,h2,h3] at i1 i2 i3
 simp only[Int.mul_zero,Int.add_zero] at i1 i2 i3
 omega
theorem we5 {p q s:Pln} {x v:Pt} (h:mw p q s≠0) (h1:rmZ p x=0) (h2:rmZ q x=0) (h3:rmZ s x=0) (k1:rmZ p v=0) (k2:rmZ q v=0) (k3:rmZ s v=0):Eqv x v:=by
 obtain⟨a1,a2,a3⟩:=Yd1 h1 h2 h3
 obtain⟨c1,c2,c3⟩:=Yd1 k1 k2 k3
 have f:∀ {a c m:Int},mw p q s*a=m*x.pw→mw p q s*c=m*v.pw→a*v.pw=c*x.pw:=fun {a c m} ha hc=>by
  have:mw p q s*(a*v.pw - c*x.pw)=0:=by grind
  have:=(Int.mul_eq_zero.1 this).resolve_left h
  omega
 exact⟨f a1 c1,f a2 c2,f a3 c3⟩
theorem Kd8 {r:List Pln} {p q:Pln} {out:List Pt} {s:Pln} {x:Pt} (h:x∈out):x∈va8 r p q out s:=by
 unfold va8
 split
 ·exact List.mem_append_left _ h
 ·exact h
theorem Ec5 {r:List Pln} {p q:Pln} {x:Pt}:∀ {l:List Pln} {out:List Pt},x∈out→x∈Va0 r p q l out
 | [],_,h=>h
 | s::l,out,h=>Ec5 (l:=l) (out:=va8 r p q out s) (Kd8 h)
theorem bc5 {r:List Pln} {p:Pln} {x:Pt}:∀ {l:List Pln} {out:List Pt},x∈out→x∈Ia8 r p l out
 | [],_,h=>h
 | _::l,_,h=>bc5 (l:=l) (Ec5 h)
theorem pd3 {r:List Pln} {x:Pt}:∀ {l:List Pln} {out:List Pt},x∈out→x∈Yb7 r l out
 | [],_,h=>h
 | _::l,_,h=>pd3 (l:=l) (bc5 h)
theorem Kd9 {r:List Pln} {p q:Pln} {out:List Pt} {s:Pln} (h1:(mpt p q s).2=true) (h2:inn r (mpt p q s).1=true):(mpt p q s).1∈va8 r p q out s:=by
 unfold va8
 rw[h1,h2]
 cases h:Eb7 out (mpt p q s).1 with
 | true=>simpa using (Td2 _ _).1 h
 | false=>simp
theorem Ec6 {r:List Pln} {p q s:Pln} (h1:(mpt p q s).2=true) (h2:inn r (mpt p q s).1=true):∀ {l:List Pln} {out:List Pt},s∈l→(mpt p q s).1∈Va0 r p q l out
 | [],_,h=>by cases h
 | t::l,out,h=>by
  show _∈Va0 r p q l (va8 r p q out t)
  rcases List.mem_cons.1 h with rfl | h
  ·exact Ec5 (Kd9 h1 h2)
  ·exact Ec6 h1 h2 h
structure Hit (r:List Pln) (Q:Pt→Prop) (p q s:Pln):Prop where
 h1:(mpt p q s).2=true
 h2:inn r (mpt p q s).1=true
 h3:Q (mpt p q s).1
theorem pd4 {r:List Pln} {Q:Pt→Prop} {p q s:Pln} (hq:Hit r Q p q s) (hs:Hit r Q p s q) (hne:q≠s):∀ {l:List Pln} {out:List Pt},q∈l→s∈l→∃ x∈Ia8 r p l out,Q x
 | [],_,h,_=>by cases h
 | t::l,out,hql,hsl=>by
  show ∃ x∈Ia8 r p l (Va0 r p t l out),Q x
  rcases List.mem_cons.1 hql with rfl | h1
  ·have h2:=(List.mem_cons.1 hsl).resolve_left fun h=>hne h.symm
   exact⟨_,bc5 (Ec6 hq.h1 hq.h2 h2),hq.h3⟩
  ·rcases List.mem_cons.1 hsl with rfl | h2
   ·exact⟨_,bc5 (Ec6 hs.h1 hs.h2 h1),hs.h3⟩
   ·exact pd4 hq hs hne (l:=l) h1 h2
theorem pd5 {r : List Pln} {Q : Pt → Prop} {p q s : Pln} (H : ∀ a c d, (a = p ∨ a = q ∨ a = s) → (c = p ∨ c = q ∨ c = s) → (d = p ∨ d = q ∨ d = s) → a ≠ c → c ≠ d → a ≠ d → Hit r Q a c d) (h1 : p ≠ q) (h2 : q ≠ s) (h3 : p ≠ s) :
  ∀ {l:List Pln} {out:List Pt},p∈l→q∈l→s∈l→∃ x∈Yb7 r l out,Q x
 | [],_,h,_,_=>by cases h
 | t::l,out,hp,hq,hs=>by
  have fin:∀ {a c d:Pln} {out:List Pt},(a=p∨a=q∨a=s)→(c=p∨c=q∨c=s)→(d=p∨d=q∨d=s)→a≠c→c≠d→a≠d→c∈l→d∈l→∃ x∈Yb7 r l (Ia8 r a l out),Q x:=fun ha hc hd n1 n2 n3 m1 m2=>by
   obtain⟨x,hx,hQ⟩:=pd4 (H _ _ _ ha hc hd n1 n2 n3) (H _ _ _ ha hd hc n3 n2.symm n1) n2 (out:=_) m1 m2
   exact⟨x,pd3 hx,hQ⟩
  show ∃ x∈Yb7 r l (Ia8 r t l out),Q x
  rcases List.mem_cons.1 hp with rfl | hp'
  ·exact fin (.inl rfl) (.inr (.inl rfl)) (.inr (.inr rfl)) h1 h2 h3 ((List.mem_cons.1 hq).resolve_left (Ne.symm h1)) ((List.mem_cons.1 hs).resolve_left (Ne.symm h3))
  ·rcases List.mem_cons.1 hq with rfl | hq'
   ·exact fin (.inr (.inl rfl)) (.inl rfl) (.inr (.inr rfl)) (Ne.symm h1) h3 h2 hp' ((List.mem_cons.1 hs).resolve_left (Ne.symm h2))
   ·rcases List.mem_cons.1 hs with rfl | hs'
    ·exact fin (.inr (.inr rfl)) (.inl rfl) (.inr (.inl rfl)) (Ne.symm h3) h1 (Ne.symm h2) hp' hq'
    ·exact pd5 H h1 h2 h3 hp' hq' hs'
theorem He5 {p q s:Pln} (h:mw p q s≠0):p≠q∧q≠s∧p≠s:=by
 refine⟨fun e=>h ?_,fun e=>h ?_,fun e=>h ?_⟩<;>(subst e;simp only[mw,dot,i6];grind)
theorem xd9 {r:List Pln} (hb:Bds r):∀ x∈cor r,Cn r x:=Cd9 fun p hp q hq s hs h hi=>by
 obtain⟨w1,w2,w3,w4,w5⟩:=wd2 (hb p hp) (hb q hq) (hb s hs) h
 obtain⟨e1,e2,e3⟩:=Yd0 h
 exact⟨(Ed5 hb ⟨w1,w5,w2,w3,w4⟩).1 hi,p,q,s,hp,hq,hs,(pe3 h).1,e1,e2,e3⟩
theorem we6 {r:List Pln} (hb:Bds r) {v:Pt} (hv:Cn r v):∃ x∈cor r,Eqv x v:=by
 obtain⟨p,q,s,hp,hq,hs,hw,e1,e2,e3⟩:=hv.c
 obtain⟨n1,n2,n3⟩:=He5 hw
 refine pd5 (fun a c d ha hc hd m1 m2 m3=>?_) n1 n2 n3 hp hq hs
 have hm:∀ {a},(a=p∨a=q∨a=s)→a∈r∧rmZ a v=0:=fun h=>by
  rcases h with rfl | rfl | rfl
  ·exact⟨hp,e1⟩
  ·exact⟨hq,e2⟩
  ·exact⟨hs,e3⟩
 have hw':mw a c d≠0:=by
  have k:mw a c d=mw p q s∨mw a c d=-mw p q s:=by
   rcases ha with rfl | rfl | rfl<;>rcases hc with rfl | rfl | rfl<;>rcases hd with rfl | rfl | rfl<;>first | exact absurd rfl m1 | exact absurd rfl m2 | exact absurd rfl m3 | exact .inl rfl | (left;simp only[mw,dot,i6];grind;done) | (right;simp only[mw,dot,i6];grind;done)
  rcases k with k | k<;>omega
 have h:=ke2 hw'
 obtain⟨w1,w2,w3,w4,w5⟩:=wd2 (hb a (hm ha).1) (hb c (hm hc).1) (hb d (hm hd).1) h
 obtain⟨f1,f2,f3⟩:=Yd0 h
 have he:=we5 hw' f1 f2 f3 (hm ha).2 (hm hc).2 (hm hd).2
 exact⟨h,(Ed5 hb ⟨w1,w5,w2,w3,w4⟩).2 (he.inr w1 hv.toInr),he⟩
theorem wb4 (c:List Pln):Bdd (c++ws):=fun d hd=>by
 have k:∀ {n:V3} {m:Int},(⟨n,m⟩:Pln)∈ws→0 < dot n d→∃ p∈c++ws,0 < dot p.n d:=fun h h'=>⟨_,List.mem_append_right _ h,h'⟩
 by_cases h1:0 < d.x
 ·exact k (n:=⟨1,0,0⟩) (m:=24) (by simp[ws]) (by unfold dot;simp;omega)
 by_cases h2:d.x < 0
 ·exact k (n:=⟨-1,0,0⟩) (m:=24) (by simp[ws]) (by unfold dot;simp;omega)
 by_cases h3:0 < d.y
 ·exact k (n:=⟨0,1,0⟩) (m:=24) (by simp[ws]) (by unfold dot;simp;omega)
 by_cases h4:d.y < 0
 ·exact k (n:=⟨0,-1,0⟩) (m:=24) (by simp[ws]) (by unfold dot;simp;omega)
 by_cases h5:0 < d.z
 ·exact k (n:=⟨0,0,1⟩) (m:=24) (by simp[ws]) (by unfold dot;simp;omega)
 by_cases h6:d.z < 0
 ·exact k (n:=⟨0,0,-1⟩) (m:=24) (by simp[ws]) (by unfold dot;simp;omega)
 exact absurd (V3.ext' (by show d.x=0;omega) (by show d.y=0;omega) (by show d.z=0;omega)) hd
theorem bd1 {r:List Pln} (hb:Bds r) {p:Pln} (hp:Bd p):pos (cor r) p=true↔∃ v,Cn r v∧0 < rmZ p v:=by
 unfold pos
 rw[List.any_eq_true]
 constructor
 ·rintro⟨x,hx,h⟩
  rw[bd0 hp (jb6 hb x hx)] at h
  exact⟨x,xd9 hb x hx,by simpa using h⟩
 ·rintro⟨v,hv,h⟩
  obtain⟨x,hx,he⟩:=we6 hb hv
  refine⟨x,hx,?_⟩
  rw[bd0 hp (jb6 hb x hx)]
  have h1:=he.rm p
  have h2:=Int.mul_pos h (jb6 hb x hx).w1
  have:0 < rmZ p x:=Int.lt_of_mul_lt_mul_right (by rw[Int.zero_mul];omega:0*v.pw < rmZ p x*v.pw) (Int.le_of_lt hv.w)
  simpa using this
theorem qb3 {r:List Pln} (hb:Bds r) (hd:Bdd r) (h0:r≠[]):Ac7 r=true↔ad9 r:=by
 rw[Xd9 hd h0]
 unfold Ac7
 rw[List.all_eq_true]
 exact⟨fun h p hp=>(bd1 hb (hb p hp)).1 (h p hp),fun h p hp=>(bd1 hb (hb p hp)).2 (h p hp)⟩
end Go.Ev.Ce
namespace Go.Ev.Ce
def dv (z v:Pt):V3:=⟨v.px*z.pw - z.px*v.pw,v.py*z.pw - z.py*v.pw,v.pz*z.pw - z.pz*v.pw⟩
theorem Yd2 {r:List Pln} (hb:Bdd r) (hB:ad9 r) {h:Pln} (hn:h.n≠⟨0,0,0⟩):¬ ∀ x,Inr r x→rmZ h x=0:=fun H=>by
 obtain⟨x,hw,hx⟩:=hB
 have hi:Inr r x:=⟨hw,fun p hp=>Int.le_of_lt (hx p hp)⟩
 obtain⟨q,hq,h1,h2⟩:=step hi h.n (hb h.n hn)
 have h3:=H _ h2
 rw[pd0,H _ hi] at h3
 have h4:=hx q hq
 have h5:0 < dot h.n h.n:=by
  have k:∀ a:Int,a≠0→0 < a*a:=fun a ha=>by
   rcases Int.lt_or_gt_of_ne ha with h | h
   ·exact Int.mul_pos_of_neg_of_neg h h
   ·exact Int.mul_pos h h
  have k0:∀ a:Int,0≤a*a:=fun a=>by
   by_cases h:a=0
   ·subst h;decide
   ·exact Int.le_of_lt (k a h)
  have a1:=k0 h.n.x;have a2:=k0 h.n.y;have a3:=k0 h.n.z
  unfold dot
  by_cases c1:h.n.x=0
  ·by_cases c2:h.n.y=0
   ·have:=k h.n.z (fun c3=>hn (V3.ext' c1 c2 c3));omega
   ·have:=k _ c2;omega
  ·have:=k _ c1;omega
 have:=Int.mul_pos h4 h5
 omega
end Go.Ev.Ce
namespace Go.Ev.Ce
open Go Go.Ev Go.Ev.L Go.Proofs
theorem ke3 (x:List Pln) (y:Pln):hb8 x y≠[]:=by
 intro h
 have:=(qb2 y y x).2 (.inl rfl)
 rw[h] at this
 cases this
theorem qb4 (y:Pln):∀ x:List Pln,(hb8 x y).length≤x.length+1
 | []=>Nat.le_refl _
 | a::l=>by
  have:=qb4 y l
  unfold hb8
  split
  ·simp only[List.length_cons];omega
  ·split<;>simp only[List.length_cons]<;>omega
def phP (out:List Pln):Nat:=match out with
 | []=>0
 | _::_=>1
end Go.Ev.Ce
namespace Go.Ev.Ce
open Go Go.Ev Go.Ev.L Go.Proofs
def yb4 (p:Pln) (v:V3):Int:=if okp p&&inV v then (if dot p.n v - p.b < 0 then -1 else if dot p.n v - p.b > 0 then 1 else 0) else 0
theorem we7 {p:Pln} {v:V3} (hp:Bd p) (hv:inV v=true):Sm 331776 (dot p.n v):=by
 obtain⟨⟨a1,a2⟩,⟨a3,a4⟩,a5,a6⟩:=(ac4 v).1 hv
 have r1:=mb hp.x1 hp.x2 a1 a2;have r2:=mb hp.y1 hp.y2 a3 a4;have r3:=mb hp.z1 hp.z2 a5 a6
 unfold Sm dot
 omega
theorem ke4 (p:Pln) (v:V3):Da8 p v=some (i (yb4 p v),[]):=by
 unfold Da8 yb4
 simp only[ld0,Ac2,Dd3,nd6]
 cases hp:okp p with
 | false=>rfl
 | true =>
  cases hv:inV v with
  | false=>rfl
  | true =>
   have hb:=Ma6 hp
   have hd:=we7 hb hv
   have e:ra9 p.n v=dot p.n v:=by
    unfold ra9
    simp only[ab9,Cb2]
    exact ta6 (hd.mono (by omega))
   have e2:W (dot p.n v - p.b)=dot p.n v - p.b:=Z3 (by have:=hd.1;have:=hb.b2;omega) (by have:=hd.2;have:=hb.b1;omega)
   rw[e,e2]
   by_cases h1:dot p.n v - p.b < 0
   ·simp only[Bool.and_self,if_true,h1,decide_true];rfl
   ·by_cases h2:dot p.n v - p.b > 0
    ·simp only[Bool.and_self,if_true,h1,h2,decide_true,decide_false,if_false];rfl
    ·simp only[Bool.and_self,if_true,h1,h2,decide_false,if_false];rfl
theorem Yd3 (p:Pln) (v:V3):Na0 p v=yb4 p v:=by unfold Na0;rw[ke4];rfl
theorem pd6 {p:Pln} {v:V3} (hp:okp p=true) (hv:inV v=true):yb4 p v > 0↔dot p.n v > p.b:=by
 unfold yb4
 rw[hp,hv]
 simp only[Bool.and_self,if_true]
 split
 ·omega
 ·split<;>omega
theorem Ld0 {p:Pln} {v:V3} (hp:okp p=true) (hv:inV v=true):yb4 p v=0↔dot p.n v=p.b:=by
 unfold yb4
 rw[hp,hv]
 simp only[Bool.and_self,if_true]
 split
 ·omega
 ·split<;>omega
theorem we8 (v:V3):g3 v∣v.x∧g3 v∣v.y∧g3 v∣v.z:=by
 unfold g3
 refine⟨?_,?_,?_⟩<;>rw[← Int.dvd_natAbs]<;>apply Int.natCast_dvd_natCast.2
 ·exact Nat.dvd_trans (Nat.gcd_dvd_left _ _) (Nat.gcd_dvd_left _ _)
 ·exact Nat.dvd_trans (Nat.gcd_dvd_left _ _) (Nat.gcd_dvd_right _ _)
 ·exact Nat.gcd_dvd_right _ _
theorem we9 (v:V3) (h:g3 v≠0):g3 ⟨Int.tdiv v.x (g3 v),Int.tdiv v.y (g3 v),Int.tdiv v.z (g3 v)⟩=1:=by
 generalize hg:g3 v=g at *
 have h0:0≤g:=hg ▸ hc8 v
 obtain⟨n,rfl⟩:∃ n:Nat,g=n:=⟨g.toNat,by omega⟩
 have hn:0 < n:=by omega
 have hgn:Nat.gcd (Nat.gcd v.x.natAbs v.y.natAbs) v.z.natAbs=n:=by unfold g3 at hg;omega
 have d1:n∣Nat.gcd v.x.natAbs v.y.natAbs:=hgn ▸ Nat.gcd_dvd_left _ _
 have d3:n∣v.z.natAbs:=hgn ▸ Nat.gcd_dvd_right _ _
 have d4:n∣v.x.natAbs:=Nat.dvd_trans d1 (Nat.gcd_dvd_left _ _)
 have d5:n∣v.y.natAbs:=Nat.dvd_trans d1 (Nat.gcd_dvd_right _ _)
 unfold g3
 simp only[Int.natAbs_tdiv,Int.natAbs_natCast]
 show ((Nat.gcd (Nat.gcd (v.x.natAbs / n) (v.y.natAbs / n)) (v.z.natAbs / n):Nat):Int)=1
 rw[Nat.gcd_div d4 d5,Nat.gcd_div d1 d3,hgn,Nat.div_self hn]
 rfl
structure Thr (a b c:V3) (p:Pln):Prop where
 ok:okp p=true
 k:∃ g:Int,0 < g∧g*p.n.x=(i6 (sub b a) (sub c a)).x∧g*p.n.y=(i6 (sub b a) (sub c a)).y∧g*p.n.z=(i6 (sub b a) (sub c a)).z
 o:p.b=dot p.n a
theorem Ya6 {a b c:V3} (h:(ga5 a b c).2=true):(inV a=true∧inV b=true∧inV c=true)∧Thr a b c (ga5 a b c).1:=by
 unfold ga5 at h ⊢
 cases ha:inV a with
 | false=>rw[ha] at h;cases h
 | true =>
  cases hb:inV b with
  | false=>rw[ha,hb] at h;cases h
  | true =>
   cases hc:inV c with
   | false=>rw[ha,hb,hc] at h;cases h
   | true =>
    rw[ha,hb,hc] at h
    simp only[Bool.and_self,if_true] at h ⊢
    obtain⟨_,k1,k2,k3⟩:=Ob0 ha hb hc
    generalize hn:i6 (sub b a) (sub c a)=n at *
    by_cases h0:g3 n=0
    ·rw[if_pos h0] at h;cases h
    ·rw[if_neg h0]
     have hp:=hc8 n
     obtain⟨d1,d2,d3⟩:=we8 n
     have q1:=E3 (g:=g3 n) k1 (by omega)
     have q2:=E3 (g:=g3 n) k2 (by omega)
     have q3:=E3 (g:=g3 n) k3 (by omega)
     refine⟨⟨trivial,trivial,trivial⟩,⟨?_,⟨g3 n,by omega,by rw[hn];exact Int.mul_tdiv_cancel' d1,by rw[hn];exact Int.mul_tdiv_cancel' d2,by rw[hn];exact Int.mul_tdiv_cancel' d3⟩,rfl⟩⟩
     obtain⟨⟨a1,a2⟩,⟨a3,a4⟩,a5,a6⟩:=(ac4 a).1 ha
     have r1:=mb q1.1 q1.2 a1 a2;have r2:=mb q2.1 q2.2 a3 a4;have r3:=mb q3.1 q3.2 a5 a6
     unfold okp
     rw[we9 n h0]
     simp only[List.all_cons,List.all_nil,Bool.and_true,Bool.and_eq_true,Ya0,beq_self_eq_true,true_and,and_true]
     refine⟨⟨q1,q2,q3⟩,?_⟩
     unfold Sm dot
     simp only
     omega
theorem ke5 (a b c:V3):Bd (ga5 a b c).1:=by
 cases h:(ga5 a b c).2 with
 | true=>exact Ma6 (Ya6 h).2.ok
 | false =>
  have:(ga5 a b c).1=⟨⟨0,0,0⟩,0⟩:=by
   unfold ga5 at h ⊢
   split
   ·rename_i hc
    rw[if_pos hc] at h
    split
    ·rfl
    ·rename_i h0;rw[if_neg h0] at h;cases h
   ·rfl
  rw[this]
  constructor<;>simp
theorem Yd4 {p:Pln} (h:Bd p):Ma9 p=ha4 p:=by
 unfold Ma9 ya0 ha4
 simp only
 have:=h.x1;have:=h.x2;have:=h.y1;have:=h.y2;have:=h.z1;have:=h.z2;have:=h.b1;have:=h.b2
 rw[Z3 (by omega) (by omega),Z3 (by omega) (by omega),Z3 (by omega) (by omega),Z3 (by omega) (by omega)]
 simp only[Int.zero_sub]
theorem eb8 {p:Pln} (h:okp p=true):okp (ha4 p)=true:=by
 unfold okp ha4 g3 at *
 simp only[List.all_cons,List.all_nil,Bool.and_true,Bool.and_eq_true,Ya0,Int.natAbs_neg] at h ⊢
 obtain⟨⟨h1,h2,h3⟩,h4,h5⟩:=h
 exact⟨⟨h1.neg,h2.neg,h3.neg⟩,h4,h5.neg⟩
noncomputable def Yd5 (l:List V3) (p:Pln):Bool:=l.any fun v=>yb4 p v != 0
noncomputable def nf (l:List V3) (a c k:Nat):Bool:=(ga5 (gL tV l a) (gL tV l c) (gL tV l k)).2&&Yd5 l (ga5 (gL tV l a) (gL tV l c) (gL tV l k)).1
noncomputable def nf2 (l:List V3) (a c:Nat):Bool:=(List.range c).any (nf l a c)
noncomputable def nf1 (l:List V3) (a:Nat):Bool:=(List.range a).any (nf2 l a)
noncomputable def nf0 (l:List V3):Bool:=(List.range l.length).any (nf1 l)
theorem yd0 {σ : Type} {step : σ → Stp σ} {mk : Nat → σ} (n : Nat) (c : Nat → Bool) (u fin : Nat) (hn : n ≤ 1000000000) (h : ∀ j, j < n → step (mk j) = sl (c j) (.exit u) (.next (mk (j + 1)))) (hf : step (mk n) = .exit fin) :
  ∃ j,lp step (mk 0)=(if (List.range n).any c then u else fin,mk j):=by
 have key:=ja1 (step:=step) (mk:=fun j (_:Unit)=>mk j) n (fun j _=>j≤n∧∀ i,i < j→c i=false) (fun t s=>t=(if (List.range n).any c then u else fin)∧∃ j,s=mk j) hn
  (fun j _ hj hi=>by
   rw[h j hj]
   refine Nx.sl (fun hc=>.ex ⟨?_,j,rfl⟩) (fun hc=>.nx ⟨(),rfl,by omega,fun i hi'=>?_⟩)
   ·rw[if_pos (List.any_eq_true.2 ⟨j,List.mem_range.2 hj,hc⟩)]
   ·by_cases e:i=j
    ·rw[e];exact hc
    ·exact hi.2 i (by omega))
  (fun j _ hj hi=>by
   have e:j=n:=by omega
   subst e
   refine⟨fin,hf,?_,j,rfl⟩
   rw[if_neg fun hh=>?_]
   obtain⟨i,hi1,hi2⟩:=List.any_eq_true.1 hh
   rw[hi.2 i (List.mem_range.1 hi1)] at hi2
   cases hi2) 0 () ⟨by omega,by omega⟩
 obtain⟨t,s,h1,rfl,j,rfl⟩:=key
 exact⟨j,h1⟩
theorem Yd6 (l:List V3) (x1 x2 x3:Int) (okb:Bool) (p:Pln) (hl:l.length≤1000000000):∃ t s,lp (B3 ⟨l,x1,x2,x3,okb,p.n.x,p.n.y,p.n.z,p.b⟩) ⟨0⟩=(t,s)∧(((okb&&Yd5 l p)=true∧t=1)∨((okb&&Yd5 l p)=false∧(t=2∨t=3))):=by
 cases okb with
 | false =>
  cases l with
  | nil =>
   refine⟨3,⟨0⟩,?_,.inr ⟨rfl,.inr rfl⟩⟩
   exact Ed2 (step:=B3 ⟨[],x1,x2,x3,false,p.n.x,p.n.y,p.n.z,p.b⟩) rfl
  | cons v l =>
   refine⟨2,⟨0⟩,?_,.inr ⟨rfl,.inl rfl⟩⟩
   refine Ed2 (step:=B3 ⟨v::l,x1,x2,x3,false,p.n.x,p.n.y,p.n.z,p.b⟩) ?_
   simp only[B3,X7]
   rw[btD (by simp only[List.length_cons];omega)]
   rfl
 | true =>
  have h:=Ta1 (step:=B3 ⟨l,x1,x2,x3,true,p.n.x,p.n.y,p.n.z,p.b⟩) (mk:=fun j=>(⟨(j:Int)⟩:ba9)) (c:=fun v=>yb4 p v != 0) (u:=1) (fin:=3) tV l hl
   (fun j hj=>by
    simp only[B3,X7,Zc1,Yd3,Int.toNat_natCast,o2 hj (show l.length≤4611686018427387904 by omega)]
    rw[btD (l0 hj),bt (e8 hj)]
    rfl)
   (by simp only[B3,X7];rw[bfD (y5 (Nat.lt_irrefl _))]) 0 (Nat.zero_le _)
  rw[List.drop_zero] at h
  have h:(lp (B3 ⟨l,x1,x2,x3,true,p.n.x,p.n.y,p.n.z,p.b⟩) ⟨0⟩).1=_:=h
  cases hlp:lp (B3 ⟨l,x1,x2,x3,true,p.n.x,p.n.y,p.n.z,p.b⟩) ⟨0⟩ with
  | mk t s =>
  rw[hlp] at h
  refine⟨t,s,rfl,?_⟩
  simp only at h
  rw[h]
  unfold Yd5
  cases hh:l.any fun v=>yb4 p v != 0 with
  | true=>exact .inl ⟨rfl,rfl⟩
  | false=>exact .inr ⟨rfl,.inr rfl⟩
theorem Yd7 (l:List V3) (hl:l.length≤1000000000) (a c:Nat) (ha:a < l.length) (hc:c < a):∃ j,lp (O9 ⟨(a:Int),(c:Int)⟩) ⟨l,0⟩=(if nf2 l a c then 1 else 2,⟨l,((j:Nat):Int)⟩) :=
 yd0 (step:=O9 ⟨(a:Int),(c:Int)⟩) (mk:=fun j=>(⟨l,(j:Int)⟩:ca0)) c (nf l a c) 1 2 (by omega)
  (fun j hj=>by
   simp only[O9,fa2,qb0,Fa2,Int.toNat_natCast,l8,l6,o2 hj (show c≤4611686018427387904 by omega)]
   rw[btD (l0 hj),bt (e8 ha),bt (e8 (show c < l.length by omega)),bt (e8 (show j < l.length by omega)),n5]
   obtain⟨t,s,h1,h2⟩:=Yd6 l (a:Int) (c:Int) (j:Int) (ga5 (gL tV l a) (gL tV l c) (gL tV l j)).2 (ga5 (gL tV l a) (gL tV l c) (gL tV l j)).1 hl
   rw[h1]
   unfold nf
   rcases h2 with⟨e,rfl⟩ | ⟨e,rfl | rfl⟩<;>rw[e]<;>rfl)
  (by simp only[O9,fa2];rw[bfD (y5 (Nat.lt_irrefl _))])
theorem Yd8 (l:List V3) (hl:l.length≤1000000000) (a:Nat) (ha:a < l.length):∃ j,lp (P0 ⟨(a:Int)⟩) ⟨l,0⟩=(if nf1 l a then 1 else 2,⟨l,((j:Nat):Int)⟩) :=
 yd0 (step:=P0 ⟨(a:Int)⟩) (mk:=fun j=>(⟨l,(j:Int)⟩:ca1)) a (nf2 l a) 1 2 (by omega)
  (fun j hj=>by
   obtain⟨j',h1⟩:=Yd7 l hl a j ha hj
   simp only[P0,fa3,l8,l6,o2 hj (show a≤4611686018427387904 by omega)]
   rw[btD (l0 hj),h1]
   cases nf2 l a j<;>rfl)
  (by simp only[P0,fa3];rw[bfD (y5 (Nat.lt_irrefl _))])
theorem ke6 (l:List V3) (hl:l.length≤1000000000):Da9 l=some (b (!nf0 l),[]):=by
 obtain⟨j,h⟩:=yd0 (step:=P1 ⟨⟩) (mk:=fun j=>(⟨l,(j:Int)⟩:ca2)) l.length (nf1 l) 1 2 hl
  (fun j hj=>by
   obtain⟨j',h1⟩:=Yd8 l hl j hj
   simp only[P1,fa4,l8,l6,o2 hj (show l.length≤4611686018427387904 by omega)]
   rw[btD (l0 hj),h1]
   cases nf1 l j<;>rfl)
  (by simp only[P1,fa4];rw[bfD (y5 (Nat.lt_irrefl _))])
 have h:lp (P1 ⟨⟩) ⟨l,0⟩=(if nf0 l then 1 else 2,⟨l,((j:Nat):Int)⟩):=h
 unfold Da9
 simp only[l8,l6]
 rw[h]
 cases nf0 l<;>rfl
theorem xe0 (l:List V3) (hl:l.length≤1000000000):Ea0 l=!nf0 l:=by unfold Ea0;rw[ke6 l hl];rfl
noncomputable def ic9 (l:List V3):Int:=if (l.length:Int) > 48 then 2 else if l.all inV then (if nf0 l then 0 else 11) else 3
theorem yd1 (l:List V3) (hl:l.length≤1000000000):va9 l=some (i (ic9 l),[]):=by
 have h:=Ta1 (step:=X8 ⟨l⟩) (mk:=fun j=>(⟨(j:Int)⟩:L2)) (c:=fun v=>!inV v) (u:=1) (fin:=2) tV l hl
  (fun j hj=>by
   simp only[X8,Z9,Int.toNat_natCast,Dd3,nd6,o2 hj (show l.length≤4611686018427387904 by omega)]
   rw[btD (l0 hj),bt (e8 hj),n5])
  (by simp only[X8,Z9];rw[bfD (y5 (Nat.lt_irrefl _))]) 0 (Nat.zero_le _)
 rw[List.drop_zero] at h
 have e:(l.any fun v=>!inV v)=!l.all inV:=by rw[List.not_all_eq_any_not]
 unfold va9 ic9
 simp only[l8,l6,L0,xd2 l hl,xe0 l hl]
 rw[show (⟨0⟩:L2)=⟨((0:Nat):Int)⟩ from rfl,h,e]
 by_cases h48:(l.length:Int) > 48
 ·rw[if_pos h48,btD h48]
 ·rw[if_neg h48,bfD h48]
  cases l.all inV with
  | false=>rfl
  | true=>cases nf0 l<;>rfl
theorem Ld1 (l:List V3) (hl:l.length≤1000000000):Ra9 l=ic9 l:=by unfold Ra9;rw[yd1 l hl];rfl
def hold (p:Pln) (l:List V3):Bool:=!l.any fun v=>decide (yb4 p v > 0)
theorem Yd9 (p:Pln) (l:List V3) (hl:l.length≤1000000000):wa0 p l=some (b (hold p l),[]):=by
 have h:=Ta1 (step:=X9 ⟨l,p.n.x,p.n.y,p.n.z,p.b⟩) (mk:=fun j=>(⟨(j:Int)⟩:L3)) (c:=fun v=>decide (yb4 p v > 0)) (u:=1) (fin:=2) tV l hl
  (fun j hj=>by
   simp only[X9,aa0,Int.toNat_natCast,Yd3,Zc1,o2 hj (show l.length≤4611686018427387904 by omega)]
   rw[btD (l0 hj),bt (e8 hj),n5])
  (by simp only[X9,aa0];rw[bfD (y5 (Nat.lt_irrefl _))]) 0 (Nat.zero_le _)
 rw[List.drop_zero] at h
 unfold wa0 hold
 simp only[l8,l6]
 rw[show (⟨0⟩:L3)=⟨((0:Nat):Int)⟩ from rfl,h]
 cases l.any fun v=>decide (yb4 p v > 0)<;>rfl
theorem ke7 (p:Pln) (l:List V3) (hl:l.length≤1000000000):pa0 p l=hold p l:=by unfold pa0;rw[Yd9 p l hl];rfl
end Go.Ev.Ce
namespace Go.Ev.Ce
open Go Go.Ev Go.Ev.L Go.Proofs
theorem yd2 (x:List Pln) (y:Pln) (hx:x.length≤1000000):Rd (one (r1L tP)) (Na2 x y) (fun r=>r=ins x y):=by
  have h:=Xa0 (step:=W5 ⟨x,y.n.x,y.n.y,y.n.z,y.b⟩) (mk:=fun j=>(⟨(j:Int)⟩:Y0)) (c:=fun p=>!decide (ha3 p y < 0)) (u:=1) (fin:=2) tP x (by omega)
    (fun j hj=>by
      simp only[W5,ka4,Int.toNat_natCast,Vd7,we2,o2 hj (show x.length≤4611686018427387904 by omega)]
      rw[btD (l0 hj),bt (e8 hj),n5]
      show sl (decide (ha3 (gL tP x j) y < 0)) _ _=_
      cases decide (ha3 (gL tP x j) y < 0)<;>rfl)
    (by simp only[W5,ka4];rw[bfD (y5 (Nat.lt_irrefl _))]) 0 (Nat.zero_le _)
  rw[List.drop_zero] at h
  have key:∃ t,lp (W5 ⟨x,y.n.x,y.n.y,y.n.z,y.b⟩) ⟨0⟩=(t,⟨((atP x y:Nat):Int)⟩)∧(t=1∨t=2):=by
    rw[show (⟨0⟩:Y0)=⟨((0:Nat):Int)⟩ from rfl,h]
    split
    · exact⟨1,by rw[Nat.zero_add];rfl,.inl rfl⟩
    · rename_i hn
      refine⟨2,?_,.inr rfl⟩
      have:atP x y=x.length:=by
        unfold atP
        rw[List.findIdx_eq_length]
        intro p hp
        cases hb:(!decide (ha3 p y < 0)) with
        | false=>rfl
        | true=>exact absurd (List.any_eq_true.2 ⟨p,hp,hb⟩) hn
      rw[this]
  obtain⟨t,h1,h2⟩:=key
  have h3:atP x y≤x.length:=List.findIdx_le_length
  have hdef:ins x y=if (atP x y < x.length∧eqP (gL tP x (atP x y)) y=true) then x else yb1 x y (atP x y):=rfl
  generalize atP x y=n at *
  have hlo:inB (n:Int) (x.length+1)=true:=e8 (by omega)
  have hd:(bL tP (x.take n)).length=n:=by rw[← l9,L1,List.length_take];omega
  have hlen:(yb1 x y n).length=x.length+1:=by unfold yb1;simp only[List.length_append,List.length_cons,List.length_take,List.length_drop];omega
  have lt:len (bL tP (x.take n))=n:=by rw[l9];exact hd
  have ld:len (bL tP (x.drop n))=x.length - n:=by rw[L1,List.length_drop]
  have b1:(Nat.beq 1 1&&Nat.ble ((1+(x.length - n))*32) room)=true:=by rw[Y7 (by omega)];rfl
  have b2:(Nat.beq 0 0&&Nat.ble ((0+n)*32) room)=true:=by rw[Y7 (by omega)];rfl
  have e0:app [] (bL tP (x.take n))=bL tP (x.take n):=rfl
  have b3:(Nat.beq (0+n) n&&Nat.ble (((0+n)+1)*32) room)=true:=by rw[Y7 (by omega),Nat.zero_add,Nat.beq_refl];rfl
  have l3:len (bL tP (x.take n++[y]))=n+1:=by rw[L1,List.length_append,List.length_take];simp only[List.length_singleton];omega
  have b4:(Nat.beq ((0+n)+1) (n+1)&&Nat.ble ((((0+n)+1)+(x.length - n))*32) room)=true:=by rw[Y7 (by omega),Nat.zero_add,Nat.beq_refl];rfl
  have z0:∀ {k:Nat},Nat.beq k 0=true→k=0:=fun {k} h=>Nat.eq_of_beq_eq_true h
  have fin:ins x y=yb1 x y n→∀ m r,m=x.length+1→r=bL tP (yb1 x y n)→Rd (one (r1L tP)) (some (.sl 0 0 m 0,[⟨50,4,r,true,false,0⟩])) (fun r=>r=ins x y) :=
    fun hq m r hm hr=>Zc2 (by rw[hlen];exact hm) hr hq.symm
  have tail : ins x y = yb1 x y n → Rd (one (r1L tP)) (sl (Nat.beq n 0) (sl (Nat.beq (x.length - n) 0) (some ((.sl 0 0 1 0), [⟨50, 4, [[(i y.n.x), (i y.n.y), (i y.n.z), (i y.b)]], true, false, 0⟩]))
      (some ((.sl 0 0 (1+(x.length - n)) 0),[⟨50,4,(app [[(i y.n.x),(i y.n.y),(i y.n.z),(i y.b)]] (bL tP (x.drop n))),true,false,0⟩])))
      (sl (Nat.beq (x.length - n) 0) (some ((.sl 0 0 ((0+n)+1) 0),[⟨50,4,bL tP (x.take n++[y]),true,false,0⟩]))
        (some ((.sl 0 0 (((0+n)+1)+(x.length - n)) 0),[⟨50,4,(app (bL tP (x.take n++[y])) (bL tP (x.drop n))),true,false,0⟩])))) (fun r=>r=ins x y):=fun hq=>by
    refine Rd.sl (fun q1=>Rd.sl (fun q2=>?_) (fun q2=>?_)) (fun q1=>Rd.sl (fun q2=>?_) (fun q2=>?_))
    · have:=z0 q1;have:=z0 q2
      refine fin hq _ _ (by omega) ?_
      have:x=[]:=List.eq_nil_of_length_eq_zero (by omega)
      subst this
      rw[show n=0 by omega];rfl
    · have:=z0 q1;subst this
      exact fin hq _ _ (by omega) rfl
    · have:=z0 q2
      refine fin hq _ _ (by omega) ?_
      unfold yb1
      rw[show x.drop n=[] from List.drop_eq_nil_of_le (by omega)]
    · refine fin hq _ _ (by omega) ?_
      rw[La3]
      unfold yb1
      rw[List.append_assoc];rfl
  unfold Na2
  simp only[l8,l6]
  rw[h1]
  simp only[Int.toNat_natCast,Cc8 x n h3,Cc9,lt,ld,b1,b2,e0,b3,Fb6,l3,b4,hlo,n5]
  have main : Rd (one (r1L tP)) (sl (decide ((n : Int) < (x.length : Int))) (sl (inB (n : Int) x.length) (sl (((gL tP x n).n.x == y.n.x) && (((gL tP x n).n.y == y.n.y) && (((gL tP x n).n.z == y.n.z) && (((gL tP x n).b == y.b) && true)))) (some (eL tP x, []))
      (sl (Nat.beq n 0) (sl (Nat.beq (x.length - n) 0) (some ((.sl 0 0 1 0),[⟨50,4,[[(i y.n.x),(i y.n.y),(i y.n.z),(i y.b)]],true,false,0⟩]))
      (some ((.sl 0 0 (1+(x.length - n)) 0),[⟨50,4,(app [[(i y.n.x),(i y.n.y),(i y.n.z),(i y.b)]] (bL tP (x.drop n))),true,false,0⟩])))
      (sl (Nat.beq (x.length - n) 0) (some ((.sl 0 0 ((0+n)+1) 0),[⟨50,4,bL tP (x.take n++[y]),true,false,0⟩]))
        (some ((.sl 0 0 (((0+n)+1)+(x.length - n)) 0),[⟨50,4,(app (bL tP (x.take n++[y])) (bL tP (x.drop n))),true,false,0⟩]))))) none)
      (sl (Nat.beq n 0) (sl (Nat.beq (x.length - n) 0) (some ((.sl 0 0 1 0),[⟨50,4,[[(i y.n.x),(i y.n.y),(i y.n.z),(i y.b)]],true,false,0⟩]))
      (some ((.sl 0 0 (1+(x.length - n)) 0),[⟨50,4,(app [[(i y.n.x),(i y.n.y),(i y.n.z),(i y.b)]] (bL tP (x.drop n))),true,false,0⟩])))
      (sl (Nat.beq (x.length - n) 0) (some ((.sl 0 0 ((0+n)+1) 0),[⟨50,4,bL tP (x.take n++[y]),true,false,0⟩]))
        (some ((.sl 0 0 (((0+n)+1)+(x.length - n)) 0),[⟨50,4,(app (bL tP (x.take n++[y])) (bL tP (x.drop n))),true,false,0⟩]))))) (fun r=>r=ins x y):=by
    by_cases hn:n < x.length
    · rw[btD (l0 hn),bt (e8 hn)]
      exact Rd.sl (fun q=>⟨_,x,rfl,Cd4 tP x,by rw[hdef,if_pos ⟨hn,q⟩]⟩) fun q=>tail (by
        rw[hdef,if_neg fun h=>?_]
        have h:=h.2
        rw[show eqP (gL tP x n) y=false from q] at h
        cases h)
    · rw[bfD (y5 hn)]
      exact tail (by rw[hdef,if_neg fun h=>hn h.1])
  rcases h2 with rfl | rfl
  · exact main
  · exact main
theorem Zd0 (x:List Pln) (y:Pln) (hx:x.length≤1000000):D8 x y=hb8 x y:=(yd2 x y hx).p.trans (Xd3 y x)
noncomputable def jb7 (l:List V3) (a c:Nat) (out:List Pln) (k:Nat):List Pln :=
  if (ga5 (gL tV l a) (gL tV l c) (gL tV l k)).2 then
    (if hold (ha4 (ga5 (gL tV l a) (gL tV l c) (gL tV l k)).1) l then hb8 (if hold (ga5 (gL tV l a) (gL tV l c) (gL tV l k)).1 l then hb8 out (ga5 (gL tV l a) (gL tV l c) (gL tV l k)).1 else out) (ha4 (ga5 (gL tV l a) (gL tV l c) (gL tV l k)).1)
     else (if hold (ga5 (gL tV l a) (gL tV l c) (gL tV l k)).1 l then hb8 out (ga5 (gL tV l a) (gL tV l c) (gL tV l k)).1 else out))
  else out
noncomputable def F2 (l:List V3) (a:Nat) (out:List Pln) (c:Nat):List Pln:=(List.range c).foldl (jb7 l a c) out
noncomputable def F1 (l:List V3) (out:List Pln) (a:Nat):List Pln:=(List.range a).foldl (F2 l a) out
noncomputable def F0 (l:List V3):List Pln:=(List.range l.length).foldl (F1 l) []
theorem Kb1 (x:List Pln) (y:Pln):phP (hb8 x y)=1:=by
  cases h:hb8 x y with
  | nil=>exact absurd h (ke3 _ _)
  | cons _ _=>rfl
theorem jc0 (l:List V3) (a c:Nat) (out:List Pln) (k:Nat):(jb7 l a c out k).length≤out.length+2:=by
  unfold jb7
  split
  · split
    · refine Nat.le_trans (qb4 _ _) ?_
      split
      · have:=qb4 (ga5 (gL tV l a) (gL tV l c) (gL tV l k)).1 out;omega
      · omega
    · split
      · have:=qb4 (ga5 (gL tV l a) (gL tV l c) (gL tV l k)).1 out;omega
      · omega
  · omega
theorem C0 {τ:Type} (f:τ→Nat→τ) (a:τ) (n:Nat):(List.range (n+1)).foldl f a=f ((List.range n).foldl f a) n:=by
  rw[List.range_succ,List.foldl_append];rfl
theorem bc6 {f:List Pln→Nat→List Pln} {m:Nat} (h:∀ o k,(f o k).length≤o.length+m) (o:List Pln):∀ n,((List.range n).foldl f o).length≤o.length+m*n
  | 0=>Nat.le_refl _
  | n+1=>by
    rw[C0]
    have h1:=h ((List.range n).foldl f o) n
    have h2:=bc6 h o n
    rw[Nat.mul_succ]
    omega
theorem He6 (l : List V3) (hl : l.length ≤ 48) (a c : Nat) (ha : a < l.length) (hc : c < a) (out : List Pln) (ho : out.length ≤ 900000) :
    ∃ j,lp (R2 ⟨l,(a:Int),(c:Int)⟩) ⟨phP out,0,out⟩=(phP (F2 l a out c)+1,⟨phP (F2 l a out c),((j:Nat):Int),F2 l a out c⟩):=by
  have key:=ja1 (step:=R2 ⟨l,(a:Int),(c:Int)⟩) (mk:=fun j (o:List Pln)=>(⟨phP o,(j:Int),o⟩:s7)) c (fun j o=>j≤c∧o=(List.range j).foldl (jb7 l a c) out) (fun t s=>t=phP (F2 l a out c)+1∧∃ j:Nat,s=⟨phP (F2 l a out c),(j:Int),F2 l a out c⟩) (by omega)
    (fun j o hj hi=>by
      obtain⟨_,hi⟩:=hi
      have hlen:o.length≤990000:=by
        rw[hi]
        have:=bc6 (jc0 l a c) out j
        omega
      have hn:=o2 hj (show c≤4611686018427387904 by omega)
      have hh:∀ p,da5 p l=true:=fun p=>Dd5 p l (by omega)
      have hp:∀ p,pa0 p l=hold p l:=fun p=>ke7 p l (by omega)
      have hg1:∀ y,ha9 o y=true:=fun y=>Dd6 o y (by omega)
      have hq1:∀ y,D8 o y=hb8 o y:=fun y=>Zd0 o y (by omega)
      have hg2:∀ y z,ha9 (hb8 o y) z=true:=fun y z=>Dd6 _ z (by have:=qb4 y o;omega)
      have hq2:∀ y z,D8 (hb8 o y) z=hb8 (hb8 o y) z:=fun y z=>Zd0 _ z (by have:=qb4 y o;omega)
      have hfl:Ma9 (ga5 (gL tV l a) (gL tV l c) (gL tV l j)).1=ha4 (ga5 (gL tV l a) (gL tV l c) (gL tV l j)).1:=Yd4 (ke5 _ _ _)
      have fin : ∀ {s : s7}, s = ⟨phP (jb7 l a c o j), ((j + 1 : Nat) : Int), jb7 l a c o j⟩ → Nx (.next s) (fun t => t = phP (F2 l a out c) + 1 ∧ ∃ j' : Nat, (⟨phP o, (j : Int), o⟩ : s7) = ⟨phP (F2 l a out c), (j' : Int), F2 l a out c⟩)
          (fun s=>∃ o',s=(⟨phP o',((j+1:Nat):Int),o'⟩:s7)∧(j+1≤c∧o'=(List.range (j+1)).foldl (jb7 l a c) out)):=fun {s} hs =>
        .nx ⟨_,hs,by omega,by rw[C0,← hi]⟩
      clear hi
      unfold jb7 at fin
      generalize hT:ga5 (gL tV l a) (gL tV l c) (gL tV l j)=T at *
      have hb1:inB (a:Int) l.length=true:=e8 ha
      have hb2:inB (c:Int) l.length=true:=e8 (by omega)
      have hb3:inB (j:Int) l.length=true:=e8 (by omega)
      cases o with
      | nil =>
        show Nx (F5 Stp.next Stp.exit Stp.fail _ _) _ _
        simp only[F5,qb0,Fa2,Int.toNat_natCast,l8,L0,hT,hh,hp,hfl,hg1,hq1,hg2,hq2,hn,hb1,hb2,hb3]
        rw[btD (l0 hj)]
        cases h2:T.2 with
        | false=>exact fin (by rw[h2];rfl)
        | true =>
          cases h3:hold T.1 l with
          | false =>
            cases h4:hold (ha4 T.1) l with
            | false=>exact fin (by rw[h2,h3,h4];rfl)
            | true=>exact fin (by rw[h2,h3,h4];simp only[if_true,if_false,Kb1,Bool.false_eq_true])
          | true =>
            cases h4:hold (ha4 T.1) l with
            | false=>exact fin (by rw[h2,h3,h4];simp only[if_true,if_false,Kb1,Bool.false_eq_true])
            | true=>exact fin (by rw[h2,h3,h4];simp only[if_true,Kb1])
      | cons q o =>
        show Nx (F6 Stp.next Stp.exit Stp.fail _ _) _ _
        simp only[F6,qb0,Fa2,Int.toNat_natCast,l8,L0,hT,hh,hp,hfl,hg1,hq1,hg2,hq2,hn,hb1,hb2,hb3]
        rw[btD (l0 hj)]
        cases h2:T.2 with
        | false=>exact fin (by rw[h2];rfl)
        | true =>
          cases h3:hold T.1 l with
          | false =>
            cases h4:hold (ha4 T.1) l with
            | false=>exact fin (by rw[h2,h3,h4];rfl)
            | true=>exact fin (by rw[h2,h3,h4];simp only[if_true,if_false,Kb1,Bool.false_eq_true])
          | true =>
            cases h4:hold (ha4 T.1) l with
            | false=>exact fin (by rw[h2,h3,h4];simp only[if_true,if_false,Kb1,Bool.false_eq_true])
            | true=>exact fin (by rw[h2,h3,h4];simp only[if_true,Kb1]))
    (fun j o hj hi=>by
      obtain⟨h1,hi⟩:=hi
      have e:j=c:=by omega
      subst e
      have hF:o=F2 l a out j:=hi
      rw[← hF]
      cases o with
      | nil =>
        refine⟨1,?_,rfl,j,rfl⟩
        show F5 Stp.next Stp.exit Stp.fail _ _=_
        simp only[F5]
        rw[bfD (y5 (Nat.lt_irrefl _))]
      | cons q o =>
        refine⟨2,?_,rfl,j,rfl⟩
        show F6 Stp.next Stp.exit Stp.fail _ _=_
        simp only[F6]
        rw[bfD (y5 (Nat.lt_irrefl _))]) 0 out ⟨Nat.zero_le _,rfl⟩
  obtain⟨t,s,h1,rfl,j,rfl⟩:=key
  exact⟨j,h1⟩
theorem He7 (l : List V3) (hl : l.length ≤ 48) (a : Nat) (ha : a < l.length) (out : List Pln) (ho : out.length ≤ 800000) :
    ∃ j,lp (R3 ⟨(a:Int)⟩) ⟨phP out,l,0,out⟩=(phP (F1 l out a)+1,⟨phP (F1 l out a),l,((j:Nat):Int),F1 l out a⟩):=by
  have hL2:∀ o k,k≤48→(F2 l a o k).length≤o.length+96:=fun o k hk=>by have:=bc6 (jc0 l a k) o k;show ((List.range k).foldl (jb7 l a k) o).length≤_;omega
  have hpre:∀ j,j≤a→((List.range j).foldl (F2 l a) out).length≤out.length+96*j:=by
    intro j
    induction j with
    | zero=>intro _;exact Nat.le_refl _
    | succ j ih =>
      intro h
      rw[C0]
      have:=ih (by omega)
      have:=hL2 ((List.range j).foldl (F2 l a) out) j (by omega)
      omega
  have key:=ja1 (step:=R3 ⟨(a:Int)⟩) (mk:=fun j (o:List Pln)=>(⟨phP o,l,(j:Int),o⟩:s8)) a (fun j o=>j≤a∧o=(List.range j).foldl (F2 l a) out) (fun t s=>t=phP (F1 l out a)+1∧∃ j:Nat,s=⟨phP (F1 l out a),l,(j:Int),F1 l out a⟩) (by omega)
    (fun j o hj hi=>by
      obtain⟨hja,hi⟩:=hi
      have hlen:o.length≤900000:=by rw[hi];have:=hpre j hja;omega
      have hn:=o2 hj (show a≤4611686018427387904 by omega)
      obtain⟨j',e1⟩:=He6 l hl a j ha hj o hlen
      have fin : ∀ {s : s8}, s = ⟨phP (F2 l a o j), l, ((j + 1 : Nat) : Int), F2 l a o j⟩ → Nx (.next s) (fun t => t = phP (F1 l out a) + 1 ∧ ∃ j' : Nat, (⟨phP o, l, (j : Int), o⟩ : s8) = ⟨phP (F1 l out a), l, (j' : Int), F1 l out a⟩)
          (fun s=>∃ o',s=(⟨phP o',l,((j+1:Nat):Int),o'⟩:s8)∧(j+1≤a∧o'=(List.range (j+1)).foldl (F2 l a) out)):=fun {s} hs =>
        .nx ⟨_,hs,by omega,by rw[C0,← hi]⟩
      clear hi
      generalize hF:F2 l a o j=R at *
      cases o with
      | nil =>
        show Nx (F7 Stp.next Stp.exit Stp.fail _ _) _ _
        simp only[F7,l8,l6,hn]
        have e1:lp (R2 ⟨l,(a:Int),(j:Int)⟩) ⟨0,0,[]⟩=_:=e1
        rw[btD (l0 hj),e1]
        cases R with
        | nil=>exact fin rfl
        | cons q R=>exact fin rfl
      | cons q o =>
        show Nx (F8 Stp.next Stp.exit Stp.fail _ _) _ _
        simp only[F8,l8,l6,hn]
        have e1:lp (R2 ⟨l,(a:Int),(j:Int)⟩) ⟨1,0,q::o⟩=_:=e1
        rw[btD (l0 hj),e1]
        cases R with
        | nil=>exact fin rfl
        | cons q R=>exact fin rfl)
    (fun j o hj hi=>by
      obtain⟨h1,hi⟩:=hi
      have e:j=a:=by omega
      subst e
      have hF:o=F1 l out j:=hi
      rw[← hF]
      cases o with
      | nil =>
        refine⟨1,?_,rfl,j,rfl⟩
        show F7 Stp.next Stp.exit Stp.fail _ _=_
        simp only[F7]
        rw[bfD (y5 (Nat.lt_irrefl _))]
      | cons q o =>
        refine⟨2,?_,rfl,j,rfl⟩
        show F8 Stp.next Stp.exit Stp.fail _ _=_
        simp only[F8]
        rw[bfD (y5 (Nat.lt_irrefl _))]) 0 out ⟨Nat.zero_le _,rfl⟩
  obtain⟨t,s,h1,rfl,j,rfl⟩:=key
  exact⟨j,h1⟩
theorem He8 (l : List V3) (hl : l.length ≤ 48) :
    ∃ j,lp (na3 ⟨⟩) ⟨0,l,0,[]⟩=(phP (F0 l)+1,⟨phP (F0 l),l,((j:Nat):Int),F0 l⟩):=by
  have hL2:∀ a o k,k≤48→(F2 l a o k).length≤o.length+96:=fun a o k hk=>by have:=bc6 (jc0 l a k) o k;show ((List.range k).foldl (jb7 l a k) o).length≤_;omega
  have hL1:∀ o a,a≤48→∀ j,j≤a→((List.range j).foldl (F2 l a) o).length≤o.length+96*j:=by
    intro o a ha j
    induction j with
    | zero=>intro _;exact Nat.le_refl _
    | succ j ih =>
      intro h
      rw[C0]
      have:=ih (by omega)
      have:=hL2 a ((List.range j).foldl (F2 l a) o) j (by omega)
      omega
  have hpre:∀ j,j≤l.length→((List.range j).foldl (F1 l) []).length≤5000*j:=by
    intro j
    induction j with
    | zero=>intro _;exact Nat.le_refl _
    | succ j ih =>
      intro h
      rw[C0]
      have:=ih (by omega)
      have:(F1 l ((List.range j).foldl (F1 l) []) j).length≤_:=hL1 ((List.range j).foldl (F1 l) []) j (by omega) j (Nat.le_refl _)
      omega
  have key:=ja1 (step:=na3 ⟨⟩) (mk:=fun j (o:List Pln)=>(⟨phP o,l,(j:Int),o⟩:w8)) l.length (fun j o=>j≤l.length∧o=(List.range j).foldl (F1 l) []) (fun t s=>t=phP (F0 l)+1∧∃ j:Nat,s=⟨phP (F0 l),l,(j:Int),F0 l⟩) (by omega)
    (fun j o hj hi=>by
      obtain⟨hja,hi⟩:=hi
      have hlen:o.length≤800000:=by rw[hi];have:=hpre j hja;omega
      have hn:=o2 hj (show l.length≤4611686018427387904 by omega)
      obtain⟨j',e1⟩:=He7 l hl j hj o hlen
      have fin : ∀ {s : w8}, s = ⟨phP (F1 l o j), l, ((j + 1 : Nat) : Int), F1 l o j⟩ → Nx (.next s) (fun t => t = phP (F0 l) + 1 ∧ ∃ j' : Nat, (⟨phP o, l, (j : Int), o⟩ : w8) = ⟨phP (F0 l), l, (j' : Int), F0 l⟩)
          (fun s=>∃ o',s=(⟨phP o',l,((j+1:Nat):Int),o'⟩:w8)∧(j+1≤l.length∧o'=(List.range (j+1)).foldl (F1 l) [])):=fun {s} hs =>
        .nx ⟨_,hs,by omega,by rw[C0,← hi]⟩
      clear hi
      generalize hF:F1 l o j=R at *
      cases o with
      | nil =>
        show Nx (F9 Stp.next Stp.exit Stp.fail ⟨⟩ _) _ _
        simp only[F9,l8,l6,hn]
        have e1:lp (R3 ⟨(j:Int)⟩) ⟨0,l,0,[]⟩=_:=e1
        rw[btD (l0 hj),e1]
        cases R with
        | nil=>exact fin rfl
        | cons q R=>exact fin rfl
      | cons q o =>
        show Nx (G0 Stp.next Stp.exit Stp.fail ⟨⟩ _) _ _
        simp only[G0,l8,l6,hn]
        have e1:lp (R3 ⟨(j:Int)⟩) ⟨1,l,0,q::o⟩=_:=e1
        rw[btD (l0 hj),e1]
        cases R with
        | nil=>exact fin rfl
        | cons q R=>exact fin rfl)
    (fun j o hj hi=>by
      obtain⟨h1,hi⟩:=hi
      have e:j=l.length:=by omega
      subst e
      have hF:o=F0 l:=hi
      rw[← hF]
      cases o with
      | nil =>
        refine⟨1,?_,rfl,_,rfl⟩
        show F9 Stp.next Stp.exit Stp.fail ⟨⟩ _=_
        simp only[F9]
        rw[bfD (y5 (Nat.lt_irrefl _))]
      | cons q o =>
        refine⟨2,?_,rfl,_,rfl⟩
        show G0 Stp.next Stp.exit Stp.fail ⟨⟩ _=_
        simp only[G0]
        rw[bfD (y5 (Nat.lt_irrefl _))]) 0 [] ⟨Nat.zero_le _,rfl⟩
  obtain⟨t,s,h1,rfl,j,rfl⟩:=key
  exact⟨j,h1⟩
noncomputable def jc1 (l:List V3):List Pln×Int:=if ic9 l=0 then (F0 l,0) else ([],ic9 l)
theorem Zd1 (l:List V3) (hl:l.length≤48):Rd (two (r1L tP) r1I) (wa1 l) (fun r=>r=jc1 l):=by
  obtain⟨j,e1⟩:=He8 l hl
  have hb:l.length≤1000000000:=by omega
  unfold wa1 jc1
  simp only[l8,l6,L0,Qc6 l hb,Ld1 l hb,n5]
  rw[e1]
  by_cases h0:ic9 l=0
  · rw[if_pos h0,show (ic9 l != 0)=false by rw[h0];rfl,ea1]
    cases hF:F0 l with
    | nil=>exact⟨_,([],0),rfl,rfl,rfl⟩
    | cons q o=>exact⟨_,(q::o,0),rfl,Vd9 (q::o) 0,rfl⟩
  · rw[if_neg h0,show (ic9 l != 0)=true by simpa using h0,n5]
    exact⟨_,([],ic9 l),rfl,rfl,rfl⟩
theorem Zd2 (l:List V3) (hl:l.length≤48):Sa1 l=jc1 l:=(Zd1 l hl).p
end Go.Ev.Ce
namespace Go.Ev.Ce
open Go Go.Ev Go.Ev.L Go.Proofs
theorem pd7 {c:List Pln} (hf:ful c=true):(chk c==0)=true∧Bds (c++ws)∧ad9 (c++ws):=by
 unfold ful at hf
 rw[Bool.and_eq_true] at hf
 have hb:=(Oa5 hf.1).1
 exact⟨hf.1,hb,(qb3 hb (wb4 c) (by simp[ws])).1 hf.2⟩
def ipt (v:V3):Pt:=⟨v.x,v.y,v.z,1⟩
theorem xe1 {v:V3} (h:inV v=true):∀ p∈ws,0≤rmZ p (ipt v):=by
 obtain⟨⟨a1,a2⟩,⟨a3,a4⟩,a5,a6⟩:=(ac4 v).1 h
 intro p hp
 simp only[ws,List.mem_cons,List.not_mem_nil,or_false] at hp
 rcases hp with rfl | rfl | rfl | rfl | rfl | rfl<;>simp only[rmZ,ipt]<;>omega
theorem Ed6 {c:List Pln} {x:Pt} (hb:∀ p∈c,Bd p) (hx:Okx x):inn c x=true↔∀ p∈c,0≤rmZ p x:=by
 unfold inn
 rw[List.all_eq_true]
 refine⟨fun h p hp=>?_,fun h p hp=>?_⟩
 ·have:=h p hp
  rw[bd0 (hb p hp) hx] at this
  simpa using this
 ·rw[bd0 (hb p hp) hx]
  simpa using h p hp
end Go.Ev.Ce
namespace Go.Ev.Ce
open Go Go.Ev Go.Ev.L Go.Proofs
theorem yd3 {p:Pln} (h:okp p=true):g3 p.n=1:=by
 unfold okp at h
 simp only[Bool.and_eq_true,beq_iff_eq] at h
 exact h.2.1
theorem Ed7 {p:Pln} (h:okp p=true):p.n≠⟨0,0,0⟩:=fun e=>by
 have:=yd3 h
 rw[e] at this
 revert this
 decide
theorem Zd3 (c:Int) (n:V3):g3 ⟨c*n.x,c*n.y,c*n.z⟩=c.natAbs*g3 n:=by
 unfold g3
 simp only[Int.natAbs_mul,Nat.gcd_mul_left]
 rw[Int.natCast_mul]
theorem Zd4 {m n:V3} (hm:g3 m=1) (hn:g3 n=1) (h:i6 m n=⟨0,0,0⟩):n=m∨n=neg m:=by
 unfold i6 at h
 simp only[V3.mk.injEq] at h
 obtain⟨c1,c2,c3⟩:=h
 have k:∀ {c d:Int},c*m.x=d*n.x→c*m.y=d*n.y→c*m.z=d*n.z→c.natAbs=d.natAbs:=fun {c d} e1 e2 e3=>by
  have a1:=Zd3 c m
  have a2:=Zd3 d n
  rw[e1,e2,e3,a2,hm,hn] at a1
  omega
 have ax:=k (c:=n.x) (d:=m.x) (by grind) (by grind) (by grind)
 have ay:=k (c:=n.y) (d:=m.y) (by grind) (by grind) (by grind)
 have az:=k (c:=n.z) (d:=m.z) (by grind) (by grind) (by grind)
 have sg:∀ {a c:Int},a.natAbs=c.natAbs→a=c∨a=-c:=fun h=>by omega
 -- the sign of one component that is not zero is that of all
 have go:∀ {s u t v:Int},u≠0→s*v=u*t→s=u→t=v:=fun {s u t v} hu h e=>by
  subst e
  exact (Int.eq_of_mul_eq_mul_left hu h).symm
 have gn:∀ {s u t v:Int},u≠0→s*v=u*t→s=-u→t=-v:=fun {s u t v} hu h e=>by
  subst e
  have:u*t=u*(-v):=by rw[← h];grind
  exact Int.eq_of_mul_eq_mul_left hu this
 by_cases hx:m.x=0
 ·have hx':n.x=0:=by omega
  by_cases hy:m.y=0
  ·have hy':n.y=0:=by omega
   rcases sg az with e | e
   ·exact .inl (V3.ext' (by omega) (by omega) e)
   ·exact .inr (V3.ext' (by show n.x=-m.x;omega) (by show n.y=-m.y;omega) e)
  ·rcases sg ay with e | e
   ·exact .inl (V3.ext' (by omega) e (go hy (by grind) e))
   ·exact .inr (V3.ext' (by show n.x=-m.x;omega) e (gn hy (by grind) e))
 ·rcases sg ax with e | e
  ·exact .inl (V3.ext' e (go hx (by grind) e) (go hx (by grind) e))
  ·exact .inr (V3.ext' e (gn hx (by grind) e) (gn hx (by grind) e))
structure Qe7 (l:List V3):Prop where
 h:∃ a c k v,a∈l∧c∈l∧k∈l∧v∈l∧dot (i6 (sub c a) (sub k a)) (sub v a)≠0
theorem gLm {l:List V3} {j:Nat} (h:j < l.length):gL tV l j∈l:=wc0 tV h
theorem xe2 {l:List V3} (hf:nf0 l=true):Qe7 l:=by
 unfold nf0 at hf
 obtain⟨a,ha,hf⟩:=List.any_eq_true.1 hf
 unfold nf1 at hf
 obtain⟨c,hc,hf⟩:=List.any_eq_true.1 hf
 unfold nf2 at hf
 obtain⟨k,hk,hf⟩:=List.any_eq_true.1 hf
 rw[List.mem_range] at ha hc hk
 unfold nf at hf
 rw[Bool.and_eq_true] at hf
 obtain⟨h1,h2⟩:=hf
 obtain⟨⟨i1,i2,i3⟩,⟨ok,⟨g,hg,e1,e2,e3⟩,o⟩⟩:=Ya6 h1
 unfold Yd5 at h2
 obtain⟨v,hv,h2⟩:=List.any_eq_true.1 h2
 generalize (ga5 (gL tV l a) (gL tV l c) (gL tV l k)).1=p at *
 refine⟨_,_,_,v,gLm ha,gLm (show c < l.length by omega),gLm (show k < l.length by omega),hv,fun h0=>?_⟩
 have hs:yb4 p v≠0:=by simpa using h2
 have hiv:inV v=true:=by
  cases hi:inV v with
  | true=>rfl
  | false=>exact absurd (by unfold yb4;rw[ok,hi];rfl) hs
 apply hs
 rw[Ld0 ok hiv,o]
 have:g*(dot p.n v - dot p.n (gL tV l a))=dot (i6 (sub (gL tV l c) (gL tV l a)) (sub (gL tV l k) (gL tV l a))) (sub v (gL tV l a)):=by
  unfold dot
  rw[← e1,← e2,← e3]
  unfold sub
  grind
 rw[h0] at this
 have:=(Int.mul_eq_zero.1 this).resolve_left (by omega)
 omega
theorem pd8 {a c k v n:V3} (hd:dot (i6 (sub c a) (sub k a)) (sub v a)≠0) (hn:n≠⟨0,0,0⟩) (h1:dot n c=dot n a) (h2:dot n k=dot n a) (h3:dot n v=dot n a):False:=by
 generalize hD:dot (i6 (sub c a) (sub k a)) (sub v a)=D at *
 have q1:dot n (sub c a)=0:=by unfold dot sub at *;grind
 have q2:dot n (sub k a)=0:=by unfold dot sub at *;grind
 have q3:dot n (sub v a)=0:=by unfold dot sub at *;grind
 generalize sub c a=p at *
 generalize sub k a=q at *
 generalize sub v a=r at *
 have i1:D*n.x=(i6 q r).x*dot n p+(i6 r p).x*dot n q+(i6 p q).x*dot n r:=by rw[← hD];simp only[dot,i6];grind
 have i2:D*n.y=(i6 q r).y*dot n p+(i6 r p).y*dot n q+(i6 p q).y*dot n r:=by rw[← hD];simp only[dot,i6];grind
 have i3:D*n.z=(i6 q r).z*dot n p+(i6 r p).z*dot n q+(i6 p q).z*dot n r:=by rw[← hD];simp only[dot,i6];grind
 rw[q1,q2,q3] at i1 i2 i3
 have z:∀ {x:Int},D*x=0→x=0:=fun h=>(Int.mul_eq_zero.1 h).resolve_left hd
 exact hn (V3.ext' (z (by omega)) (z (by omega)) (z (by omega)))
theorem Ec7 {p:Pln} {l:List V3} (hp:okp p=true) (hl:l.all inV=true):hold p l=true↔∀ v∈l,dot p.n v≤p.b:=by
 unfold hold
 rw[Bool.not_eq_true',← Bool.not_eq_true,List.any_eq_true]
 constructor
 ·intro h v hv
  have h1:¬ yb4 p v > 0:=fun h'=>h ⟨v,hv,by simpa using h'⟩
  rw[pd6 hp (List.all_eq_true.1 hl v hv)] at h1
  omega
 ·rintro h ⟨v,hv,h1⟩
  have h1:yb4 p v > 0:=by simpa using h1
  rw[pd6 hp (List.all_eq_true.1 hl v hv)] at h1
  have:=h v hv
  omega
structure Fct (l:List V3) (p:Pln):Prop where
 ok:okp p=true
 hd:hold p l=true
theorem Ld2 (p:Pln):ha4 (ha4 p)=p:=by
 unfold ha4
 simp only[Int.neg_neg]
theorem Zd5 (p:Pln) (v:V3):dot (ha4 p).n v=-dot p.n v:=by unfold dot ha4;grind
theorem Zd6 {l:List V3} (hf:nf0 l=true) {p:Pln} (hp:okp p=true):∃ v∈l,dot p.n v≠p.b:=by
 obtain⟨a,c,k,v,ha,hc,hk,hv,hd⟩:=xe2 hf
 by_cases h1:dot p.n a=p.b
 ·by_cases h2:dot p.n c=p.b
  ·by_cases h3:dot p.n k=p.b
   ·by_cases h4:dot p.n v=p.b
    ·exact (pd8 hd (Ed7 hp) (h2.trans h1.symm) (h3.trans h1.symm) (h4.trans h1.symm)).elim
    ·exact⟨v,hv,h4⟩
   ·exact⟨k,hk,h3⟩
  ·exact⟨c,hc,h2⟩
 ·exact⟨a,ha,h1⟩
theorem Ec8 {l:List V3} (hl:l.all inV=true) (hf:nf0 l=true) {u w x x':V3} (hx:x∈l) (hx':x'∈l) {p p':Pln} (h:Thr u w x p) (h':Thr u w x' p') (hh:hold p l=true) (hh':hold p' l=true):p=p':=by
 obtain⟨ok,⟨g,hg,e1,e2,e3⟩,o⟩:=h
 obtain⟨ok',⟨g',hg',f1,f2,f3⟩,o'⟩:=h'
 have b1:=(Ec7 ok hl).1 hh
 have b2:=(Ec7 ok' hl).1 hh'
 have k1:=b1 x' hx'
 have k2:=b2 x hx
 have d1:g*(dot p.n x' - dot p.n u)=dot (i6 (sub w u) (sub x u)) (sub x' u):=by
  unfold dot;rw[← e1,← e2,← e3];unfold sub;grind
 have d2:g'*(dot p'.n x - dot p'.n u)=-dot (i6 (sub w u) (sub x u)) (sub x' u):=by
  have:g'*(dot p'.n x - dot p'.n u)=dot (i6 (sub w u) (sub x' u)) (sub x u):=by
   unfold dot;rw[← f1,← f2,← f3];unfold sub;grind
  rw[this];simp only[dot,i6];grind
 have m1:g*(dot p.n x' - dot p.n u)≤0:=Int.mul_nonpos_of_nonneg_of_nonpos (by omega) (by omega)
 have m2:g'*(dot p'.n x - dot p'.n u)≤0:=Int.mul_nonpos_of_nonneg_of_nonpos (by omega) (by omega)
 have hD:dot (i6 (sub w u) (sub x u)) (sub x' u)=0:=by omega
 have hc:i6 p.n p'.n=⟨0,0,0⟩:=by
  generalize sub w u=d at *
  generalize sub x u=y at *
  generalize sub x' u=y' at *
  have c1:g*g'*(i6 p.n p'.n).x=d.x*dot (i6 d y) y':=by
   have:g*g'*(i6 p.n p'.n).x=(g*p.n.y)*(g'*p'.n.z) - (g*p.n.z)*(g'*p'.n.y):=by simp only[i6];grind
   rw[this,e2,e3,f2,f3];simp only[dot,i6];grind
  have c2:g*g'*(i6 p.n p'.n).y=d.y*dot (i6 d y) y':=by
   have:g*g'*(i6 p.n p'.n).y=(g*p.n.z)*(g'*p'.n.x) - (g*p.n.x)*(g'*p'.n.z):=by simp only[i6];grind
   rw[this,e1,e3,f1,f3];simp only[dot,i6];grind
  have c3:g*g'*(i6 p.n p'.n).z=d.z*dot (i6 d y) y':=by
   have:g*g'*(i6 p.n p'.n).z=(g*p.n.x)*(g'*p'.n.y) - (g*p.n.y)*(g'*p'.n.x):=by simp only[i6];grind
   rw[this,e1,e2,f1,f2];simp only[dot,i6];grind
  rw[hD,Int.mul_zero] at c1 c2 c3
  have hgg:g*g'≠0:=Int.ne_of_gt (Int.mul_pos hg hg')
  exact V3.ext' ((Int.mul_eq_zero.1 c1).resolve_left hgg) ((Int.mul_eq_zero.1 c2).resolve_left hgg) ((Int.mul_eq_zero.1 c3).resolve_left hgg)
 rcases Zd4 (yd3 ok) (yd3 ok') hc with e | e
 ·cases p with | mk n b=>cases p' with | mk n' b' =>
  simp only at e o o'
  subst e
  rw[o,o']
 ·exfalso
  obtain⟨v,hv,hne⟩:=Zd6 hf ok
  have q1:=b1 v hv
  have q2:=b2 v hv
  rw[o',e] at q2
  have s:∀ z:V3,dot (neg p.n) z=-dot p.n z:=fun z=>by unfold dot neg;grind
  rw[s,s] at q2
  omega
theorem Ld3 (l : List V3) (a c k : Nat) (out : List Pln) (p : Pln) : p ∈ jb7 l a c out k ↔ p ∈ out ∨ ((ga5 (gL tV l a) (gL tV l c) (gL tV l k)).2 = true ∧
  ((p=(ga5 (gL tV l a) (gL tV l c) (gL tV l k)).1∧hold p l=true)∨(p=ha4 (ga5 (gL tV l a) (gL tV l c) (gL tV l k)).1∧hold p l=true))):=by
 unfold jb7
 generalize ga5 (gL tV l a) (gL tV l c) (gL tV l k)=T
 cases h2:T.2 with
 | false=>simp
 | true =>
  simp only[if_true]
  cases h4:hold (ha4 T.1) l with
  | false =>
   simp only[Bool.false_eq_true,if_false]
   cases h3:hold T.1 l with
   | false =>
    simp only[Bool.false_eq_true,if_false]
    constructor
    ·exact fun h=>.inl h
    ·rintro (h | ⟨_,⟨rfl,h⟩ | ⟨rfl,h⟩⟩)
     ·exact h
     ·rw[h3] at h;cases h
     ·rw[h4] at h;cases h
   | true =>
    simp only[if_true,qb2]
    constructor
    ·rintro (rfl | h)
     ·exact .inr ⟨trivial,.inl ⟨rfl,h3⟩⟩
     ·exact .inl h
    ·rintro (h | ⟨_,⟨rfl,h⟩ | ⟨rfl,h⟩⟩)
     ·exact .inr h
     ·exact .inl rfl
     ·rw[h4] at h;cases h
  | true =>
   simp only[if_true,qb2]
   cases h3:hold T.1 l with
   | false =>
    simp only[Bool.false_eq_true,if_false]
    constructor
    ·rintro (rfl | h)
     ·exact .inr ⟨trivial,.inr ⟨rfl,h4⟩⟩
     ·exact .inl h
    ·rintro (h | ⟨_,⟨rfl,h⟩ | ⟨rfl,h⟩⟩)
     ·exact .inr h
     ·rw[h3] at h;cases h
     ·exact .inl rfl
   | true =>
    simp only[if_true,qb2]
    constructor
    ·rintro (rfl | rfl | h)
     ·exact .inr ⟨trivial,.inr ⟨rfl,h4⟩⟩
     ·exact .inr ⟨trivial,.inl ⟨rfl,h3⟩⟩
     ·exact .inl h
    ·rintro (h | ⟨_,⟨rfl,h⟩ | ⟨rfl,h⟩⟩)
     ·exact .inr (.inr h)
     ·exact .inr (.inl rfl)
     ·exact .inl rfl
theorem bc7 {f:List Pln→Nat→List Pln} {Q:Nat→Pln→Prop} (h:∀ o k p,p∈f o k↔p∈o∨Q k p) (o:List Pln) (p:Pln):∀ n,p∈(List.range n).foldl f o↔p∈o∨∃ k,k < n∧Q k p
 | 0=>by simp
 | n+1=>by
  rw[C0,h,bc7 h o p n]
  constructor
  ·rintro ((h | ⟨k,hk,h⟩) | h)
   ·exact .inl h
   ·exact .inr ⟨k,by omega,h⟩
   ·exact .inr ⟨n,by omega,h⟩
  ·rintro (h | ⟨k,hk,h⟩)
   ·exact .inl (.inl h)
   ·by_cases e:k=n
    ·subst e;exact .inr h
    ·exact .inl (.inr ⟨k,by omega,h⟩)
def Fq (l : List V3) (a c k : Nat) (p : Pln) : Prop := (ga5 (gL tV l a) (gL tV l c) (gL tV l k)).2 = true ∧
  ((p=(ga5 (gL tV l a) (gL tV l c) (gL tV l k)).1∧hold p l=true)∨(p=ha4 (ga5 (gL tV l a) (gL tV l c) (gL tV l k)).1∧hold p l=true))
theorem Zd7 (l:List V3) (a c:Nat) (out:List Pln) (p:Pln):p∈F2 l a out c↔p∈out∨∃ k,k < c∧Fq l a c k p:=bc7 (fun o k p=>Ld3 l a c k o p) out p c
theorem xe3 (l:List V3) (a:Nat) (out:List Pln) (p:Pln):p∈F1 l out a↔p∈out∨∃ c,c < a∧∃ k,k < c∧Fq l a c k p:=bc7 (fun o c p=>Zd7 l a c o p) out p a
theorem xe4 (l:List V3) (p:Pln):p∈F0 l↔∃ a,a < l.length∧∃ c,c < a∧∃ k,k < c∧Fq l a c k p:=by
 have:=bc7 (fun o a p=>xe3 l a o p) [] p l.length
 simpa [F0] using this
theorem Ld4 {l:List V3} {a c:Nat} {out:List Pln} {k:Nat} (h:eb7 out):eb7 (jb7 l a c out k):=by
 unfold jb7
 split
 ·split
  ·refine bc4 _ ?_
   split
   ·exact bc4 _ h
   ·exact h
  ·split
   ·exact bc4 _ h
   ·exact h
 ·exact h
theorem Gb7 {f:List Pln→Nat→List Pln} (h:∀ o k,eb7 o→eb7 (f o k)) {o:List Pln} (ho:eb7 o):∀ n,eb7 ((List.range n).foldl f o)
 | 0=>ho
 | n+1=>by rw[C0];exact h _ _ (Gb7 h ho n)
theorem yd4 {l:List V3} {a c:Nat} {out:List Pln} (h:eb7 out):eb7 (F2 l a out c):=Gb7 (fun _ _ h=>Ld4 h) h c
theorem xe5 {l:List V3} {a:Nat} {out:List Pln} (h:eb7 out):eb7 (F1 l out a):=Gb7 (fun _ _ h=>yd4 h) h a
theorem Ld5 {l:List Pln} (h:eb7 l):l.Nodup:=List.Pairwise.imp (fun {x y} (h:LtP x y) (e:x=y)=>ke0 y (e ▸ h)) h
theorem xe6 {l:List V3} (hl:l.all inV=true) (hf:nf0 l=true) {a c:Nat} (ha:a < l.length) (hc:c < a) {out:List Pln} (ho:eb7 out):(F2 l a out c).length≤out.length+2:=by
 have hk:∀ k,k < c→gL tV l k∈l:=fun k hk=>gLm (show k < l.length by omega)
 -- the two that there may be
 have one:∃ P,∀ k,k < c→∀ p,(ga5 (gL tV l a) (gL tV l c) (gL tV l k)).2=true→p=(ga5 (gL tV l a) (gL tV l c) (gL tV l k)).1→hold p l=true→p=P:=by
  by_cases h:∃ k,k < c∧(ga5 (gL tV l a) (gL tV l c) (gL tV l k)).2=true∧hold (ga5 (gL tV l a) (gL tV l c) (gL tV l k)).1 l=true
  ·obtain⟨k0,h1,h2,h3⟩:=h
   refine⟨(ga5 (gL tV l a) (gL tV l c) (gL tV l k0)).1,fun k hk1 p h4 h5 h6=>?_⟩
   subst h5
   exact Ec8 hl hf (hk k hk1) (hk k0 h1) (Ya6 h4).2 (Ya6 h2).2 h6 h3
  ·exact⟨⟨⟨0,0,0⟩,0⟩,fun k hk1 p h4 h5 h6=>(h ⟨k,hk1,h4,h5 ▸ h6⟩).elim⟩
 have two:∃ Q,∀ k,k < c→∀ p,(ga5 (gL tV l a) (gL tV l c) (gL tV l k)).2=true→p=ha4 (ga5 (gL tV l a) (gL tV l c) (gL tV l k)).1→hold p l=true→p=Q:=by
  -- through the same points in the other order
  have sw:∀ {x:V3} {p:Pln},Thr (gL tV l a) (gL tV l c) x p→Thr (gL tV l c) (gL tV l a) x (ha4 p):=fun {x p} h=>by
   obtain⟨ok,⟨g,hg,e1,e2,e3⟩,o⟩:=h
   have on:dot p.n (gL tV l c)=dot p.n (gL tV l a):=by
    have:g*(dot p.n (gL tV l c) - dot p.n (gL tV l a))=0:=by
     have:g*(dot p.n (gL tV l c) - dot p.n (gL tV l a))=dot (i6 (sub (gL tV l c) (gL tV l a)) (sub x (gL tV l a))) (sub (gL tV l c) (gL tV l a)):=by
      unfold dot;rw[← e1,← e2,← e3];unfold sub;grind
     rw[this];simp only[dot,i6];grind
    have:=(Int.mul_eq_zero.1 this).resolve_left (by omega)
    omega
   refine⟨eb8 ok,⟨g,hg,?_,?_,?_⟩,?_⟩
   ·show g*-p.n.x=_
    rw[Int.mul_neg,e1];simp only[i6,sub];grind
   ·show g*-p.n.y=_
    rw[Int.mul_neg,e2];simp only[i6,sub];grind
   ·show g*-p.n.z=_
    rw[Int.mul_neg,e3];simp only[i6,sub];grind
   ·rw[Zd5,on,← o];rfl
  by_cases h:∃ k,k < c∧(ga5 (gL tV l a) (gL tV l c) (gL tV l k)).2=true∧hold (ha4 (ga5 (gL tV l a) (gL tV l c) (gL tV l k)).1) l=true
  ·obtain⟨k0,h1,h2,h3⟩:=h
   refine⟨ha4 (ga5 (gL tV l a) (gL tV l c) (gL tV l k0)).1,fun k hk1 p h4 h5 h6=>?_⟩
   subst h5
   exact Ec8 hl hf (hk k hk1) (hk k0 h1) (sw (Ya6 h4).2) (sw (Ya6 h2).2) h6 h3
  ·exact⟨⟨⟨0,0,0⟩,0⟩,fun k hk1 p h4 h5 h6=>(h ⟨k,hk1,h4,h5 ▸ h6⟩).elim⟩
 obtain⟨P,hP⟩:=one
 obtain⟨Q,hQ⟩:=two
 have hs:F2 l a out c⊆out++[P,Q]:=fun p hp=>by
  rcases (Zd7 l a c out p).1 hp with h | ⟨k,hk1,h1,⟨h2,h3⟩ | ⟨h2,h3⟩⟩
  ·exact List.mem_append_left _ h
  ·rw[hP k hk1 p h1 h2 h3];simp
  ·rw[hQ k hk1 p h1 h2 h3];simp
 have:=List.Nodup.length_le_of_subset (Ld5 (yd4 ho)) hs
 simpa using this
theorem ke8 (l:List V3) (a:Nat) (out:List Pln):F2 l a out 0=out:=rfl
theorem Zd8 {l:List V3} (hl:l.all inV=true) (hf:nf0 l=true) {a:Nat} (ha:a < l.length) {out:List Pln} (ho:eb7 out):∀ n,n≤a→((List.range n).foldl (F2 l a) out).length≤out.length+2*(n - 1)
 | 0,_=>by simp
 | 1,_=>by
  show (F2 l a out 0).length≤_
  rw[ke8];omega
 | n+2,h=>by
  rw[C0]
  have h1:=Zd8 hl hf ha ho (n+1) (by omega)
  have h2:=xe6 hl hf ha (show n+1 < a by omega) (Gb7 (f:=F2 l a) (fun _ _ h=>yd4 h) ho (n+1))
  omega
theorem xe7 {l:List V3} (hl:l.all inV=true) (hf:nf0 l=true) (h8:l.length≤8):(F0 l).length≤42:=by
 have h:∀ n,n≤l.length→((List.range n).foldl (F1 l) []).length≤(n - 1)*(n - 2):=by
  intro n
  induction n with
  | zero=>intro _;exact Nat.le_refl _
  | succ n ih =>
   intro hn
   rw[C0]
   have h1:=ih (by omega)
   have h2:(F1 l ((List.range n).foldl (F1 l) []) n).length≤_:=Zd8 hl hf (show n < l.length by omega) (Gb7 (f:=F1 l) (fun _ _ h=>xe5 h) .nil n) n (Nat.le_refl _)
   match n,hn with
   | 0,_=>simpa using h2
   | 1,_ =>
    have h1:((List.range 1).foldl (F1 l) []).length≤0:=h1
    have h2:(F1 l ((List.range 1).foldl (F1 l) []) 1).length≤((List.range 1).foldl (F1 l) []).length+2*(1 - 1):=h2
    show (F1 l ((List.range 1).foldl (F1 l) []) 1).length≤0
    omega
   | 2,_=>simp at h1 h2 ⊢;omega
   | 3,_=>simp at h1 h2 ⊢;omega
   | 4,_=>simp at h1 h2 ⊢;omega
   | 5,_=>simp at h1 h2 ⊢;omega
   | 6,_=>simp at h1 h2 ⊢;omega
   | 7,_=>simp at h1 h2 ⊢;omega
   | n+8,hn=>omega
 have h1:=h l.length (Nat.le_refl _)
 show ((List.range l.length).foldl (F1 l) []).length≤42
 have:∀ n,n≤8→(n - 1)*(n - 2)≤42:=by decide
 have:=this l.length h8
 omega
theorem Zd9 {l:List V3} {p:Pln} (hp:p∈F0 l):Fct l p:=by
 obtain⟨a,ha,c,hc,k,hk,h1,⟨h2,h3⟩ | ⟨h2,h3⟩⟩:=(xe4 l p).1 hp
 ·exact⟨h2 ▸ (Ya6 h1).2.ok,h3⟩
 ·exact⟨h2 ▸ eb8 (Ya6 h1).2.ok,h3⟩
theorem ke9 {l:List V3} (hl:l.all inV=true) (hf:nf0 l=true):ad9 (F0 l++ws):=by
 obtain⟨a,c,k,v,ha,hc,hk,hv,hd⟩:=xe2 hf
 have hin:=List.all_eq_true.1 hl
 -- a plane on whose yb4 all xe2 lie has their middle within
 have key:∀ p:Pln,p.n≠⟨0,0,0⟩→dot p.n a≤p.b→dot p.n c≤p.b→dot p.n k≤p.b→dot p.n v≤p.b→0 < rmZ p ⟨a.x+c.x+k.x+v.x,a.y+c.y+k.y+v.y,a.z+c.z+k.z+v.z,4⟩:=fun p hn h1 h2 h3 h4=>by
  have e:rmZ p ⟨a.x+c.x+k.x+v.x,a.y+c.y+k.y+v.y,a.z+c.z+k.z+v.z,4⟩=(p.b - dot p.n a)+(p.b - dot p.n c)+(p.b - dot p.n k)+(p.b - dot p.n v):=by simp only[rmZ,dot];grind
  rw[e]
  by_cases q:dot p.n a=p.b∧dot p.n c=p.b∧dot p.n k=p.b∧dot p.n v=p.b
  ·obtain⟨q1,q2,q3,q4⟩:=q
   exact (pd8 hd hn (q2.trans q1.symm) (q3.trans q1.symm) (q4.trans q1.symm)).elim
  ·omega
 refine⟨⟨a.x+c.x+k.x+v.x,a.y+c.y+k.y+v.y,a.z+c.z+k.z+v.z,4⟩,by show (0:Int) < 4;omega,fun p hp=>?_⟩
 rcases List.mem_append.1 hp with h | h
 ·have hF:=Zd9 h
  have hb:=(Ec7 hF.ok hl).1 hF.hd
  exact key p (Ed7 hF.ok) (hb a ha) (hb c hc) (hb k hk) (hb v hv)
 ·have hw : ∀ x ∈ l, dot p.n x ≤ p.b := fun x hx => by
   have:=xe1 (hin x hx) p h
   simp only[rmZ,ipt,dot] at this ⊢
   omega
  refine key p ?_ (hw a ha) (hw c hc) (hw k hk) (hw v hv)
  have h1:∀ q∈ws,okp q=true:=List.all_eq_true.1 (by decide)
  exact Ed7 (h1 p h)
end Go.Ev.Ce
namespace Go.Ev.Ce
open Go Go.Ev Go.Ev.L Go.Proofs
theorem Ld6 {α:Type} {l:List α} {f g:α→Bool} (h:∀ x∈l,f x=g x):l.any f=l.any g:=by
 induction l with
 | nil=>rfl
 | cons a l ih=>rw[List.any_cons,List.any_cons,h a List.mem_cons_self,ih fun x hx=>h x (List.mem_cons_of_mem _ hx)]
theorem Ld7 {α:Type} {l:List α} {f g:α→Bool} (h:∀ x∈l,f x=g x):l.all f=l.all g:=by
 induction l with
 | nil=>rfl
 | cons a l ih=>rw[List.all_cons,List.all_cons,h a List.mem_cons_self,ih fun x hx=>h x (List.mem_cons_of_mem _ hx)]
theorem ae0 (l:List Int):Rd (one r1P) (Da6 l) (fun p=>okp p=true):=by
 unfold Da6
 simp only[l8,l6]
 obtain⟨v1,j1,e1,a1,b1,c1,d1⟩:=Y9 8 l 0 (by omega) (by omega) (by omega) (by omega)
 rw[e1]
 simp only
 obtain⟨v2,j2,e2,a2,b2,c2,d2⟩:=Y9 17 l j1 (by omega) (by omega) (by omega) (by omega)
 rw[e2]
 simp only
 obtain⟨x1,x2,x3,j3,e3,_,_,_,c3,d3⟩:=Fb5 8 l j2 (by omega) (by omega) (by omega) (by omega)
 rw[e3]
 simp only
 obtain⟨y1,y2,y3,j4,e4,_,_,_,c4,d4⟩:=Fb5 8 l j3 (by omega) (by omega) (by omega) (by omega)
 rw[e4]
 simp only
 obtain⟨z1,z2,z3,j5,e5,_,_,_,c5,d5⟩:=Fb5 8 l j4 (by omega) (by omega) (by omega) (by omega)
 rw[e5]
 simp only[qb0,Fa2,Vd1 _ (show (0:Int) < 3 by omega) (by omega),l6]
 simp only[Nat.beq_refl,Bool.and_true,n5]
 have w2:W (v2 - 8)=v2 - 8:=Z3 (by omega) (by omega)
 have w1:W (1 - W (2*Int.tmod v1 2))=1∨W (1 - W (2*Int.tmod v1 2))=-1:=by
  have h:=Int.tmod_nonneg 2 a1
  have h2:=Int.tmod_lt_of_pos v1 (show (0:Int) < 2 by omega)
  rw[Z3 (n:=2*Int.tmod v1 2) (by omega) (by omega),Z3 (by omega) (by omega)]
  omega
 rw[w2]
 generalize W (1 - W (2*Int.tmod v1 2))=s at *
 have ax:∀ {a c d:Int},(a=s∧c=0∧d=0)∨(a=0∧c=s∧d=0)∨(a=0∧c=0∧d=s)→okp ⟨⟨a,c,d⟩,v2 - 8⟩=true:=fun h=>by
  unfold okp
  simp only[List.all_cons,List.all_nil,Bool.and_true,Bool.and_eq_true,Ya0,beq_iff_eq,Sm]
  rcases h with⟨rfl,rfl,rfl⟩ | ⟨rfl,rfl,rfl⟩ | ⟨rfl,rfl,rfl⟩<;>rcases w1 with rfl | rfl<;>exact⟨by omega,by decide,by omega⟩
 have r1:Rd (one r1P) (some ((.agg [(i 0),(i s),(i 0),(i (v2 - 8))]),[])) (fun p=>okp p=true):=⟨_,⟨⟨0,s,0⟩,v2 - 8⟩,rfl,rfl,ax (.inr (.inl ⟨rfl,rfl,rfl⟩))⟩
 have r2:Rd (one r1P) (some ((.agg [(i 0),(i 0),(i s),(i (v2 - 8))]),[])) (fun p=>okp p=true):=⟨_,⟨⟨0,0,s⟩,v2 - 8⟩,rfl,rfl,ax (.inr (.inr ⟨rfl,rfl,rfl⟩))⟩
 have r3:Rd (one r1P) (some ((.agg [(i s),(i 0),(i 0),(i (v2 - 8))]),[])) (fun p=>okp p=true):=⟨_,⟨⟨s,0,0⟩,v2 - 8⟩,rfl,rfl,ax (.inl ⟨rfl,rfl,rfl⟩)⟩
 refine Rd.sl (fun _=>Rd.sl (fun h=>?_) fun _=>?_) (fun _=>?_)
 ·exact⟨_,(ga5 ⟨x1,x2,x3⟩ ⟨y1,y2,y3⟩ ⟨z1,z2,z3⟩).1,rfl,rfl,(Ya6 h).2.ok⟩
 ·exact Rd.sl (fun _=>r1) fun _=>Rd.sl (fun _=>r2) fun _=>r3
 ·exact Rd.sl (fun _=>r1) fun _=>Rd.sl (fun _=>r2) fun _=>r3
theorem Ed8 (l:List Int):okp (Da7 l)=true:=(ae0 l).p
theorem Rc4:g3 ⟨1,0,0⟩=1∧g3 ⟨-1,0,0⟩=1∧g3 ⟨0,1,0⟩=1∧g3 ⟨0,-1,0⟩=1∧g3 ⟨0,0,1⟩=1∧g3 ⟨0,0,-1⟩=1:=by decide
structure Ka3 (c:List Pln):Prop where
 l:c.length≤47
 v:∀ p∈c,okp p=true
 f:ad9 (c++ws)
theorem Ka3.chk {c:List Pln} (h:Ka3 c):(chk c==0)=true:=by
 rw[beq_iff_eq,Fb0]
 exact⟨by have:=h.l;omega,h.v⟩
theorem Ka3.bds {c:List Pln} (h:Ka3 c):Bds (c++ws):=(Oa5 h.chk).1
theorem Ka3.ful {c:List Pln} (h:Ka3 c):ful c=true:=by
 unfold Ce.ful
 rw[h.chk,(qb3 h.bds (wb4 c) (by simp[ws])).2 h.f]
 rfl
theorem ae1 {lo hi:V3} (h1:Sm 20 lo.x∧Sm 20 lo.y∧Sm 20 lo.z) (h2:Sm 20 hi.x∧Sm 20 hi.y∧Sm 20 hi.z) (h3:lo.x < hi.x∧lo.y < hi.y∧lo.z < hi.z):Ka3 (Ac6 lo hi):=by
 obtain⟨⟨a1,a2⟩,⟨a3,a4⟩,a5,a6⟩:=h1
 obtain⟨⟨b1,b2⟩,⟨b3,b4⟩,b5,b6⟩:=h2
 obtain⟨c1,c2,c3⟩:=h3
 have w:∀ {x:Int},-20≤x→x≤20→W (0 - x)=-x:=fun h h'=>by rw[Z3 (by omega) (by omega)];omega
 have e:Ac6 lo hi=[⟨⟨1,0,0⟩,hi.x⟩,⟨⟨-1,0,0⟩,-lo.x⟩,⟨⟨0,1,0⟩,hi.y⟩,⟨⟨0,-1,0⟩,-lo.y⟩,⟨⟨0,0,1⟩,hi.z⟩,⟨⟨0,0,-1⟩,-lo.z⟩]:=by
  unfold Ac6
  rw[w a1 a2,w a3 a4,w a5 a6]
 rw[e]
 refine⟨by simp,fun p hp=>?_,⟨⟨lo.x+hi.x,lo.y+hi.y,lo.z+hi.z,2⟩,by show (0:Int) < 2;omega,fun p hp=>?_⟩⟩
 ·simp only[List.mem_cons,List.not_mem_nil,or_false] at hp
  unfold okp
  simp only[List.all_cons,List.all_nil,Bool.and_true,Bool.and_eq_true,Ya0,beq_iff_eq,Sm]
  rcases hp with rfl | rfl | rfl | rfl | rfl | rfl<;>exact⟨by simp,by first | exact Rc4.1 | exact Rc4.2.1 | exact Rc4.2.2.1 | exact Rc4.2.2.2.1 | exact Rc4.2.2.2.2.1 | exact Rc4.2.2.2.2.2,by simp only;omega⟩
 ·simp only[ws,List.cons_append,List.nil_append,List.mem_cons,List.not_mem_nil,or_false] at hp
  rcases hp with rfl | rfl | rfl | rfl | rfl | rfl | rfl | rfl | rfl | rfl | rfl | rfl<;>simp only[rmZ]<;>omega
theorem Ld8 {l:List V3} (h:ic9 l=0):l.all inV=true∧nf0 l=true:=by
 unfold ic9 at h
 split at h
 ·omega
 ·split at h
  ·rename_i h2
   split at h
   ·rename_i h3;exact⟨h2,h3⟩
   ·omega
  ·omega
theorem Ld9 {l:List V3} (h:ic9 l=0) (h8:l.length≤8):Ka3 (F0 l):=by
 obtain⟨h1,h2⟩:=Ld8 h
 exact⟨by have:=xe7 h1 h2 h8;omega,fun p hp=>(Zd9 hp).ok,ke9 h1 h2⟩
theorem Md0 (x:List Int):Rd (one (r1L tP)) (Ea1 x) Ka3:=by
 obtain⟨v1,j1,e1,a1,b1,c1,d1⟩:=Y9 4 x 0 (by omega) (by omega) (by omega) (by omega)
 obtain⟨w1,w2,w3,j2,e2,p1,p2,p3,c2,d2⟩:=Fb5 6 x j1 (by omega) (by omega) (by omega) (by omega)
 obtain⟨v3,j3,e3,a3,b3,c3,d3⟩:=Y9 6 x j2 (by omega) (by omega) (by omega) (by omega)
 obtain⟨v4,j4,e4,a4,b4,c4,d4⟩:=Y9 6 x j3 (by omega) (by omega) (by omega) (by omega)
 obtain⟨v5,j5,e5,a5,b5,c5,d5⟩:=Y9 6 x j4 (by omega) (by omega) (by omega) (by omega)
 have hin:inB (if 7 < (x.length:Int) then 7 else (x.length:Int)) (x.length+1)=true:=by
  rw[Uc6]
  apply decide_eq_true
  split<;>omega
 have hok:∀ n m,okL tI n (fun k=>(fun k=>tI.row (gL tI x k)) (m+k))=true:=fun n m=>sb2 tI (f:=fun k=>gL tI x (m+k)) fun _ _=>rfl
 unfold Ea1
 simp only[l8,l6,L0,e1,e2,e3,e4,e5,Td8,Td9,hin,hok,Pa3,Zc0,nd9,Nat.beq_refl,Bool.and_true,n5]
 generalize hL:lsL tI _ _=L
 have hg:Ka3 (Ac6 ⟨w1,w2,w3⟩ ⟨W (W (w1+1)+v3),W (W (w2+1)+v4),W (W (w3+1)+v5)⟩):=by
  obtain⟨q1,q2⟩:=p1;obtain⟨q3,q4⟩:=p2;obtain⟨q5,q6⟩:=p3
  have i1:W (W (w1+1)+v3)=w1+1+v3:=by rw[Z3 (n:=w1+1) (by omega) (by omega),Z3 (by omega) (by omega)]
  have i2:W (W (w2+1)+v4)=w2+1+v4:=by rw[Z3 (n:=w2+1) (by omega) (by omega),Z3 (by omega) (by omega)]
  have i3:W (W (w3+1)+v5)=w3+1+v5:=by rw[Z3 (n:=w3+1) (by omega) (by omega),Z3 (by omega) (by omega)]
  rw[i1,i2,i3]
  refine ae1 ⟨⟨?_,?_⟩,⟨?_,?_⟩,?_,?_⟩ ⟨⟨?_,?_⟩,⟨?_,?_⟩,?_,?_⟩ ⟨?_,?_,?_⟩<;>simp only<;>omega
 have hB6:(Ac6 ⟨w1,w2,w3⟩ ⟨W (W (w1+1)+v3),W (W (w2+1)+v4),W (W (w3+1)+v5)⟩).length=6:=rfl
 generalize hB:Ac6 _ _=B at *
 have hl6:len (bL tP B)=6:=by rw[L1,hB6]
 have ea:app [] (bL tP B)=bL tP B:=rfl
 have es:∀ q:Pln,slR tP (bL tP (B++[q])) 0 (0+6+1)=B++[q]:=fun q=>by
  have:=Bb8 tP (B++[q])
  rw[List.length_append,hB6] at this
  exact this
 have eo:∀ q:Pln,okS tP (bL tP (B++[q])) 0 (0+6+1)=true:=fun q=>by
  have:=Bb9 tP (B++[q])
  rw[List.length_append,hB6] at this
  exact this
 have hlen:∀ q:Pln,(B++[q]).length≤1000000000:=fun q=>by rw[List.length_append,hB6];exact (by decide:6+1≤1000000000)
 have gF:∀ q:Pln,Da4 (B++[q])=true:=fun q=>Cd8 (hlen q)
 have pF:∀ q:Pln,La6 (B++[q])=ful (B++[q]):=fun q=>he6 (hlen q)
 have q1:Nat.ble ((0+6)*32) room=true:=Y7 (by omega)
 have q2:Nat.ble (((0+6)+1)*32) room=true:=Y7 (by omega)
 have q3:Nat.beq (0+6) 6=true:=rfl
 have hp:=od0 L
 have gf:wa2 (M7 L)=true:=Dd7 _ (by omega)
 simp only[hl6,ea,Fb6,es,eo,gF,pF,q1,q2,q3,Bool.and_self,gf,Zd2 (M7 L) (by omega),n5,show Nat.beq 6 0=false from rfl,ea1]
 have box:Rd (one (r1L tP)) (some (eL tP B,[])) Ka3:=Zc3 hg
 have fcs:(jc1 (M7 L)).2==0→Rd (one (r1L tP)) (some (eL tP (jc1 (M7 L)).1,[])) Ka3:=fun h=>Zc3 (by
  unfold jc1 at h ⊢
  by_cases h0:ic9 (M7 L)=0
  ·rw[if_pos h0]
   exact Ld9 h0 hp.2
  ·rw[if_neg h0] at h
   exact absurd (by simpa using h) h0)
 have hcut:ful (B++[Da7 L])=true→Ka3 (B++[Da7 L]):=fun hf =>
  ⟨by rw[List.length_append,hB6];exact (by decide:6+1≤47),fun p h=>by
   rcases List.mem_append.1 h with h | h
   ·exact hg.v p h
   ·rw[List.mem_singleton.1 h];exact Ed8 L,(pd7 hf).2.2⟩
 exact Rd.sl (fun _=>Rd.sl (fun hf=>Zc2 (by rw[List.length_append,hB6];rfl) rfl (hcut hf)) fun _=>Rd.sl (fun _=>Rd.sl (fun h=>fcs h) fun _=>box) fun _=>box) fun _=>Rd.sl (fun _=>Rd.sl (fun h=>fcs h) fun _=>box) fun _=>box
theorem pd9 (x:List Int):Ka3 (db5 x):=(Md0 x).p
theorem xe8 (p:Pln) (N:Int) (v x:Pt):rmZ p ⟨N*v.px+x.px,N*v.py+x.py,N*v.pz+x.pz,N*v.pw+x.pw⟩=N*rmZ p v+rmZ p x:=by unfold rmZ;grind
theorem ae2 {r:List Pln} (hb:Bdd r) (hB:ad9 r) (p:Pln) (l:List Pln) (hl:∀ q,q∈l↔q∈r∨q=p):ad9 l↔∃ v,Cn r v∧0 < rmZ p v:=by
 constructor
 ·rintro⟨x,hw,hx⟩
  by_cases h:∃ v,Cn r v∧0 < rmZ p v
  ·exact h
  ·have hi:Inr r x:=⟨hw,fun q hq=>Int.le_of_lt (hx q ((hl q).2 (.inl hq)))⟩
   have:=Ca7 hb (h:=ha4 p) (fun v hv=>by
    rw[Ba5]
    have:¬ 0 < rmZ p v:=fun h'=>h ⟨v,hv,h'⟩
    omega) hi
   rw[Ba5] at this
   have:=hx p ((hl p).2 (.inr rfl))
   omega
 ·rintro⟨v,hv,hp⟩
  obtain⟨x,hw,hx⟩:=hB
  have hN:0 < ((rmZ p x).natAbs:Int)+1:=by omega
  refine⟨⟨(((rmZ p x).natAbs:Int)+1)*v.px+x.px,(((rmZ p x).natAbs:Int)+1)*v.py+x.py,(((rmZ p x).natAbs:Int)+1)*v.pz+x.pz,(((rmZ p x).natAbs:Int)+1)*v.pw+x.pw⟩,?_,fun q hq=>?_⟩
  ·have:=Int.mul_pos hN hv.w
   show 0 < _+_
   omega
  ·rw[xe8]
   rcases (hl q).1 hq with h | rfl
   ·have h1:=Int.mul_nonneg (Int.le_of_lt hN) (hv.h q h)
    have h2:=hx q h
    omega
   ·have h1 : ((rmZ q x).natAbs : Int) + 1 ≤ (((rmZ q x).natAbs : Int) + 1) * rmZ q v := by
     have:=Int.mul_le_mul_of_nonneg_left (show (1:Int)≤rmZ q v by omega) (Int.le_of_lt hN)
     rw[Int.mul_one] at this
     exact this
    omega
noncomputable def cin (c:List Pln) (p:Pln):Bool:=(pts c).any fun x=>decide (rm p x > 0)
noncomputable def cout (c:List Pln) (p:Pln):Bool:=(pts c).any fun x=>decide (rm p x < 0)
theorem Ka3.pts {c:List Pln} (h:Ka3 c):pts c=cor (c++ws):=by unfold Ce.pts;rw[if_pos h.chk]
theorem Ka3.cin {c:List Pln} (h:Ka3 c) {p:Pln} (hp:okp p=true):cin c p=true↔∃ v,Cn (c++ws) v∧0 < rmZ p v:=by
 unfold Ce.cin
 rw[h.pts]
 exact bd1 h.bds (Ma6 hp)
theorem Ka3.cout {c:List Pln} (h:Ka3 c) {p:Pln} (hp:okp p=true):cout c p=true↔∃ v,Cn (c++ws) v∧rmZ p v < 0:=by
 have e:Ce.cout c p=Ce.cin c (ha4 p):=by
  unfold Ce.cout Ce.cin
  rw[h.pts]
  have:∀ x∈cor (c++ws),decide (rm p x < 0)=decide (rm (ha4 p) x > 0):=fun x hx=>by
   rw[bd0 (Ma6 hp) (jb6 h.bds x hx),bd0 (Ma6 (eb8 hp)) (jb6 h.bds x hx),Ba5]
   exact decide_eq_decide.2 (by omega)
  rw[Ld6 this]
 rw[e,h.cin (eb8 hp)]
 constructor<;>rintro⟨v,h1,h2⟩<;>refine⟨v,h1,?_⟩<;>rw[Ba5] at *<;>omega
theorem Ka3.okp_add {c:List Pln} (h:Ka3 c) {p:Pln} (hp:okp p=true):(Ce.chk (c++[p])==0)=true:=by
 rw[beq_iff_eq,Fb0]
 refine⟨by have:=h.l;rw[List.length_append,List.length_singleton];omega,fun q hq=>?_⟩
 rcases List.mem_append.1 hq with hq | hq
 ·exact h.v q hq
 ·rw[List.mem_singleton.1 hq];exact hp
theorem bd2 {c:List Pln} (h:Ka3 c) {p:Pln} (hp:okp p=true):ful (c++[p])=cin c p:=by
 have hk:=h.okp_add hp
 apply Bool.eq_iff_iff.2
 rw[h.cin hp]
 unfold ful
 rw[hk,Bool.true_and,qb3 (Oa5 hk).1 (wb4 _) (by simp[ws]),ae2 (wb4 c) h.f p]
 intro q
 simp only[List.mem_append,List.mem_singleton]
 constructor
 ·rintro ((h | h) | h)
  ·exact .inl (.inl h)
  ·exact .inr h
  ·exact .inl (.inr h)
 ·rintro ((h | h) | h)
  ·exact .inl (.inl h)
  ·exact .inr h
  ·exact .inl (.inr h)
theorem jc2 {c:List Pln} (h:Ka3 c) {p:Pln} (hp:okp p=true):cin c (ha4 p)=cout c p:=by
 apply Bool.eq_iff_iff.2
 rw[h.cin (eb8 hp),h.cout hp]
 constructor<;>rintro⟨v,h1,h2⟩<;>refine⟨v,h1,?_⟩<;>rw[Ba5] at *<;>omega
theorem xe9 {c:List Pln} (h:Ka3 c) {p:Pln} (hp:okp p=true):(cin c p||cout c p)=true:=by
 cases h1:cin c p with
 | true=>rfl
 | false =>
  cases h2:cout c p with
  | true=>rfl
  | false =>
   exfalso
   have n1:¬ ∃ v,Cn (c++ws) v∧0 < rmZ p v:=fun h'=>by rw[(h.cin hp).2 h'] at h1;cases h1
   have n2:¬ ∃ v,Cn (c++ws) v∧rmZ p v < 0:=fun h'=>by rw[(h.cout hp).2 h'] at h2;cases h2
   have hz:∀ v,Cn (c++ws) v→rmZ p v=0:=fun v hv=>by
    have:¬ 0 < rmZ p v:=fun h'=>n1 ⟨v,hv,h'⟩
    have:¬ rmZ p v < 0:=fun h'=>n2 ⟨v,hv,h'⟩
    omega
   refine Yd2 (wb4 c) h.f (h:=p) (Ed7 hp) fun x hx=>?_
   have a1:=Ca7 (wb4 c) (h:=p) (fun v hv=>by rw[hz v hv];decide) hx
   have a2:=Ca7 (wb4 c) (h:=ha4 p) (fun v hv=>by rw[Ba5,hz v hv];decide) hx
   rw[Ba5] at a2
   omega
theorem Md1 {c:List Pln} (h:Ka3 c) {p:Pln} (hp:okp p=true):apart (c++[p]) (c++[ha4 p])=true:=by
 unfold apart
 have k1:=h.okp_add hp
 have k2:=h.okp_add (eb8 hp)
 rw[k1,k2]
 cases hb:Ac7 (c++[p]++(c++[ha4 p])++ws) with
 | false=>rfl
 | true =>
  exfalso
  obtain⟨x,hw,hx⟩:=(qb3 (Dc9 k1 k2).1 (wb4 _) (by simp[ws])).1 hb
  have h1:=hx p (by simp)
  have h2:=hx (ha4 p) (by simp)
  rw[Ba5] at h2
  omega
theorem ae3 {c:List Pln} (h:Ka3 c) {p:Pln} (hp:okp p=true) (hi:cin c p=true):Ec0 (c++[p]) c=true∧apart (c++[p]) c=false:=by
 have k1:=h.okp_add hp
 have hf:ful (c++[p])=true:=by rw[bd2 h hp,hi]
 have hb:=(Oa5 k1).1
 constructor
 ·unfold Ec0
  rw[hf,h.chk,Bool.true_and,Bool.true_and,List.all_eq_true]
  intro x hx
  have hx':x∈cor (c++[p]++ws):=by
   unfold Ce.pts at hx
   rw[if_pos k1] at hx
   exact hx
  have hcn:=xd9 hb x hx'
  rw[Ed6 (fun q hq=>Ma6 (h.v q hq)) (jb6 hb x hx')]
  exact fun q hq=>hcn.h q (by simp[hq])
 ·unfold apart
  rw[k1,h.chk]
  have hB:=(pd7 hf).2.2
  have:ad9 (c++[p]++c++ws):=by
   obtain⟨x,hw,hx⟩:=hB
   refine⟨x,hw,fun q hq=>hx q ?_⟩
   simp only[List.mem_append,List.mem_singleton] at hq ⊢
   rcases hq with ((hq | hq) | hq) | hq
   ·exact .inl (.inl hq)
   ·exact .inl (.inr hq)
   ·exact .inl (.inl hq)
   ·exact .inr hq
  rw[(qb3 (Dc9 k1 h.chk).1 (wb4 _) (by simp[ws])).2 this]
  rfl
theorem qd0 {c:List Pln} (h:Ka3 c) {p:Pln} (hp:okp p=true):Ec0 c (c++[p])=!cout c p:=by
 have k1:=h.okp_add hp
 unfold Ec0 cout
 rw[h.ful,k1,Bool.true_and,Bool.true_and,h.pts,List.not_any_eq_all_not]
 apply Ld7
 intro x hx
 have hok:=jb6 h.bds x hx
 have hcn:=xd9 h.bds x hx
 have hbd:=Ma6 hp
 apply Bool.eq_iff_iff.2
 rw[Ed6 (fun q hq=>Ma6 (((Fb0).1 (beq_iff_eq.1 k1)).2 q hq)) hok,bd0 hbd hok]
 simp only[Bool.not_eq_true',decide_eq_false_iff_not,Int.not_lt]
 constructor
 ·exact fun hh=>hh p (by simp)
 ·intro hh q hq
  rcases List.mem_append.1 hq with hq | hq
  ·exact hcn.h q (List.mem_append_left _ hq)
  ·rw[List.mem_singleton.1 hq];exact hh
end Go.Ev.Ce
section
namespace Go.Ev.Ce
open Go Go.Ev Go.Ev.L Go.Proofs
set_option maxRecDepth 100000
noncomputable def bd3:List (Nat×Sum):=[]
theorem Lc3:l5 prog G bd3:=trivial
noncomputable def Gb8 (x:V3) (y:V3):V3:=(⟨(W (x.x - y.x)),(W (x.y - y.y)),(W (x.z - y.z))⟩:V3)
noncomputable def mc0:Sum:=la2 (W9 tV) (W9 tV) (fun x y=>.ret ((one r1V).enc (Gb8 x y),[]))
theorem bd4:j6 prog G 116 mc0:=ta3 (bd Me5 Lc3) fun x y=>w6 (by kernel_rfl)
noncomputable def Lc4:List (Nat×Sum):=[(116,mc0)]
theorem Ec9:l5 prog G Lc4:=⟨bd4,trivial⟩
noncomputable def Ya7 (x:Pln):Pln:=let t1:=(Gb8 (⟨0,0,0⟩:V3) x.n);(⟨t1,(W (0 - x.b))⟩:Pln)
noncomputable def bc8:Sum:=ja7 (W9 tP) (fun x=>.ret ((one r1P).enc (Ya7 x),[]))
theorem Lc5:j6 prog G 36 bc8:=Ib4 (bd b36 Ec9) fun x=>w6 (by kernel_rfl)
noncomputable def jb8:List (Nat×Sum):=[(13,Gb4),(30,Cc5),(35,Rb7),(36,bc8),(18,sa2),(37,sb8),(20,Fa0),(31,vb8),(33,nb1)]
theorem Sb2:l5 prog G jb8:=⟨qc0,md8,lc2,Lc5,va6,Db4,Ia4,Ob2,Fb9,trivial⟩
structure J4 where
 bs5:Bool
 pe5:List Pln
 ns8:Nat
 ns9:Nat
 bd6:List Pt
 le6:Int
 f9:Int
 c8:Int
 g7:Int
 d9:Int
 eh1:List (List b7)
 eh2:List (List b7)
structure v7 where
 fb1:Bool
 O7:Bool
 Lc7:Int
noncomputable def Lb9 (p:J4) (s:v7):St:=⟨(ra 5 ((b p.bs5)::((eL tP p.pe5)::((.ptr 0 0 0 0)::((.sl 1 0 p.ns8 0)::((.sl 2 0 p.ns9 0)::((b s.fb1)::((b s.O7)::(ra 21 ((eL tX p.bd6)::((i p.le6)::((i s.Lc7)::(ra 85 []))))))))))))),[⟨0,4,[[(i p.f9),(i p.c8),(i p.g7),(i p.d9)]],true,false,0⟩,⟨50,4,p.eh1,true,false,0⟩,⟨50,4,p.eh2,true,false,0⟩]⟩
noncomputable def Y4 {α:Type} (k:v7→α) (e:Nat→α) (z:α) (p:J4) (s:v7):α:=let t1:=(La5 (⟨(⟨p.f9,p.c8,p.g7⟩:V3),p.d9⟩:Pln) (gL tX p.bd6 s.Lc7.toNat));(sl (decide (s.Lc7 < p.le6)) (sl (inB s.Lc7 (List.length p.bd6)) (sl s.fb1 (sl s.O7 (k ⟨true,true,(W (s.Lc7+1))⟩) (k ⟨true,(decide (t1 < 0)),(W (s.Lc7+1))⟩)) (sl s.O7 (k ⟨(decide (t1 > 0)),true,(W (s.Lc7+1))⟩) (k ⟨(decide (t1 > 0)),(decide (t1 < 0)),(W (s.Lc7+1))⟩))) z) (e 1))
noncomputable def B9 (p:J4) (s:v7):Stp v7:=Y4 .next .exit .fail p s
noncomputable def Ea3:Lo J4 v7:=⟨En jb8,0,pf6,[1,1,1,1,1,1,0,1,4,4],[5,6,7,8,9,10,11,33,34,35],.p,[⟨(ru2 5 ((.s (.o .bool))::((.s (.c 4 (nL tP)))::((.s (.o (.ptr 0 0 0 0)))::((.s (.o (.sl 1 0 (some 0) none)))::((.s (.o (.sl 2 0 (some 0) none)))::((.s (.o .bool))::((.s (.o .bool))::(ru2 21 ((.s (.c 4 (nL tX)))::((.s (.o (.int .i64)))::((.s (.o (.int .i64)))::(ru2 85 []))))))))))))),[⟨0,4,true,(some [[(.o (.int .i64)),(.o (.int .i64)),(.o (.int .i64)),(.o (.int .i64))]])⟩,⟨50,4,true,none⟩,⟨50,4,true,none⟩],fun a H=>(⟨(toB (slT a 5)),(rL tP (slT a 6)),(slN (slT a 8)),(slN (slT a 9)),(rL tX (slT a 33)),(toI (slT a 34)),(toI (slT (rwT (elT H 0) 0) 0)),(toI (slT (rwT (elT H 0) 0) 1)),(toI (slT (rwT (elT H 0) 0) 2)),(toI (slT (rwT (elT H 0) 0) 3)),(elT H 1),(elT H 2)⟩,⟨(toB (slT a 10)),(toB (slT a 11)),(toI (slT a 35))⟩)⟩],B9,[(some 0,fun p s=>⟨(ra 5 ((b p.bs5)::((eL tP p.pe5)::((.ptr 0 0 0 0)::((.sl 1 0 p.ns8 0)::((.sl 2 0 p.ns9 0)::((b s.fb1)::((b s.O7)::(ra 21 ((eL tX p.bd6)::((i p.le6)::((i s.Lc7)::((b (decide (s.Lc7 < p.le6)))::(ra 84 [])))))))))))))),[⟨0,4,[[(i p.f9),(i p.c8),(i p.g7),(i p.d9)]],true,false,0⟩,⟨50,4,p.eh1,true,false,0⟩,⟨50,4,p.eh2,true,false,0⟩]⟩)],Lb9⟩
theorem Mb0:Ea3.Ok:=Lo.ok [] (by kernel_rfl) .nil rfl (.cons (fun a H=>by kernel_rfl) .nil) fun p s=>(.of @Y4 (fun F _ _ _ _ _=>by unfold Y4;(repeat' apply o0 (f:=F))<;>rfl) (by kernel_rfl))
noncomputable def oa1 (x:List Int) (y:List Int):Option (b7×List b8):=let t1:=Ka0;let t2:=(db5 (rt tI x));let t3:=(Da7 (rt tI y));let t4:=(Ya7 t3);let t5:=(W4 (rt tP t2));let t6:=(lp (B9 (⟨t1,(rt tP t2),1,1,(rt tX t5),(↑(List.length t5):Int),t3.n.x,t3.n.y,t3.n.z,t3.b,[[(i t3.n.x),(i t3.n.y),(i t3.n.z),(i t3.b)]],[[(i t4.n.x),(i t4.n.y),(i t4.n.z),(i t4.b)]]⟩:J4)) (⟨false,false,0⟩:v7));let t7:=(R9 (slR tP [[(i t3.n.x),(i t3.n.y),(i t3.n.z),(i t3.b)]] 0 1));let t8:=(R9 (slR tP [[(i t4.n.x),(i t4.n.y),(i t4.n.z),(i t4.b)]] 0 1));let t9:=(K1 (slR tP [[(i t3.n.x),(i t3.n.y),(i t3.n.z),(i t3.b)]] 0 1) (slR tP [[(i t4.n.x),(i t4.n.y),(i t4.n.z),(i t4.b)]] 0 1));let t10:=(G6 (slR tP [[(i t3.n.x),(i t3.n.y),(i t3.n.z),(i t3.b)]] 0 1) (rt tP (rt tP t2)));let t11:=(K1 (slR tP [[(i t3.n.x),(i t3.n.y),(i t3.n.z),(i t3.b)]] 0 1) (rt tP (rt tP t2)));let t12:=(G6 (slR tP [[(i t4.n.x),(i t4.n.y),(i t4.n.z),(i t4.b)]] 0 1) (rt tP (rt tP t2)));let t13:=(K1 (slR tP [[(i t4.n.x),(i t4.n.y),(i t4.n.z),(i t4.b)]] 0 1) (rt tP (rt tP t2)));let t14:=(G6 (rt tP (rt tP t2)) (slR tP [[(i t3.n.x),(i t3.n.y),(i t3.n.z),(i t3.b)]] 0 1));let t15:=(G6 (rt tP (rt tP t2)) (slR tP [[(i t4.n.x),(i t4.n.y),(i t4.n.z),(i t4.b)]] 0 1));let a0:=(n7 (fun k=>(tP).row (gL tP t2 k)) (List.range (List.length t2)));let t16:=(lp (B9 (⟨t1,(rt tP t2),1,((0+(len a0))+1),(rt tX t5),(↑(List.length t5):Int),t3.n.x,t3.n.y,t3.n.z,t3.b,[[(i t3.n.x),(i t3.n.y),(i t3.n.z),(i t3.b)]],(app (app [] a0) [[(i t4.n.x),(i t4.n.y),(i t4.n.z),(i t4.b)]])⟩:J4)) (⟨false,false,0⟩:v7));let t17:=(R9 (slR tP (app (app [] a0) [[(i t4.n.x),(i t4.n.y),(i t4.n.z),(i t4.b)]]) 0 ((0+(len a0))+1)));let t18:=(K1 (slR tP [[(i t3.n.x),(i t3.n.y),(i t3.n.z),(i t3.b)]] 0 1) (slR tP (app (app [] a0) [[(i t4.n.x),(i t4.n.y),(i t4.n.z),(i t4.b)]]) 0 ((0+(len a0))+1)));let t19:=(G6 (slR tP (app (app [] a0) [[(i t4.n.x),(i t4.n.y),(i t4.n.z),(i t4.b)]]) 0 ((0+(len a0))+1)) (rt tP (rt tP t2)));let t20:=(K1 (slR tP (app (app [] a0) [[(i t4.n.x),(i t4.n.y),(i t4.n.z),(i t4.b)]]) 0 ((0+(len a0))+1)) (rt tP (rt tP t2)));let t21:=(G6 (rt tP (rt tP t2)) (slR tP (app (app [] a0) [[(i t4.n.x),(i t4.n.y),(i t4.n.z),(i t4.b)]]) 0 ((0+(len a0))+1)));let t22:=(lp (B9 (⟨t1,(rt tP t2),((0+(len a0))+1),1,(rt tX t5),(↑(List.length t5):Int),t3.n.x,t3.n.y,t3.n.z,t3.b,(app (app [] a0) [[(i t3.n.x),(i t3.n.y),(i t3.n.z),(i t3.b)]]),[[(i t4.n.x),(i t4.n.y),(i t4.n.z),(i t4.b)]]⟩:J4)) (⟨false,false,0⟩:v7));let t23:=(R9 (slR tP (app (app [] a0) [[(i t3.n.x),(i t3.n.y),(i t3.n.z),(i t3.b)]]) 0 ((0+(len a0))+1)));let t24:=(K1 (slR tP (app (app [] a0) [[(i t3.n.x),(i t3.n.y),(i t3.n.z),(i t3.b)]]) 0 ((0+(len a0))+1)) (slR tP [[(i t4.n.x),(i t4.n.y),(i t4.n.z),(i t4.b)]] 0 1));let t25:=(G6 (slR tP (app (app [] a0) [[(i t3.n.x),(i t3.n.y),(i t3.n.z),(i t3.b)]]) 0 ((0+(len a0))+1)) (rt tP (rt tP t2)));let t26:=(K1 (slR tP (app (app [] a0) [[(i t3.n.x),(i t3.n.y),(i t3.n.z),(i t3.b)]]) 0 ((0+(len a0))+1)) (rt tP (rt tP t2)));let t27:=(G6 (rt tP (rt tP t2)) (slR tP (app (app [] a0) [[(i t3.n.x),(i t3.n.y),(i t3.n.z),(i t3.b)]]) 0 ((0+(len a0))+1)));let t28:=(lp (B9 (⟨t1,(rt tP t2),((0+(len a0))+1),((0+(len a0))+1),(rt tX t5),(↑(List.length t5):Int),t3.n.x,t3.n.y,t3.n.z,t3.b,(app (app [] a0) [[(i t3.n.x),(i t3.n.y),(i t3.n.z),(i t3.b)]]),(app (app [] a0) [[(i t4.n.x),(i t4.n.y),(i t4.n.z),(i t4.b)]])⟩:J4)) (⟨false,false,0⟩:v7));let t29:=(K1 (slR tP (app (app [] a0) [[(i t3.n.x),(i t3.n.y),(i t3.n.z),(i t3.b)]]) 0 ((0+(len a0))+1)) (slR tP (app (app [] a0) [[(i t4.n.x),(i t4.n.y),(i t4.n.z),(i t4.b)]]) 0 ((0+(len a0))+1)));let a1:=((b (t21==(!t16.2.fb1))),[]);let a2:=((b (t15==(!t22.2.fb1))),[]);let a3:=((b (t21==(!t28.2.fb1))),[]);let a4:=((b (t15==(!t6.2.fb1))),[]);let a5:=(Nat.beq (0+(len a0)) (len (app [] a0))&&Nat.ble (((0+(len a0))+1)*32) room);let a6:=((cnE tP t2)&&((cnE tX t5)&&true));let a7:=(Nat.beq 0 0&&Nat.ble ((0+(len a0))*32) room);(sl Ka1 (sl (okE tI x) (sl (Sb0 (rt tI x)) (sl (okE tI y) (sl (db3 (rt tI y)) (sl (Nat.beq (len a0) 0) (sl (Nat.beq (len a0) 0) (sl (okE tP t2) (sl (J5 (rt tP t2)) (sl a6 (sl (Nat.beq t6.1 1) (sl (okS tP [[(i t3.n.x),(i t3.n.y),(i t3.n.z),(i t3.b)]] 0 1) (sl (G8 (slR tP [[(i t3.n.x),(i t3.n.y),(i t3.n.z),(i t3.b)]] 0 1)) (sl (!(t7==t6.2.fb1)) (some ((b false),[])) (sl (okS tP [[(i t4.n.x),(i t4.n.y),(i t4.n.z),(i t4.b)]] 0 1) (sl (G8 (slR tP [[(i t4.n.x),(i t4.n.y),(i t4.n.z),(i t4.b)]] 0 1)) (sl (!(t8==t6.2.O7)) (some ((b false),[])) (sl (!t6.2.fb1) (sl (!t6.2.O7) (some ((b false),[])) (sl (okS tP [[(i t3.n.x),(i t3.n.y),(i t3.n.z),(i t3.b)]] 0 1) (sl (okS tP [[(i t4.n.x),(i t4.n.y),(i t4.n.z),(i t4.b)]] 0 1) (sl (f8 (slR tP [[(i t3.n.x),(i t3.n.y),(i t3.n.z),(i t3.b)]] 0 1) (slR tP [[(i t4.n.x),(i t4.n.y),(i t4.n.z),(i t4.b)]] 0 1)) (sl (!t9) (some ((b false),[])) (sl t6.2.fb1 (sl (okS tP [[(i t3.n.x),(i t3.n.y),(i t3.n.z),(i t3.b)]] 0 1) (sl (okE tP (rt tP t2)) (sl (b9 (slR tP [[(i t3.n.x),(i t3.n.y),(i t3.n.z),(i t3.b)]] 0 1) (rt tP (rt tP t2))) (sl (!t10) (some ((b false),[])) (sl (okS tP [[(i t3.n.x),(i t3.n.y),(i t3.n.z),(i t3.b)]] 0 1) (sl (okE tP (rt tP t2)) (sl (f8 (slR tP [[(i t3.n.x),(i t3.n.y),(i t3.n.z),(i t3.b)]] 0 1) (rt tP (rt tP t2))) (sl t11 (some ((b false),[])) (sl t6.2.O7 (sl (okS tP [[(i t4.n.x),(i t4.n.y),(i t4.n.z),(i t4.b)]] 0 1) (sl (okE tP (rt tP t2)) (sl (b9 (slR tP [[(i t4.n.x),(i t4.n.y),(i t4.n.z),(i t4.b)]] 0 1) (rt tP (rt tP t2))) (sl (!t12) (some ((b false),[])) (sl (okS tP [[(i t4.n.x),(i t4.n.y),(i t4.n.z),(i t4.b)]] 0 1) (sl (okE tP (rt tP t2)) (sl (f8 (slR tP [[(i t4.n.x),(i t4.n.y),(i t4.n.z),(i t4.b)]] 0 1) (rt tP (rt tP t2))) (sl t13 (some ((b false),[])) (sl t1 (sl (okE tP (rt tP t2)) (sl (okS tP [[(i t3.n.x),(i t3.n.y),(i t3.n.z),(i t3.b)]] 0 1) (sl (b9 (rt tP (rt tP t2)) (slR tP [[(i t3.n.x),(i t3.n.y),(i t3.n.z),(i t3.b)]] 0 1)) (sl (t14==(!t6.2.O7)) (sl (okE tP (rt tP t2)) (sl (okS tP [[(i t4.n.x),(i t4.n.y),(i t4.n.z),(i t4.b)]] 0 1) (sl (b9 (rt tP (rt tP t2)) (slR tP [[(i t4.n.x),(i t4.n.y),(i t4.n.z),(i t4.b)]] 0 1)) (some a4) none) none) none) (some ((b false),[]))) none) none) none) (some ((b false),[])))) none) none) none)) none) none) none) (sl t1 (sl (okE tP (rt tP t2)) (sl (okS tP [[(i t3.n.x),(i t3.n.y),(i t3.n.z),(i t3.b)]] 0 1) (sl (b9 (rt tP (rt tP t2)) (slR tP [[(i t3.n.x),(i t3.n.y),(i t3.n.z),(i t3.b)]] 0 1)) (sl (t14==(!t6.2.O7)) (sl (okE tP (rt tP t2)) (sl (okS tP [[(i t4.n.x),(i t4.n.y),(i t4.n.z),(i t4.b)]] 0 1) (sl (b9 (rt tP (rt tP t2)) (slR tP [[(i t4.n.x),(i t4.n.y),(i t4.n.z),(i t4.b)]] 0 1)) (some a4) none) none) none) (some ((b false),[]))) none) none) none) (some ((b false),[]))))) none) none) none)) none) none) none) (sl t6.2.O7 (sl (okS tP [[(i t4.n.x),(i t4.n.y),(i t4.n.z),(i t4.b)]] 0 1) (sl (okE tP (rt tP t2)) (sl (b9 (slR tP [[(i t4.n.x),(i t4.n.y),(i t4.n.z),(i t4.b)]] 0 1) (rt tP (rt tP t2))) (sl (!t12) (some ((b false),[])) (sl (okS tP [[(i t4.n.x),(i t4.n.y),(i t4.n.z),(i t4.b)]] 0 1) (sl (okE tP (rt tP t2)) (sl (f8 (slR tP [[(i t4.n.x),(i t4.n.y),(i t4.n.z),(i t4.b)]] 0 1) (rt tP (rt tP t2))) (sl t13 (some ((b false),[])) (sl t1 (sl (okE tP (rt tP t2)) (sl (okS tP [[(i t3.n.x),(i t3.n.y),(i t3.n.z),(i t3.b)]] 0 1) (sl (b9 (rt tP (rt tP t2)) (slR tP [[(i t3.n.x),(i t3.n.y),(i t3.n.z),(i t3.b)]] 0 1)) (sl (t14==(!t6.2.O7)) (sl (okE tP (rt tP t2)) (sl (okS tP [[(i t4.n.x),(i t4.n.y),(i t4.n.z),(i t4.b)]] 0 1) (sl (b9 (rt tP (rt tP t2)) (slR tP [[(i t4.n.x),(i t4.n.y),(i t4.n.z),(i t4.b)]] 0 1)) (some a4) none) none) none) (some ((b false),[]))) none) none) none) (some ((b false),[])))) none) none) none)) none) none) none) (sl t1 (sl (okE tP (rt tP t2)) (sl (okS tP [[(i t3.n.x),(i t3.n.y),(i t3.n.z),(i t3.b)]] 0 1) (sl (b9 (rt tP (rt tP t2)) (slR tP [[(i t3.n.x),(i t3.n.y),(i t3.n.z),(i t3.b)]] 0 1)) (sl (t14==(!t6.2.O7)) (sl (okE tP (rt tP t2)) (sl (okS tP [[(i t4.n.x),(i t4.n.y),(i t4.n.z),(i t4.b)]] 0 1) (sl (b9 (rt tP (rt tP t2)) (slR tP [[(i t4.n.x),(i t4.n.y),(i t4.n.z),(i t4.b)]] 0 1)) (some a4) none) none) none) (some ((b false),[]))) none) none) none) (some ((b false),[])))))) none) none) none)) (sl (okS tP [[(i t3.n.x),(i t3.n.y),(i t3.n.z),(i t3.b)]] 0 1) (sl (okS tP [[(i t4.n.x),(i t4.n.y),(i t4.n.z),(i t4.b)]] 0 1) (sl (f8 (slR tP [[(i t3.n.x),(i t3.n.y),(i t3.n.z),(i t3.b)]] 0 1) (slR tP [[(i t4.n.x),(i t4.n.y),(i t4.n.z),(i t4.b)]] 0 1)) (sl (!t9) (some ((b false),[])) (sl t6.2.fb1 (sl (okS tP [[(i t3.n.x),(i t3.n.y),(i t3.n.z),(i t3.b)]] 0 1) (sl (okE tP (rt tP t2)) (sl (b9 (slR tP [[(i t3.n.x),(i t3.n.y),(i t3.n.z),(i t3.b)]] 0 1) (rt tP (rt tP t2))) (sl (!t10) (some ((b false),[])) (sl (okS tP [[(i t3.n.x),(i t3.n.y),(i t3.n.z),(i t3.b)]] 0 1) (sl (okE tP (rt tP t2)) (sl (f8 (slR tP [[(i t3.n.x),(i t3.n.y),(i t3.n.z),(i t3.b)]] 0 1) (rt tP (rt tP t2))) (sl t11 (some ((b false),[])) (sl t6.2.O7 (sl (okS tP [[(i t4.n.x),(i t4.n.y),(i t4.n.z),(i t4.b)]] 0 1) (sl (okE tP (rt tP t2)) (sl (b9 (slR tP [[(i t4.n.x),(i t4.n.y),(i t4.n.z),(i t4.b)]] 0 1) (rt tP (rt tP t2))) (sl (!t12) (some ((b false),[])) (sl (okS tP [[(i t4.n.x),(i t4.n.y),(i t4.n.z),(i t4.b)]] 0 1) (sl (okE tP (rt tP t2)) (sl (f8 (slR tP [[(i t4.n.x),(i t4.n.y),(i t4.n.z),(i t4.b)]] 0 1) (rt tP (rt tP t2))) (sl t13 (some ((b false),[])) (sl t1 (sl (okE tP (rt tP t2)) (sl (okS tP [[(i t3.n.x),(i t3.n.y),(i t3.n.z),(i t3.b)]] 0 1) (sl (b9 (rt tP (rt tP t2)) (slR tP [[(i t3.n.x),(i t3.n.y),(i t3.n.z),(i t3.b)]] 0 1)) (sl (t14==(!t6.2.O7)) (sl (okE tP (rt tP t2)) (sl (okS tP [[(i t4.n.x),(i t4.n.y),(i t4.n.z),(i t4.b)]] 0 1) (sl (b9 (rt tP (rt tP t2)) (slR tP [[(i t4.n.x),(i t4.n.y),(i t4.n.z),(i t4.b)]] 0 1)) (some a4) none) none) none) (some ((b false),[]))) none) none) none) (some ((b false),[])))) none) none) none)) none) none) none) (sl t1 (sl (okE tP (rt tP t2)) (sl (okS tP [[(i t3.n.x),(i t3.n.y),(i t3.n.z),(i t3.b)]] 0 1) (sl (b9 (rt tP (rt tP t2)) (slR tP [[(i t3.n.x),(i t3.n.y),(i t3.n.z),(i t3.b)]] 0 1)) (sl (t14==(!t6.2.O7)) (sl (okE tP (rt tP t2)) (sl (okS tP [[(i t4.n.x),(i t4.n.y),(i t4.n.z),(i t4.b)]] 0 1) (sl (b9 (rt tP (rt tP t2)) (slR tP [[(i t4.n.x),(i t4.n.y),(i t4.n.z),(i t4.b)]] 0 1)) (some a4) none) none) none) (some ((b false),[]))) none) none) none) (some ((b false),[]))))) none) none) none)) none) none) none) (sl t6.2.O7 (sl (okS tP [[(i t4.n.x),(i t4.n.y),(i t4.n.z),(i t4.b)]] 0 1) (sl (okE tP (rt tP t2)) (sl (b9 (slR tP [[(i t4.n.x),(i t4.n.y),(i t4.n.z),(i t4.b)]] 0 1) (rt tP (rt tP t2))) (sl (!t12) (some ((b false),[])) (sl (okS tP [[(i t4.n.x),(i t4.n.y),(i t4.n.z),(i t4.b)]] 0 1) (sl (okE tP (rt tP t2)) (sl (f8 (slR tP [[(i t4.n.x),(i t4.n.y),(i t4.n.z),(i t4.b)]] 0 1) (rt tP (rt tP t2))) (sl t13 (some ((b false),[])) (sl t1 (sl (okE tP (rt tP t2)) (sl (okS tP [[(i t3.n.x),(i t3.n.y),(i t3.n.z),(i t3.b)]] 0 1) (sl (b9 (rt tP (rt tP t2)) (slR tP [[(i t3.n.x),(i t3.n.y),(i t3.n.z),(i t3.b)]] 0 1)) (sl (t14==(!t6.2.O7)) (sl (okE tP (rt tP t2)) (sl (okS tP [[(i t4.n.x),(i t4.n.y),(i t4.n.z),(i t4.b)]] 0 1) (sl (b9 (rt tP (rt tP t2)) (slR tP [[(i t4.n.x),(i t4.n.y),(i t4.n.z),(i t4.b)]] 0 1)) (some a4) none) none) none) (some ((b false),[]))) none) none) none) (some ((b false),[])))) none) none) none)) none) none) none) (sl t1 (sl (okE tP (rt tP t2)) (sl (okS tP [[(i t3.n.x),(i t3.n.y),(i t3.n.z),(i t3.b)]] 0 1) (sl (b9 (rt tP (rt tP t2)) (slR tP [[(i t3.n.x),(i t3.n.y),(i t3.n.z),(i t3.b)]] 0 1)) (sl (t14==(!t6.2.O7)) (sl (okE tP (rt tP t2)) (sl (okS tP [[(i t4.n.x),(i t4.n.y),(i t4.n.z),(i t4.b)]] 0 1) (sl (b9 (rt tP (rt tP t2)) (slR tP [[(i t4.n.x),(i t4.n.y),(i t4.n.z),(i t4.b)]] 0 1)) (some a4) none) none) none) (some ((b false),[]))) none) none) none) (some ((b false),[])))))) none) none) none))) none) none)) none) none) none) none) none) none) (sl a7 (sl a5 (sl (okE tP t2) (sl (J5 (rt tP t2)) (sl a6 (sl (Nat.beq t16.1 1) (sl (okS tP [[(i t3.n.x),(i t3.n.y),(i t3.n.z),(i t3.b)]] 0 1) (sl (G8 (slR tP [[(i t3.n.x),(i t3.n.y),(i t3.n.z),(i t3.b)]] 0 1)) (sl (!(t7==t16.2.fb1)) (some ((b false),[])) (sl (okS tP (app (app [] a0) [[(i t4.n.x),(i t4.n.y),(i t4.n.z),(i t4.b)]]) 0 ((0+(len a0))+1)) (sl (G8 (slR tP (app (app [] a0) [[(i t4.n.x),(i t4.n.y),(i t4.n.z),(i t4.b)]]) 0 ((0+(len a0))+1))) (sl (!(t17==t16.2.O7)) (some ((b false),[])) (sl (!t16.2.fb1) (sl (!t16.2.O7) (some ((b false),[])) (sl (okS tP [[(i t3.n.x),(i t3.n.y),(i t3.n.z),(i t3.b)]] 0 1) (sl (okS tP (app (app [] a0) [[(i t4.n.x),(i t4.n.y),(i t4.n.z),(i t4.b)]]) 0 ((0+(len a0))+1)) (sl (f8 (slR tP [[(i t3.n.x),(i t3.n.y),(i t3.n.z),(i t3.b)]] 0 1) (slR tP (app (app [] a0) [[(i t4.n.x),(i t4.n.y),(i t4.n.z),(i t4.b)]]) 0 ((0+(len a0))+1))) (sl (!t18) (some ((b false),[])) (sl t16.2.fb1 (sl (okS tP [[(i t3.n.x),(i t3.n.y),(i t3.n.z),(i t3.b)]] 0 1) (sl (okE tP (rt tP t2)) (sl (b9 (slR tP [[(i t3.n.x),(i t3.n.y),(i t3.n.z),(i t3.b)]] 0 1) (rt tP (rt tP t2))) (sl (!t10) (some ((b false),[])) (sl (okS tP [[(i t3.n.x),(i t3.n.y),(i t3.n.z),(i t3.b)]] 0 1) (sl (okE tP (rt tP t2)) (sl (f8 (slR tP [[(i t3.n.x),(i t3.n.y),(i t3.n.z),(i t3.b)]] 0 1) (rt tP (rt tP t2))) (sl t11 (some ((b false),[])) (sl t16.2.O7 (sl (okS tP (app (app [] a0) [[(i t4.n.x),(i t4.n.y),(i t4.n.z),(i t4.b)]]) 0 ((0+(len a0))+1)) (sl (okE tP (rt tP t2)) (sl (b9 (slR tP (app (app [] a0) [[(i t4.n.x),(i t4.n.y),(i t4.n.z),(i t4.b)]]) 0 ((0+(len a0))+1)) (rt tP (rt tP t2))) (sl (!t19) (some ((b false),[])) (sl (okS tP (app (app [] a0) [[(i t4.n.x),(i t4.n.y),(i t4.n.z),(i t4.b)]]) 0 ((0+(len a0))+1)) (sl (okE tP (rt tP t2)) (sl (f8 (slR tP (app (app [] a0) [[(i t4.n.x),(i t4.n.y),(i t4.n.z),(i t4.b)]]) 0 ((0+(len a0))+1)) (rt tP (rt tP t2))) (sl t20 (some ((b false),[])) (sl t1 (sl (okE tP (rt tP t2)) (sl (okS tP [[(i t3.n.x),(i t3.n.y),(i t3.n.z),(i t3.b)]] 0 1) (sl (b9 (rt tP (rt tP t2)) (slR tP [[(i t3.n.x),(i t3.n.y),(i t3.n.z),(i t3.b)]] 0 1)) (sl (t14==(!t16.2.O7)) (sl (okE tP (rt tP t2)) (sl (okS tP (app (app [] a0) [[(i t4.n.x),(i t4.n.y),(i t4.n.z),(i t4.b)]]) 0 ((0+(len a0))+1)) (sl (b9 (rt tP (rt tP t2)) (slR tP (app (app [] a0) [[(i t4.n.x),(i t4.n.y),(i t4.n.z),(i t4.b)]]) 0 ((0+(len a0))+1))) (some a1) none) none) none) (some ((b false),[]))) none) none) none) (some ((b false),[])))) none) none) none)) none) none) none) (sl t1 (sl (okE tP (rt tP t2)) (sl (okS tP [[(i t3.n.x),(i t3.n.y),(i t3.n.z),(i t3.b)]] 0 1) (sl (b9 (rt tP (rt tP t2)) (slR tP [[(i t3.n.x),(i t3.n.y),(i t3.n.z),(i t3.b)]] 0 1)) (sl (t14==(!t16.2.O7)) (sl (okE tP (rt tP t2)) (sl (okS tP (app (app [] a0) [[(i t4.n.x),(i t4.n.y),(i t4.n.z),(i t4.b)]]) 0 ((0+(len a0))+1)) (sl (b9 (rt tP (rt tP t2)) (slR tP (app (app [] a0) [[(i t4.n.x),(i t4.n.y),(i t4.n.z),(i t4.b)]]) 0 ((0+(len a0))+1))) (some a1) none) none) none) (some ((b false),[]))) none) none) none) (some ((b false),[]))))) none) none) none)) none) none) none) (sl t16.2.O7 (sl (okS tP (app (app [] a0) [[(i t4.n.x),(i t4.n.y),(i t4.n.z),(i t4.b)]]) 0 ((0+(len a0))+1)) (sl (okE tP (rt tP t2)) (sl (b9 (slR tP (app (app [] a0) [[(i t4.n.x),(i t4.n.y),(i t4.n.z),(i t4.b)]]) 0 ((0+(len a0))+1)) (rt tP (rt tP t2))) (sl (!t19) (some ((b false),[])) (sl (okS tP (app (app [] a0) [[(i t4.n.x),(i t4.n.y),(i t4.n.z),(i t4.b)]]) 0 ((0+(len a0))+1)) (sl (okE tP (rt tP t2)) (sl (f8 (slR tP (app (app [] a0) [[(i t4.n.x),(i t4.n.y),(i t4.n.z),(i t4.b)]]) 0 ((0+(len a0))+1)) (rt tP (rt tP t2))) (sl t20 (some ((b false),[])) (sl t1 (sl (okE tP (rt tP t2)) (sl (okS tP [[(i t3.n.x),(i t3.n.y),(i t3.n.z),(i t3.b)]] 0 1) (sl (b9 (rt tP (rt tP t2)) (slR tP [[(i t3.n.x),(i t3.n.y),(i t3.n.z),(i t3.b)]] 0 1)) (sl (t14==(!t16.2.O7)) (sl (okE tP (rt tP t2)) (sl (okS tP (app (app [] a0) [[(i t4.n.x),(i t4.n.y),(i t4.n.z),(i t4.b)]]) 0 ((0+(len a0))+1)) (sl (b9 (rt tP (rt tP t2)) (slR tP (app (app [] a0) [[(i t4.n.x),(i t4.n.y),(i t4.n.z),(i t4.b)]]) 0 ((0+(len a0))+1))) (some a1) none) none) none) (some ((b false),[]))) none) none) none) (some ((b false),[])))) none) none) none)) none) none) none) (sl t1 (sl (okE tP (rt tP t2)) (sl (okS tP [[(i t3.n.x),(i t3.n.y),(i t3.n.z),(i t3.b)]] 0 1) (sl (b9 (rt tP (rt tP t2)) (slR tP [[(i t3.n.x),(i t3.n.y),(i t3.n.z),(i t3.b)]] 0 1)) (sl (t14==(!t16.2.O7)) (sl (okE tP (rt tP t2)) (sl (okS tP (app (app [] a0) [[(i t4.n.x),(i t4.n.y),(i t4.n.z),(i t4.b)]]) 0 ((0+(len a0))+1)) (sl (b9 (rt tP (rt tP t2)) (slR tP (app (app [] a0) [[(i t4.n.x),(i t4.n.y),(i t4.n.z),(i t4.b)]]) 0 ((0+(len a0))+1))) (some a1) none) none) none) (some ((b false),[]))) none) none) none) (some ((b false),[])))))) none) none) none)) (sl (okS tP [[(i t3.n.x),(i t3.n.y),(i t3.n.z),(i t3.b)]] 0 1) (sl (okS tP (app (app [] a0) [[(i t4.n.x),(i t4.n.y),(i t4.n.z),(i t4.b)]]) 0 ((0+(len a0))+1)) (sl (f8 (slR tP [[(i t3.n.x),(i t3.n.y),(i t3.n.z),(i t3.b)]] 0 1) (slR tP (app (app [] a0) [[(i t4.n.x),(i t4.n.y),(i t4.n.z),(i t4.b)]]) 0 ((0+(len a0))+1))) (sl (!t18) (some ((b false),[])) (sl t16.2.fb1 (sl (okS tP [[(i t3.n.x),(i t3.n.y),(i t3.n.z),(i t3.b)]] 0 1) (sl (okE tP (rt tP t2)) (sl (b9 (slR tP [[(i t3.n.x),(i t3.n.y),(i t3.n.z),(i t3.b)]] 0 1) (rt tP (rt tP t2))) (sl (!t10) (some ((b false),[])) (sl (okS tP [[(i t3.n.x),(i t3.n.y),(i t3.n.z),(i t3.b)]] 0 1) (sl (okE tP (rt tP t2)) (sl (f8 (slR tP [[(i t3.n.x),(i t3.n.y),(i t3.n.z),(i t3.b)]] 0 1) (rt tP (rt tP t2))) (sl t11 (some ((b false),[])) (sl t16.2.O7 (sl (okS tP (app (app [] a0) [[(i t4.n.x),(i t4.n.y),(i t4.n.z),(i t4.b)]]) 0 ((0+(len a0))+1)) (sl (okE tP (rt tP t2)) (sl (b9 (slR tP (app (app [] a0) [[(i t4.n.x),(i t4.n.y),(i t4.n.z),(i t4.b)]]) 0 ((0+(len a0))+1)) (rt tP (rt tP t2))) (sl (!t19) (some ((b false),[])) (sl (okS tP (app (app [] a0) [[(i t4.n.x),(i t4.n.y),(i t4.n.z),(i t4.b)]]) 0 ((0+(len a0))+1)) (sl (okE tP (rt tP t2)) (sl (f8 (slR tP (app (app [] a0) [[(i t4.n.x),(i t4.n.y),(i t4.n.z),(i t4.b)]]) 0 ((0+(len a0))+1)) (rt tP (rt tP t2))) (sl t20 (some ((b false),[])) (sl t1 (sl (okE tP (rt tP t2)) (sl (okS tP [[(i t3.n.x),(i t3.n.y),(i t3.n.z),(i t3.b)]] 0 1) (sl (b9 (rt tP (rt tP t2)) (slR tP [[(i t3.n.x),(i t3.n.y),(i t3.n.z),(i t3.b)]] 0 1)) (sl (t14==(!t16.2.O7)) (sl (okE tP (rt tP t2)) (sl (okS tP (app (app [] a0) [[(i t4.n.x),(i t4.n.y),(i t4.n.z),(i t4.b)]]) 0 ((0+(len a0))+1)) (sl (b9 (rt tP (rt tP t2)) (slR tP (app (app [] a0) [[(i t4.n.x),(i t4.n.y),(i t4.n.z),(i t4.b)]]) 0 ((0+(len a0))+1))) (some a1) none) none) none) (some ((b false),[]))) none) none) none) (some ((b false),[])))) none) none) none)) none) none) none) (sl t1 (sl (okE tP (rt tP t2)) (sl (okS tP [[(i t3.n.x),(i t3.n.y),(i t3.n.z),(i t3.b)]] 0 1) (sl (b9 (rt tP (rt tP t2)) (slR tP [[(i t3.n.x),(i t3.n.y),(i t3.n.z),(i t3.b)]] 0 1)) (sl (t14==(!t16.2.O7)) (sl (okE tP (rt tP t2)) (sl (okS tP (app (app [] a0) [[(i t4.n.x),(i t4.n.y),(i t4.n.z),(i t4.b)]]) 0 ((0+(len a0))+1)) (sl (b9 (rt tP (rt tP t2)) (slR tP (app (app [] a0) [[(i t4.n.x),(i t4.n.y),(i t4.n.z),(i t4.b)]]) 0 ((0+(len a0))+1))) (some a1) none) none) none) (some ((b false),[]))) none) none) none) (some ((b false),[]))))) none) none) none)) none) none) none) (sl t16.2.O7 (sl (okS tP (app (app [] a0) [[(i t4.n.x),(i t4.n.y),(i t4.n.z),(i t4.b)]]) 0 ((0+(len a0))+1)) (sl (okE tP (rt tP t2)) (sl (b9 (slR tP (app (app [] a0) [[(i t4.n.x),(i t4.n.y),(i t4.n.z),(i t4.b)]]) 0 ((0+(len a0))+1)) (rt tP (rt tP t2))) (sl (!t19) (some ((b false),[])) (sl (okS tP (app (app [] a0) [[(i t4.n.x),(i t4.n.y),(i t4.n.z),(i t4.b)]]) 0 ((0+(len a0))+1)) (sl (okE tP (rt tP t2)) (sl (f8 (slR tP (app (app [] a0) [[(i t4.n.x),(i t4.n.y),(i t4.n.z),(i t4.b)]]) 0 ((0+(len a0))+1)) (rt tP (rt tP t2))) (sl t20 (some ((b false),[])) (sl t1 (sl (okE tP (rt tP t2)) (sl (okS tP [[(i t3.n.x),(i t3.n.y),(i t3.n.z),(i t3.b)]] 0 1) (sl (b9 (rt tP (rt tP t2)) (slR tP [[(i t3.n.x),(i t3.n.y),(i t3.n.z),(i t3.b)]] 0 1)) (sl (t14==(!t16.2.O7)) (sl (okE tP (rt tP t2)) (sl (okS tP (app (app [] a0) [[(i t4.n.x),(i t4.n.y),(i t4.n.z),(i t4.b)]]) 0 ((0+(len a0))+1)) (sl (b9 (rt tP (rt tP t2)) (slR tP (app (app [] a0) [[(i t4.n.x),(i t4.n.y),(i t4.n.z),(i t4.b)]]) 0 ((0+(len a0))+1))) (some a1) none) none) none) (some ((b false),[]))) none) none) none) (some ((b false),[])))) none) none) none)) none) none) none) (sl t1 (sl (okE tP (rt tP t2)) (sl (okS tP [[(i t3.n.x),(i t3.n.y),(i t3.n.z),(i t3.b)]] 0 1) (sl (b9 (rt tP (rt tP t2)) (slR tP [[(i t3.n.x),(i t3.n.y),(i t3.n.z),(i t3.b)]] 0 1)) (sl (t14==(!t16.2.O7)) (sl (okE tP (rt tP t2)) (sl (okS tP (app (app [] a0) [[(i t4.n.x),(i t4.n.y),(i t4.n.z),(i t4.b)]]) 0 ((0+(len a0))+1)) (sl (b9 (rt tP (rt tP t2)) (slR tP (app (app [] a0) [[(i t4.n.x),(i t4.n.y),(i t4.n.z),(i t4.b)]]) 0 ((0+(len a0))+1))) (some a1) none) none) none) (some ((b false),[]))) none) none) none) (some ((b false),[])))))) none) none) none))) none) none)) none) none) none) none) none) none) none) none)) (sl a7 (sl a5 (sl (Nat.beq (len a0) 0) (sl (okE tP t2) (sl (J5 (rt tP t2)) (sl a6 (sl (Nat.beq t22.1 1) (sl (okS tP (app (app [] a0) [[(i t3.n.x),(i t3.n.y),(i t3.n.z),(i t3.b)]]) 0 ((0+(len a0))+1)) (sl (G8 (slR tP (app (app [] a0) [[(i t3.n.x),(i t3.n.y),(i t3.n.z),(i t3.b)]]) 0 ((0+(len a0))+1))) (sl (!(t23==t22.2.fb1)) (some ((b false),[])) (sl (okS tP [[(i t4.n.x),(i t4.n.y),(i t4.n.z),(i t4.b)]] 0 1) (sl (G8 (slR tP [[(i t4.n.x),(i t4.n.y),(i t4.n.z),(i t4.b)]] 0 1)) (sl (!(t8==t22.2.O7)) (some ((b false),[])) (sl (!t22.2.fb1) (sl (!t22.2.O7) (some ((b false),[])) (sl (okS tP (app (app [] a0) [[(i t3.n.x),(i t3.n.y),(i t3.n.z),(i t3.b)]]) 0 ((0+(len a0))+1)) (sl (okS tP [[(i t4.n.x),(i t4.n.y),(i t4.n.z),(i t4.b)]] 0 1) (sl (f8 (slR tP (app (app [] a0) [[(i t3.n.x),(i t3.n.y),(i t3.n.z),(i t3.b)]]) 0 ((0+(len a0))+1)) (slR tP [[(i t4.n.x),(i t4.n.y),(i t4.n.z),(i t4.b)]] 0 1)) (sl (!t24) (some ((b false),[])) (sl t22.2.fb1 (sl (okS tP (app (app [] a0) [[(i t3.n.x),(i t3.n.y),(i t3.n.z),(i t3.b)]]) 0 ((0+(len a0))+1)) (sl (okE tP (rt tP t2)) (sl (b9 (slR tP (app (app [] a0) [[(i t3.n.x),(i t3.n.y),(i t3.n.z),(i t3.b)]]) 0 ((0+(len a0))+1)) (rt tP (rt tP t2))) (sl (!t25) (some ((b false),[])) (sl (okS tP (app (app [] a0) [[(i t3.n.x),(i t3.n.y),(i t3.n.z),(i t3.b)]]) 0 ((0+(len a0))+1)) (sl (okE tP (rt tP t2)) (sl (f8 (slR tP (app (app [] a0) [[(i t3.n.x),(i t3.n.y),(i t3.n.z),(i t3.b)]]) 0 ((0+(len a0))+1)) (rt tP (rt tP t2))) (sl t26 (some ((b false),[])) (sl t22.2.O7 (sl (okS tP [[(i t4.n.x),(i t4.n.y),(i t4.n.z),(i t4.b)]] 0 1) (sl (okE tP (rt tP t2)) (sl (b9 (slR tP [[(i t4.n.x),(i t4.n.y),(i t4.n.z),(i t4.b)]] 0 1) (rt tP (rt tP t2))) (sl (!t12) (some ((b false),[])) (sl (okS tP [[(i t4.n.x),(i t4.n.y),(i t4.n.z),(i t4.b)]] 0 1) (sl (okE tP (rt tP t2)) (sl (f8 (slR tP [[(i t4.n.x),(i t4.n.y),(i t4.n.z),(i t4.b)]] 0 1) (rt tP (rt tP t2))) (sl t13 (some ((b false),[])) (sl t1 (sl (okE tP (rt tP t2)) (sl (okS tP (app (app [] a0) [[(i t3.n.x),(i t3.n.y),(i t3.n.z),(i t3.b)]]) 0 ((0+(len a0))+1)) (sl (b9 (rt tP (rt tP t2)) (slR tP (app (app [] a0) [[(i t3.n.x),(i t3.n.y),(i t3.n.z),(i t3.b)]]) 0 ((0+(len a0))+1))) (sl (t27==(!t22.2.O7)) (sl (okE tP (rt tP t2)) (sl (okS tP [[(i t4.n.x),(i t4.n.y),(i t4.n.z),(i t4.b)]] 0 1) (sl (b9 (rt tP (rt tP t2)) (slR tP [[(i t4.n.x),(i t4.n.y),(i t4.n.z),(i t4.b)]] 0 1)) (some a2) none) none) none) (some ((b false),[]))) none) none) none) (some ((b false),[])))) none) none) none)) none) none) none) (sl t1 (sl (okE tP (rt tP t2)) (sl (okS tP (app (app [] a0) [[(i t3.n.x),(i t3.n.y),(i t3.n.z),(i t3.b)]]) 0 ((0+(len a0))+1)) (sl (b9 (rt tP (rt tP t2)) (slR tP (app (app [] a0) [[(i t3.n.x),(i t3.n.y),(i t3.n.z),(i t3.b)]]) 0 ((0+(len a0))+1))) (sl (t27==(!t22.2.O7)) (sl (okE tP (rt tP t2)) (sl (okS tP [[(i t4.n.x),(i t4.n.y),(i t4.n.z),(i t4.b)]] 0 1) (sl (b9 (rt tP (rt tP t2)) (slR tP [[(i t4.n.x),(i t4.n.y),(i t4.n.z),(i t4.b)]] 0 1)) (some a2) none) none) none) (some ((b false),[]))) none) none) none) (some ((b false),[]))))) none) none) none)) none) none) none) (sl t22.2.O7 (sl (okS tP [[(i t4.n.x),(i t4.n.y),(i t4.n.z),(i t4.b)]] 0 1) (sl (okE tP (rt tP t2)) (sl (b9 (slR tP [[(i t4.n.x),(i t4.n.y),(i t4.n.z),(i t4.b)]] 0 1) (rt tP (rt tP t2))) (sl (!t12) (some ((b false),[])) (sl (okS tP [[(i t4.n.x),(i t4.n.y),(i t4.n.z),(i t4.b)]] 0 1) (sl (okE tP (rt tP t2)) (sl (f8 (slR tP [[(i t4.n.x),(i t4.n.y),(i t4.n.z),(i t4.b)]] 0 1) (rt tP (rt tP t2))) (sl t13 (some ((b false),[])) (sl t1 (sl (okE tP (rt tP t2)) (sl (okS tP (app (app [] a0) [[(i t3.n.x),(i t3.n.y),(i t3.n.z),(i t3.b)]]) 0 ((0+(len a0))+1)) (sl (b9 (rt tP (rt tP t2)) (slR tP (app (app [] a0) [[(i t3.n.x),(i t3.n.y),(i t3.n.z),(i t3.b)]]) 0 ((0+(len a0))+1))) (sl (t27==(!t22.2.O7)) (sl (okE tP (rt tP t2)) (sl (okS tP [[(i t4.n.x),(i t4.n.y),(i t4.n.z),(i t4.b)]] 0 1) (sl (b9 (rt tP (rt tP t2)) (slR tP [[(i t4.n.x),(i t4.n.y),(i t4.n.z),(i t4.b)]] 0 1)) (some a2) none) none) none) (some ((b false),[]))) none) none) none) (some ((b false),[])))) none) none) none)) none) none) none) (sl t1 (sl (okE tP (rt tP t2)) (sl (okS tP (app (app [] a0) [[(i t3.n.x),(i t3.n.y),(i t3.n.z),(i t3.b)]]) 0 ((0+(len a0))+1)) (sl (b9 (rt tP (rt tP t2)) (slR tP (app (app [] a0) [[(i t3.n.x),(i t3.n.y),(i t3.n.z),(i t3.b)]]) 0 ((0+(len a0))+1))) (sl (t27==(!t22.2.O7)) (sl (okE tP (rt tP t2)) (sl (okS tP [[(i t4.n.x),(i t4.n.y),(i t4.n.z),(i t4.b)]] 0 1) (sl (b9 (rt tP (rt tP t2)) (slR tP [[(i t4.n.x),(i t4.n.y),(i t4.n.z),(i t4.b)]] 0 1)) (some a2) none) none) none) (some ((b false),[]))) none) none) none) (some ((b false),[])))))) none) none) none)) (sl (okS tP (app (app [] a0) [[(i t3.n.x),(i t3.n.y),(i t3.n.z),(i t3.b)]]) 0 ((0+(len a0))+1)) (sl (okS tP [[(i t4.n.x),(i t4.n.y),(i t4.n.z),(i t4.b)]] 0 1) (sl (f8 (slR tP (app (app [] a0) [[(i t3.n.x),(i t3.n.y),(i t3.n.z),(i t3.b)]]) 0 ((0+(len a0))+1)) (slR tP [[(i t4.n.x),(i t4.n.y),(i t4.n.z),(i t4.b)]] 0 1)) (sl (!t24) (some ((b false),[])) (sl t22.2.fb1 (sl (okS tP (app (app [] a0) [[(i t3.n.x),(i t3.n.y),(i t3.n.z),(i t3.b)]]) 0 ((0+(len a0))+1)) (sl (okE tP (rt tP t2)) (sl (b9 (slR tP (app (app [] a0) [[(i t3.n.x),(i t3.n.y),(i t3.n.z),(i t3.b)]]) 0 ((0+(len a0))+1)) (rt tP (rt tP t2))) (sl (!t25) (some ((b false),[])) (sl (okS tP (app (app [] a0) [[(i t3.n.x),(i t3.n.y),(i t3.n.z),(i t3.b)]]) 0 ((0+(len a0))+1)) (sl (okE tP (rt tP t2)) (sl (f8 (slR tP (app (app [] a0) [[(i t3.n.x),(i t3.n.y),(i t3.n.z),(i t3.b)]]) 0 ((0+(len a0))+1)) (rt tP (rt tP t2))) (sl t26 (some ((b false),[])) (sl t22.2.O7 (sl (okS tP [[(i t4.n.x),(i t4.n.y),(i t4.n.z),(i t4.b)]] 0 1) (sl (okE tP (rt tP t2)) (sl (b9 (slR tP [[(i t4.n.x),(i t4.n.y),(i t4.n.z),(i t4.b)]] 0 1) (rt tP (rt tP t2))) (sl (!t12) (some ((b false),[])) (sl (okS tP [[(i t4.n.x),(i t4.n.y),(i t4.n.z),(i t4.b)]] 0 1) (sl (okE tP (rt tP t2)) (sl (f8 (slR tP [[(i t4.n.x),(i t4.n.y),(i t4.n.z),(i t4.b)]] 0 1) (rt tP (rt tP t2))) (sl t13 (some ((b false),[])) (sl t1 (sl (okE tP (rt tP t2)) (sl (okS tP (app (app [] a0) [[(i t3.n.x),(i t3.n.y),(i t3.n.z),(i t3.b)]]) 0 ((0+(len a0))+1)) (sl (b9 (rt tP (rt tP t2)) (slR tP (app (app [] a0) [[(i t3.n.x),(i t3.n.y),(i t3.n.z),(i t3.b)]]) 0 ((0+(len a0))+1))) (sl (t27==(!t22.2.O7)) (sl (okE tP (rt tP t2)) (sl (okS tP [[(i t4.n.x),(i t4.n.y),(i t4.n.z),(i t4.b)]] 0 1) (sl (b9 (rt tP (rt tP t2)) (slR tP [[(i t4.n.x),(i t4.n.y),(i t4.n.z),(i t4.b)]] 0 1)) (some a2) none) none) none) (some ((b false),[]))) none) none) none) (some ((b false),[])))) none) none) none)) none) none) none) (sl t1 (sl (okE tP (rt tP t2)) (sl (okS tP (app (app [] a0) [[(i t3.n.x),(i t3.n.y),(i t3.n.z),(i t3.b)]]) 0 ((0+(len a0))+1)) (sl (b9 (rt tP (rt tP t2)) (slR tP (app (app [] a0) [[(i t3.n.x),(i t3.n.y),(i t3.n.z),(i t3.b)]]) 0 ((0+(len a0))+1))) (sl (t27==(!t22.2.O7)) (sl (okE tP (rt tP t2)) (sl (okS tP [[(i t4.n.x),(i t4.n.y),(i t4.n.z),(i t4.b)]] 0 1) (sl (b9 (rt tP (rt tP t2)) (slR tP [[(i t4.n.x),(i t4.n.y),(i t4.n.z),(i t4.b)]] 0 1)) (some a2) none) none) none) (some ((b false),[]))) none) none) none) (some ((b false),[]))))) none) none) none)) none) none) none) (sl t22.2.O7 (sl (okS tP [[(i t4.n.x),(i t4.n.y),(i t4.n.z),(i t4.b)]] 0 1) (sl (okE tP (rt tP t2)) (sl (b9 (slR tP [[(i t4.n.x),(i t4.n.y),(i t4.n.z),(i t4.b)]] 0 1) (rt tP (rt tP t2))) (sl (!t12) (some ((b false),[])) (sl (okS tP [[(i t4.n.x),(i t4.n.y),(i t4.n.z),(i t4.b)]] 0 1) (sl (okE tP (rt tP t2)) (sl (f8 (slR tP [[(i t4.n.x),(i t4.n.y),(i t4.n.z),(i t4.b)]] 0 1) (rt tP (rt tP t2))) (sl t13 (some ((b false),[])) (sl t1 (sl (okE tP (rt tP t2)) (sl (okS tP (app (app [] a0) [[(i t3.n.x),(i t3.n.y),(i t3.n.z),(i t3.b)]]) 0 ((0+(len a0))+1)) (sl (b9 (rt tP (rt tP t2)) (slR tP (app (app [] a0) [[(i t3.n.x),(i t3.n.y),(i t3.n.z),(i t3.b)]]) 0 ((0+(len a0))+1))) (sl (t27==(!t22.2.O7)) (sl (okE tP (rt tP t2)) (sl (okS tP [[(i t4.n.x),(i t4.n.y),(i t4.n.z),(i t4.b)]] 0 1) (sl (b9 (rt tP (rt tP t2)) (slR tP [[(i t4.n.x),(i t4.n.y),(i t4.n.z),(i t4.b)]] 0 1)) (some a2) none) none) none) (some ((b false),[]))) none) none) none) (some ((b false),[])))) none) none) none)) none) none) none) (sl t1 (sl (okE tP (rt tP t2)) (sl (okS tP (app (app [] a0) [[(i t3.n.x),(i t3.n.y),(i t3.n.z),(i t3.b)]]) 0 ((0+(len a0))+1)) (sl (b9 (rt tP (rt tP t2)) (slR tP (app (app [] a0) [[(i t3.n.x),(i t3.n.y),(i t3.n.z),(i t3.b)]]) 0 ((0+(len a0))+1))) (sl (t27==(!t22.2.O7)) (sl (okE tP (rt tP t2)) (sl (okS tP [[(i t4.n.x),(i t4.n.y),(i t4.n.z),(i t4.b)]] 0 1) (sl (b9 (rt tP (rt tP t2)) (slR tP [[(i t4.n.x),(i t4.n.y),(i t4.n.z),(i t4.b)]] 0 1)) (some a2) none) none) none) (some ((b false),[]))) none) none) none) (some ((b false),[])))))) none) none) none))) none) none)) none) none) none) none) none) none) (sl a7 (sl a5 (sl (okE tP t2) (sl (J5 (rt tP t2)) (sl a6 (sl (Nat.beq t28.1 1) (sl (okS tP (app (app [] a0) [[(i t3.n.x),(i t3.n.y),(i t3.n.z),(i t3.b)]]) 0 ((0+(len a0))+1)) (sl (G8 (slR tP (app (app [] a0) [[(i t3.n.x),(i t3.n.y),(i t3.n.z),(i t3.b)]]) 0 ((0+(len a0))+1))) (sl (!(t23==t28.2.fb1)) (some ((b false),[])) (sl (okS tP (app (app [] a0) [[(i t4.n.x),(i t4.n.y),(i t4.n.z),(i t4.b)]]) 0 ((0+(len a0))+1)) (sl (G8 (slR tP (app (app [] a0) [[(i t4.n.x),(i t4.n.y),(i t4.n.z),(i t4.b)]]) 0 ((0+(len a0))+1))) (sl (!(t17==t28.2.O7)) (some ((b false),[])) (sl (!t28.2.fb1) (sl (!t28.2.O7) (some ((b false),[])) (sl (okS tP (app (app [] a0) [[(i t3.n.x),(i t3.n.y),(i t3.n.z),(i t3.b)]]) 0 ((0+(len a0))+1)) (sl (okS tP (app (app [] a0) [[(i t4.n.x),(i t4.n.y),(i t4.n.z),(i t4.b)]]) 0 ((0+(len a0))+1)) (sl (f8 (slR tP (app (app [] a0) [[(i t3.n.x),(i t3.n.y),(i t3.n.z),(i t3.b)]]) 0 ((0+(len a0))+1)) (slR tP (app (app [] a0) [[(i t4.n.x),(i t4.n.y),(i t4.n.z),(i t4.b)]]) 0 ((0+(len a0))+1))) (sl (!t29) (some ((b false),[])) (sl t28.2.fb1 (sl (okS tP (app (app [] a0) [[(i t3.n.x),(i t3.n.y),(i t3.n.z),(i t3.b)]]) 0 ((0+(len a0))+1)) (sl (okE tP (rt tP t2)) (sl (b9 (slR tP (app (app [] a0) [[(i t3.n.x),(i t3.n.y),(i t3.n.z),(i t3.b)]]) 0 ((0+(len a0))+1)) (rt tP (rt tP t2))) (sl (!t25) (some ((b false),[])) (sl (okS tP (app (app [] a0) [[(i t3.n.x),(i t3.n.y),(i t3.n.z),(i t3.b)]]) 0 ((0+(len a0))+1)) (sl (okE tP (rt tP t2)) (sl (f8 (slR tP (app (app [] a0) [[(i t3.n.x),(i t3.n.y),(i t3.n.z),(i t3.b)]]) 0 ((0+(len a0))+1)) (rt tP (rt tP t2))) (sl t26 (some ((b false),[])) (sl t28.2.O7 (sl (okS tP (app (app [] a0) [[(i t4.n.x),(i t4.n.y),(i t4.n.z),(i t4.b)]]) 0 ((0+(len a0))+1)) (sl (okE tP (rt tP t2)) (sl (b9 (slR tP (app (app [] a0) [[(i t4.n.x),(i t4.n.y),(i t4.n.z),(i t4.b)]]) 0 ((0+(len a0))+1)) (rt tP (rt tP t2))) (sl (!t19) (some ((b false),[])) (sl (okS tP (app (app [] a0) [[(i t4.n.x),(i t4.n.y),(i t4.n.z),(i t4.b)]]) 0 ((0+(len a0))+1)) (sl (okE tP (rt tP t2)) (sl (f8 (slR tP (app (app [] a0) [[(i t4.n.x),(i t4.n.y),(i t4.n.z),(i t4.b)]]) 0 ((0+(len a0))+1)) (rt tP (rt tP t2))) (sl t20 (some ((b false),[])) (sl t1 (sl (okE tP (rt tP t2)) (sl (okS tP (app (app [] a0) [[(i t3.n.x),(i t3.n.y),(i t3.n.z),(i t3.b)]]) 0 ((0+(len a0))+1)) (sl (b9 (rt tP (rt tP t2)) (slR tP (app (app [] a0) [[(i t3.n.x),(i t3.n.y),(i t3.n.z),(i t3.b)]]) 0 ((0+(len a0))+1))) (sl (t27==(!t28.2.O7)) (sl (okE tP (rt tP t2)) (sl (okS tP (app (app [] a0) [[(i t4.n.x),(i t4.n.y),(i t4.n.z),(i t4.b)]]) 0 ((0+(len a0))+1)) (sl (b9 (rt tP (rt tP t2)) (slR tP (app (app [] a0) [[(i t4.n.x),(i t4.n.y),(i t4.n.z),(i t4.b)]]) 0 ((0+(len a0))+1))) (some a3) none) none) none) (some ((b false),[]))) none) none) none) (some ((b false),[])))) none) none) none)) none) none) none) (sl t1 (sl (okE tP (rt tP t2)) (sl (okS tP (app (app [] a0) [[(i t3.n.x),(i t3.n.y),(i t3.n.z),(i t3.b)]]) 0 ((0+(len a0))+1)) (sl (b9 (rt tP (rt tP t2)) (slR tP (app (app [] a0) [[(i t3.n.x),(i t3.n.y),(i t3.n.z),(i t3.b)]]) 0 ((0+(len a0))+1))) (sl (t27==(!t28.2.O7)) (sl (okE tP (rt tP t2)) (sl (okS tP (app (app [] a0) [[(i t4.n.x),(i t4.n.y),(i t4.n.z),(i t4.b)]]) 0 ((0+(len a0))+1)) (sl (b9 (rt tP (rt tP t2)) (slR tP (app (app [] a0) [[(i t4.n.x),(i t4.n.y),(i t4.n.z),(i t4.b)]]) 0 ((0+(len a0))+1))) (some a3) none) none) none) (some ((b false),[]))) none) none) none) (some ((b false),[]))))) none) none) none)) none) none) none) (sl t28.2.O7 (sl (okS tP (app (app [] a0) [[(i t4.n.x),(i t4.n.y),(i t4.n.z),(i t4.b)]]) 0 ((0+(len a0))+1)) (sl (okE tP (rt tP t2)) (sl (b9 (slR tP (app (app [] a0) [[(i t4.n.x),(i t4.n.y),(i t4.n.z),(i t4.b)]]) 0 ((0+(len a0))+1)) (rt tP (rt tP t2))) (sl (!t19) (some ((b false),[])) (sl (okS tP (app (app [] a0) [[(i t4.n.x),(i t4.n.y),(i t4.n.z),(i t4.b)]]) 0 ((0+(len a0))+1)) (sl (okE tP (rt tP t2)) (sl (f8 (slR tP (app (app [] a0) [[(i t4.n.x),(i t4.n.y),(i t4.n.z),(i t4.b)]]) 0 ((0+(len a0))+1)) (rt tP (rt tP t2))) (sl t20 (some ((b false),[])) (sl t1 (sl (okE tP (rt tP t2)) (sl (okS tP (app (app [] a0) [[(i t3.n.x),(i t3.n.y),(i t3.n.z),(i t3.b)]]) 0 ((0+(len a0))+1)) (sl (b9 (rt tP (rt tP t2)) (slR tP (app (app [] a0) [[(i t3.n.x),(i t3.n.y),(i t3.n.z),(i t3.b)]]) 0 ((0+(len a0))+1))) (sl (t27==(!t28.2.O7)) (sl (okE tP (rt tP t2)) (sl (okS tP (app (app [] a0) [[(i t4.n.x),(i t4.n.y),(i t4.n.z),(i t4.b)]]) 0 ((0+(len a0))+1)) (sl (b9 (rt tP (rt tP t2)) (slR tP (app (app [] a0) [[(i t4.n.x),(i t4.n.y),(i t4.n.z),(i t4.b)]]) 0 ((0+(len a0))+1))) (some a3) none) none) none) (some ((b false),[]))) none) none) none) (some ((b false),[])))) none) none) none)) none) none) none) (sl t1 (sl (okE tP (rt tP t2)) (sl (okS tP (app (app [] a0) [[(i t3.n.x),(i t3.n.y),(i t3.n.z),(i t3.b)]]) 0 ((0+(len a0))+1)) (sl (b9 (rt tP (rt tP t2)) (slR tP (app (app [] a0) [[(i t3.n.x),(i t3.n.y),(i t3.n.z),(i t3.b)]]) 0 ((0+(len a0))+1))) (sl (t27==(!t28.2.O7)) (sl (okE tP (rt tP t2)) (sl (okS tP (app (app [] a0) [[(i t4.n.x),(i t4.n.y),(i t4.n.z),(i t4.b)]]) 0 ((0+(len a0))+1)) (sl (b9 (rt tP (rt tP t2)) (slR tP (app (app [] a0) [[(i t4.n.x),(i t4.n.y),(i t4.n.z),(i t4.b)]]) 0 ((0+(len a0))+1))) (some a3) none) none) none) (some ((b false),[]))) none) none) none) (some ((b false),[])))))) none) none) none)) (sl (okS tP (app (app [] a0) [[(i t3.n.x),(i t3.n.y),(i t3.n.z),(i t3.b)]]) 0 ((0+(len a0))+1)) (sl (okS tP (app (app [] a0) [[(i t4.n.x),(i t4.n.y),(i t4.n.z),(i t4.b)]]) 0 ((0+(len a0))+1)) (sl (f8 (slR tP (app (app [] a0) [[(i t3.n.x),(i t3.n.y),(i t3.n.z),(i t3.b)]]) 0 ((0+(len a0))+1)) (slR tP (app (app [] a0) [[(i t4.n.x),(i t4.n.y),(i t4.n.z),(i t4.b)]]) 0 ((0+(len a0))+1))) (sl (!t29) (some ((b false),[])) (sl t28.2.fb1 (sl (okS tP (app (app [] a0) [[(i t3.n.x),(i t3.n.y),(i t3.n.z),(i t3.b)]]) 0 ((0+(len a0))+1)) (sl (okE tP (rt tP t2)) (sl (b9 (slR tP (app (app [] a0) [[(i t3.n.x),(i t3.n.y),(i t3.n.z),(i t3.b)]]) 0 ((0+(len a0))+1)) (rt tP (rt tP t2))) (sl (!t25) (some ((b false),[])) (sl (okS tP (app (app [] a0) [[(i t3.n.x),(i t3.n.y),(i t3.n.z),(i t3.b)]]) 0 ((0+(len a0))+1)) (sl (okE tP (rt tP t2)) (sl (f8 (slR tP (app (app [] a0) [[(i t3.n.x),(i t3.n.y),(i t3.n.z),(i t3.b)]]) 0 ((0+(len a0))+1)) (rt tP (rt tP t2))) (sl t26 (some ((b false),[])) (sl t28.2.O7 (sl (okS tP (app (app [] a0) [[(i t4.n.x),(i t4.n.y),(i t4.n.z),(i t4.b)]]) 0 ((0+(len a0))+1)) (sl (okE tP (rt tP t2)) (sl (b9 (slR tP (app (app [] a0) [[(i t4.n.x),(i t4.n.y),(i t4.n.z),(i t4.b)]]) 0 ((0+(len a0))+1)) (rt tP (rt tP t2))) (sl (!t19) (some ((b false),[])) (sl (okS tP (app (app [] a0) [[(i t4.n.x),(i t4.n.y),(i t4.n.z),(i t4.b)]]) 0 ((0+(len a0))+1)) (sl (okE tP (rt tP t2)) (sl (f8 (slR tP (app (app [] a0) [[(i t4.n.x),(i t4.n.y),(i t4.n.z),(i t4.b)]]) 0 ((0+(len a0))+1)) (rt tP (rt tP t2))) (sl t20 (some ((b false),[])) (sl t1 (sl (okE tP (rt tP t2)) (sl (okS tP (app (app [] a0) [[(i t3.n.x),(i t3.n.y),(i t3.n.z),(i t3.b)]]) 0 ((0+(len a0))+1)) (sl (b9 (rt tP (rt tP t2)) (slR tP (app (app [] a0) [[(i t3.n.x),(i t3.n.y),(i t3.n.z),(i t3.b)]]) 0 ((0+(len a0))+1))) (sl (t27==(!t28.2.O7)) (sl (okE tP (rt tP t2)) (sl (okS tP (app (app [] a0) [[(i t4.n.x),(i t4.n.y),(i t4.n.z),(i t4.b)]]) 0 ((0+(len a0))+1)) (sl (b9 (rt tP (rt tP t2)) (slR tP (app (app [] a0) [[(i t4.n.x),(i t4.n.y),(i t4.n.z),(i t4.b)]]) 0 ((0+(len a0))+1))) (some a3) none) none) none) (some ((b false),[]))) none) none) none) (some ((b false),[])))) none) none) none)) none) none) none) (sl t1 (sl (okE tP (rt tP t2)) (sl (okS tP (app (app [] a0) [[(i t3.n.x),(i t3.n.y),(i t3.n.z),(i t3.b)]]) 0 ((0+(len a0))+1)) (sl (b9 (rt tP (rt tP t2)) (slR tP (app (app [] a0) [[(i t3.n.x),(i t3.n.y),(i t3.n.z),(i t3.b)]]) 0 ((0+(len a0))+1))) (sl (t27==(!t28.2.O7)) (sl (okE tP (rt tP t2)) (sl (okS tP (app (app [] a0) [[(i t4.n.x),(i t4.n.y),(i t4.n.z),(i t4.b)]]) 0 ((0+(len a0))+1)) (sl (b9 (rt tP (rt tP t2)) (slR tP (app (app [] a0) [[(i t4.n.x),(i t4.n.y),(i t4.n.z),(i t4.b)]]) 0 ((0+(len a0))+1))) (some a3) none) none) none) (some ((b false),[]))) none) none) none) (some ((b false),[]))))) none) none) none)) none) none) none) (sl t28.2.O7 (sl (okS tP (app (app [] a0) [[(i t4.n.x),(i t4.n.y),(i t4.n.z),(i t4.b)]]) 0 ((0+(len a0))+1)) (sl (okE tP (rt tP t2)) (sl (b9 (slR tP (app (app [] a0) [[(i t4.n.x),(i t4.n.y),(i t4.n.z),(i t4.b)]]) 0 ((0+(len a0))+1)) (rt tP (rt tP t2))) (sl (!t19) (some ((b false),[])) (sl (okS tP (app (app [] a0) [[(i t4.n.x),(i t4.n.y),(i t4.n.z),(i t4.b)]]) 0 ((0+(len a0))+1)) (sl (okE tP (rt tP t2)) (sl (f8 (slR tP (app (app [] a0) [[(i t4.n.x),(i t4.n.y),(i t4.n.z),(i t4.b)]]) 0 ((0+(len a0))+1)) (rt tP (rt tP t2))) (sl t20 (some ((b false),[])) (sl t1 (sl (okE tP (rt tP t2)) (sl (okS tP (app (app [] a0) [[(i t3.n.x),(i t3.n.y),(i t3.n.z),(i t3.b)]]) 0 ((0+(len a0))+1)) (sl (b9 (rt tP (rt tP t2)) (slR tP (app (app [] a0) [[(i t3.n.x),(i t3.n.y),(i t3.n.z),(i t3.b)]]) 0 ((0+(len a0))+1))) (sl (t27==(!t28.2.O7)) (sl (okE tP (rt tP t2)) (sl (okS tP (app (app [] a0) [[(i t4.n.x),(i t4.n.y),(i t4.n.z),(i t4.b)]]) 0 ((0+(len a0))+1)) (sl (b9 (rt tP (rt tP t2)) (slR tP (app (app [] a0) [[(i t4.n.x),(i t4.n.y),(i t4.n.z),(i t4.b)]]) 0 ((0+(len a0))+1))) (some a3) none) none) none) (some ((b false),[]))) none) none) none) (some ((b false),[])))) none) none) none)) none) none) none) (sl t1 (sl (okE tP (rt tP t2)) (sl (okS tP (app (app [] a0) [[(i t3.n.x),(i t3.n.y),(i t3.n.z),(i t3.b)]]) 0 ((0+(len a0))+1)) (sl (b9 (rt tP (rt tP t2)) (slR tP (app (app [] a0) [[(i t3.n.x),(i t3.n.y),(i t3.n.z),(i t3.b)]]) 0 ((0+(len a0))+1))) (sl (t27==(!t28.2.O7)) (sl (okE tP (rt tP t2)) (sl (okS tP (app (app [] a0) [[(i t4.n.x),(i t4.n.y),(i t4.n.z),(i t4.b)]]) 0 ((0+(len a0))+1)) (sl (b9 (rt tP (rt tP t2)) (slR tP (app (app [] a0) [[(i t4.n.x),(i t4.n.y),(i t4.n.z),(i t4.b)]]) 0 ((0+(len a0))+1))) (some a3) none) none) none) (some ((b false),[]))) none) none) none) (some ((b false),[])))))) none) none) none))) none) none)) none) none) none) none) none) none) none) none)) none) none)) none) none) none) none) none)
noncomputable def ya1 (x:List Int) (y:List Int):Bool:=P4 (one r1B) (oa1 x y)
noncomputable def ya2 (x:List Int) (y:List Int):Bool:=okO (one r1B) (oa1 x y)
noncomputable def jc3:Sum:=la2 (ia2 tI) (ia2 tI) (fun x y=>.guard (ya2 x y) (.ret ((one r1B).enc (ya1 x y),[])))
theorem bc9:j6 prog G 6 jc3:=nb9 (bd b6 Sb2) (one r1B) (o:=oa1) fun x y=>Da2 (.s .p (.s .p (.s .p (.s .p (.s .p (.s .p (.s (.s .p (.b (.u Ea3.ls))) .p))))))) [Ea3.pr] (by kernel_rfl) (.cons Mb0 .nil) (by kernel_rfl)
end Go.Ev.Ce
end
namespace Go.Ev.Ce
open Go Go.Ev Go.Ev.L Go.Proofs
theorem le0 {p:Pln} (h:Bd p):Ya7 p=ha4 p:=by
 unfold Ya7 Gb8 ha4
 simp only
 have:=h.x1;have:=h.x2;have:=h.y1;have:=h.y2;have:=h.z1;have:=h.z2;have:=h.b1;have:=h.b2
 rw[Z3 (by omega) (by omega),Z3 (by omega) (by omega),Z3 (by omega) (by omega),Z3 (by omega) (by omega)]
 simp only[Int.zero_sub]
theorem pe4 {α:Type} (f g:α→Bool):∀ (l:List α) (a c:Bool),l.foldl (fun s x=>(s.1||f x,s.2||g x)) (a,c)=(a||l.any f,c||l.any g)
 | [],a,c=>by simp
 | x::l,a,c=>by
  rw[List.foldl_cons,pe4 f g l,List.any_cons,List.any_cons,Bool.or_assoc,Bool.or_assoc]
theorem Md2 (b0 : Bool) (c : List Pln) (n1 n2 : Nat) (X : List Pt) (p : Pln) (r1 r2 : List (List b7)) (hX : X.length ≤ 1000000000) :
  lp (B9 ⟨b0,c,n1,n2,X,(X.length:Int),p.n.x,p.n.y,p.n.z,p.b,r1,r2⟩) ⟨false,false,0⟩=(1,⟨X.any fun x=>decide (rm p x > 0),X.any fun x=>decide (rm p x < 0),(X.length:Int)⟩):=by
 have h:=Ib6 (step:=B9 ⟨b0,c,n1,n2,X,(X.length:Int),p.n.x,p.n.y,p.n.z,p.b,r1,r2⟩) (mk:=fun j (s:Bool×Bool)=>(⟨s.1,s.2,(j:Int)⟩:v7))
  (f:=fun s x=>(s.1||decide (rm p x > 0),s.2||decide (rm p x < 0))) (fin:=1) tX X (fun _ _=>True) hX
  (fun j s hj _=>by
   refine⟨?_,trivial⟩
   obtain⟨s1,s2⟩:=s
   simp only[B9,Y4,Int.toNat_natCast,Xc2,o2 hj (show X.length≤4611686018427387904 by omega)]
   rw[btD (l0 hj),bt (e8 hj)]
   cases s1<;>cases s2<;>rfl)
  (fun s _=>by simp only[B9,Y4];rw[bfD (y5 (Nat.lt_irrefl _))]) 0 (Nat.zero_le _) (false,false) trivial
 have h:=h.1
 rw[List.drop_zero,pe4,Bool.false_or,Bool.false_or] at h
 exact h
theorem Ed9 (x y:List Int):oa1 x y=some (b true,[]):=by
 have hg:=pd9 x
 have hp:=Ed8 y
 have hm:=ve0 x
 have hfl:=le0 (Ma6 hp)
 unfold oa1
 simp only[l8,L0,l6,Wd7,Wd8,ue9,Zc0,hfl]
 generalize db5 x=c at *
 generalize Da7 y=p at *
 have hl:=hg.l
 have hc:c.length≤1000000000:=by omega
 have hX:=rc2 c
 have hpf:=eb8 hp
 have lp1:(c++[p]).length≤48:=by rw[List.length_append,List.length_singleton];omega
 have lq1:(c++[ha4 p]).length≤48:=by rw[List.length_append,List.length_singleton];omega
 have hA:(c++[p]).length≤1000000000:=by omega
 have hB:(c++[ha4 p]).length≤1000000000:=by omega
 have hA':(c++[p]).length≤100000000:=by omega
 have hB':(c++[ha4 p]).length≤100000000:=by omega
 have hc':c.length≤100000000:=by omega
 have loop:=fun n1 n2 r1 r2=>Md2 true c n1 n2 (pts c) p r1 r2 (by omega)
 have e1:((pts c).any fun x=>decide (rm p x > 0))=cin c p:=rfl
 have e2:((pts c).any fun x=>decide (rm p x < 0))=cout c p:=rfl
 rw[e1,e2] at loop
 have f1:=bd2 hg hp
 have f2:ful (c++[ha4 p])=cout c p:=by rw[bd2 hg hpf,jc2 hg hp]
 have f3:=Md1 hg hp
 have f4:=xe9 hg hp
 have f5:=qd0 hg hp
 have f6:Ec0 c (c++[ha4 p])=!cin c p:=by
  rw[qd0 hg hpf,← jc2 hg hpf]
  rw[show ha4 (ha4 p)=p from Ld2 p]
 have g1:=fun h=>ae3 hg hp h
 have g2:cout c p=true→Ec0 (c++[ha4 p]) c=true∧apart (c++[ha4 p]) c=false:=fun h=>ae3 hg hpf (by rw[jc2 hg hp];exact h)
 have ea:∀ q:Pln,app (app [] (bL tP c)) [[(i q.n.x),(i q.n.y),(i q.n.z),(i q.b)]]=bL tP (c++[q]):=fun q=>Fb6 c q.n.x q.n.y q.n.z q.b
 have es:∀ q:Pln,slR tP (bL tP (c++[q])) 0 ((0+len (bL tP c))+1)=c++[q]:=fun q=>by
  have:=Bb8 tP (c++[q])
  rw[List.length_append,List.length_singleton] at this
  rw[L1,Nat.zero_add]
  exact this
 have eo:∀ q:Pln,okS tP (bL tP (c++[q])) 0 ((0+len (bL tP c))+1)=true:=fun q=>by
  have:=Bb9 tP (c++[q])
  rw[List.length_append,List.length_singleton] at this
  rw[L1,Nat.zero_add]
  exact this
 have q1:Nat.ble ((0+len (bL tP c))*32) room=true:=Y7 (by rw[L1];omega)
 have q2:Nat.ble (((0+len (bL tP c))+1)*32) room=true:=Y7 (by rw[L1];omega)
 have q3:Nat.beq (0+len (bL tP c)) (len (app [] (bL tP c)))=true:=by
  rw[Nat.zero_add,show app [] (bL tP c)=bL tP c from rfl,Nat.beq_refl]
 simp only[Pa3,ea,es,eo,q1,q2,q3,loop,pb7 hc,pb8 hc,ub5 hA,ub6 hA,ub5 hB,ub6 hB,wb1 hA' hB',wb2 hA' hB',wb1 hA' hc',wb2 hA' hc',wb1 hB' hc',wb2 hB' hc',
  Ja8 hA hc,Ja9 hA hc,Ja8 hB hc,Ja9 hB hc,Ja8 hc hA,Ja9 hc hA,Ja8 hc hB,Ja9 hc hB,f1,f2,f3,f5,f6,n5,Bool.and_self,Nat.beq_refl,beq_self_eq_true,Bool.not_true,Bool.not_not,ea1]
 cases c with
 | nil =>
  have hs:∀ q:Pln,slR tP [[(i q.n.x),(i q.n.y),(i q.n.z),(i q.b)]] 0 1=[]++[q]:=fun q=>rfl
  have ho:∀ q:Pln,okS tP [[(i q.n.x),(i q.n.y),(i q.n.z),(i q.b)]] 0 1=true:=fun q=>rfl
  simp only[hs,ho,show Nat.beq (len (bL tP ([]:List Pln))) 0=true from rfl,loop,ub5 hA,ub6 hA,ub5 hB,ub6 hB,wb1 hA' hB',wb2 hA' hB',wb1 hA' hc',wb2 hA' hc',wb1 hB' hc',wb2 hB' hc',
   Ja8 hA hc,Ja9 hA hc,Ja8 hB hc,Ja9 hB hc,Ja8 hc hA,Ja9 hc hA,Ja8 hc hB,Ja9 hc hB,f1,f2,f3,f5,f6,n5,Nat.beq_refl,beq_self_eq_true,Bool.not_true,ea1]
  cases h1:cin [] p with
  | true =>
   obtain⟨k1,k2⟩:=g1 h1
   cases h2:cout [] p with
   | true =>
    obtain⟨k3,k4⟩:=g2 h2
    simp only[k1,k2,k3,k4,n5,ea1,Bool.not_true,beq_self_eq_true]
   | false=>simp only[k1,k2,n5,ea1,Bool.not_true,Bool.not_false,beq_self_eq_true]
  | false =>
   cases h2:cout [] p with
   | true =>
    obtain⟨k3,k4⟩:=g2 h2
    simp only[k3,k4,n5,ea1,Bool.not_true,Bool.not_false,beq_self_eq_true]
   | false=>rw[h1,h2] at f4;cases f4
 | cons q0 c0 =>
  simp only[show Nat.beq (len (bL tP (q0::c0))) 0=false from rfl,ea1]
  cases h1:cin (q0::c0) p with
  | true =>
   obtain⟨k1,k2⟩:=g1 h1
   cases h2:cout (q0::c0) p with
   | true =>
    obtain⟨k3,k4⟩:=g2 h2
    simp only[k1,k2,k3,k4,n5,ea1,Bool.not_true,beq_self_eq_true]
   | false=>simp only[k1,k2,n5,ea1,Bool.not_true,Bool.not_false,beq_self_eq_true]
  | false =>
   cases h2:cout (q0::c0) p with
   | true =>
    obtain⟨k3,k4⟩:=g2 h2
    simp only[k3,k4,n5,ea1,Bool.not_true,Bool.not_false,beq_self_eq_true]
   | false=>rw[h1,h2] at f4;cases f4
theorem ye0 (x y:List Int):ya1 x y=true:=by unfold ya1;rw[Ed9];rfl
theorem ye1 (x y:List Int):ya2 x y=true:=by unfold ya2;rw[Ed9];rfl
end Go.Ev.Ce
namespace Go.Ev
open Go Go.ChangeShapes Go.RowKit
structure Fc0 (w w':World):Prop where
 os:w'.os=w.os
 output:w'.output=w.output
 size:w.heap.size≤w'.heap.size
 block:∀ k,k < w.heap.size→w'.heap[k]?=w.heap[k]?
theorem Fc0.kept {w w':World} (h:Fc0 w w') (may:MemPlace→Prop):w.keptBut w' may:=by
 refine⟨h.os,h.output,fun i hi=>?_⟩
 rw[h.block i hi]
 cases w.heap[i]? with
 | none=>rfl
 | some o=>cases o<;>first | exact⟨rfl,rfl,rfl,fun _ _=>rfl⟩ | exact .inr ⟨rfl,rfl⟩ | rfl
theorem Fc0.frozen {w w':World} (h:Fc0 w w') (b off:Nat) (hb:b < w.heap.size):w'.frozen? ⟨b,off,none⟩=w.frozen? ⟨b,off,none⟩:=by
 simp only[World.frozen?,h.block b hb]
theorem Fc0.cell {w w':World} (h:Fc0 w w') (b off:Nat) (hb:b < w.heap.size):w'.cell? ⟨b,off,none⟩=w.cell? ⟨b,off,none⟩:=by
 simp only[World.cell?,h.block b hb]
theorem Fc0.same {w w':World} (h:Fc0 w w') (p:MemPlace) (hp:p.block < w.heap.size):w.sameAt w' p:=by
 cases p with
 | cell b off=>exact h.cell b off hp
 | map b=>exact h.block b hp
theorem Gb9 {α β:Type} {f:α→Option β}:∀ {l:List α} {r:List β},l.mapM f=some r→r.length=l.length∧∀ (j:Nat) y,r[j]?=some y→∃ x,l[j]?=some x∧f x=some y
 | [],r,h=>by
  have:r=[]:=by simpa using h.symm
  subst this;simp
 | x::l,r,h=>by
  rw[List.mapM_cons] at h
  obtain⟨y,h1,h2⟩:=Option.bind_eq_some_iff.1 h
  obtain⟨r',h3,h4⟩:=Option.bind_eq_some_iff.1 h2
  have:r=y::r':=by simpa using h4.symm
  subst this
  obtain⟨g1,g2⟩:=Gb9 h3
  refine⟨by simp[g1],fun j z hz=>?_⟩
  cases j with
  | zero=>simp at hz;subst hz;exact⟨x,rfl,h1⟩
  | succ j=>simpa using g2 j z (by simpa using hz)
section
variable {D:Type} {enc:TypeId×Value→D} {P:Program}
theorem Ob3 {T : TypeId → Prop} (K : Kids P T) (hsz : ∀ {t e : TypeId}, T t → P.underlying t = some (.slice e) → 0 < P.cellsOf e) {w w' : World} {sp : Nat → Bool} (hs : Fc0 w w') :
  ∀ {ts:List TypeId} {vs:List Value} {ds:List (DataW D)} {ps:List MemPlace},(∀ t∈ts,T t)→DataW.TrodAll enc P w 0 (fun _=>true) true ts vs ds ps→(∀ p∈ps,p.block < w.heap.size)→(∀ p∈ps,sp p.block=true)→DataW.TrodAll enc P w' 0 sp true ts vs ds ps
 | [],[],[],_,_,h,_,_=>h
 | t::ts,v::vs,d::ds,ps,ht,h,hlt,hsp=>by
  obtain⟨p,q,⟨fuel,h1⟩,h2,rfl⟩:=h
  refine⟨p,q,⟨fuel,?_⟩,Ob3 K hsz hs (fun t h=>ht t (by simp[h])) h2 (fun x hx=>hlt x (by simp[hx])) (fun x hx=>hsp x (by simp[hx])),rfl⟩
  exact DataW.trod_stays K hsz (fun h=>by cases h) (ht t (by simp)) h1 (fun x hx=>hs.same x (hlt x (by simp at hx ⊢;exact .inl hx))) (fun x hx=>hsp x (by simp at hx ⊢;exact .inl hx))
 | [],_::_,_,_,_,h,_,_=>h.elim
 | [],[],_::_,_,_,h,_,_=>h.elim
 | _::_,[],_,_,_,h,_,_=>h.elim
 | _::_,_::_,[],_,_,h,_,_=>h.elim
theorem ae4 {T : TypeId → Prop} (K : Kids P T) (hsz : ∀ {t e : TypeId}, T t → P.underlying t = some (.slice e) → 0 < P.cellsOf e) {f : Func} {s : ChangeSpec} {apart fresh handsOn again : Bool} {W W' : World} {args : Array Value} {ds gs : List (DataW D)} {before : List MemPlace} {tb : TypeId}
  (hT:∀ t∈f.params.toList,T t) (hW:DataW.Whole enc P f.params.toList s.vars apart W args.toList ds gs before) (hv:s.vars=[]) (hr:f.resultTypes=#[tb]) (hb:P.underlying tb=some .bool)
  (h1:(s.fn D ds).results=[.lit (.bool true)]) (h2:(s.fn D ds).args=ds) (h3:(s.fn D ds).vars=[]) (hs:Fc0 W W') :
  s.post enc P f apart fresh handsOn again W args (.bool true) W':=by
 have hlt:=hW.lt
 obtain⟨pa,pv,hA,hV,hps,hz,hn⟩:=id hW
 rw[hv] at hV
 have hpv:gs=[]∧pv=[]:=by
  cases gs with
  | nil=>exact⟨rfl,hV⟩
  | cons=>exact hV.elim
 obtain⟨rfl,rfl⟩:=hpv
 rw[← List.append_nil ds] at h1 h3
 have h2:(s.fn D (ds++[])).args=ds:=by rw[List.append_nil];exact h2
 have hpa:before=pa:=by rw[hps];simp
 subst hpa
 have hagain:∀ sp:Nat→Bool,(∀ p∈before,sp p.block=true)→DataW.TrodAll enc P W' 0 sp true f.params.toList args.toList ds before:=fun sp h=>Ob3 K hsz hs hT hA hlt h
 have hres:∀ (b:Nat) (sp:Nat→Bool) (hd:Bool),DataW.TrodAll enc P W' b sp hd f.resultTypes.toList ((Value.bool true).resultList f.resultTypes.size) [.lit (.bool true)] []:=fun b sp hd=>by
  rw[hr]
  exact⟨[],[],⟨1,by simp[DataW.trod,hb,Value.cells,Value.resultList]⟩,rfl,rfl⟩
 have hvars:∀ sp:Nat→Bool,DataW.TrodVars enc P W' sp s.vars ([]:List (DataW D)) []:=fun sp=>by rw[hv];exact rfl
 have hok:∀ (j:Nat) (t:TypeId) (r:Value),f.resultTypes[j]?=some t→((Value.bool true).resultList f.resultTypes.size)[j]?=some r→Value.okWide P W' .any 0 t r:=by
  rw[hr]
  intro j t r h4 h5
  cases j with
  | zero =>
   simp at h4
   subst h4
   have:r=.bool true:=by simpa [Value.resultList] using h5.symm
   subst this
   exact okWide_bool_mk hb _
  | succ j=>simp at h4
 have hag:DataW.TrodAll enc P W' 0 (fun _=>true) true (f.resultTypes.toList++f.params.toList) ((Value.bool true).resultList f.resultTypes.size++args.toList) (.lit (.bool true)::ds) before:=by
  have:=hagain (fun _=>true) (fun _ _=>rfl)
  rw[hr]
  exact⟨[],before,⟨1,by simp[DataW.trod,hb,Value.cells,Value.resultList]⟩,this,rfl⟩
 refine⟨ds,[],before,[],before,[],hW,?_,?_,?_,hs.kept _,fun _=>?_⟩
 ·rw[h1];exact hres _ _ _
 ·rw[h2];exact hagain _ fun p hp=>by simpa using hlt p hp
 ·rw[h3];exact hvars _
 ·refine⟨hok,.lit (.bool true)::ds,[],before,⟨before,[],hag,hvars _,by simp,?_,?_⟩,?_⟩
  ·intro b off hp
   rw[hs.frozen b off (hlt _ hp)]
   exact hz b off (by simpa using hp)
  ·intro ha;simpa using hn ha
  ·intro p hp _;exact hp
variable {w:World} {base:Nat} {spare:Nat→Bool} {held:Bool}
def yd5 (w:World):Fz:=fun b o=>(w.cell? ⟨b,o,none⟩).isSome
theorem ye2 {fuel : Nat} {t : TypeId} {k : IntKind} {cs : List Value} {x : DataW D × List MemPlace} (ht : P.underlying t = some (.int k)) (h : DataW.trod enc P w base spare held fuel t cs = some x) :
  ∃ n,cs=[.int k n]∧(Lit.int k n).wf=true∧x.1=.lit (.int k n):=by
 cases fuel with
 | zero=>cases h
 | succ fuel =>
  match cs,h with
  | [],h=>simp[DataW.trod,ht] at h
  | [v],h =>
   cases v with
   | int k' n =>
    simp only[DataW.trod,ht] at h
    split at h
    ·rename_i hk
     obtain⟨rfl,hw⟩:=hk
     injection h with h;subst h
     exact⟨n,rfl,hw,rfl⟩
    ·cases h
   | _=>simp[DataW.trod,ht] at h
  | a::b::r,h=>simp[DataW.trod,ht] at h
theorem le1 {fuel : Nat} {t : TypeId} {cs : List Value} {x : DataW D × List MemPlace} (ht : P.underlying t = some .bool) (h : DataW.trod enc P w base spare held fuel t cs = some x) :
  ∃ n,cs=[.bool n]∧x.1=.lit (.bool n):=by
 cases fuel with
 | zero=>cases h
 | succ fuel =>
  match cs,h with
  | [],h=>simp[DataW.trod,ht] at h
  | [v],h =>
   cases v with
   | bool n =>
    simp only[DataW.trod,ht] at h
    injection h with h;subst h
    exact⟨n,rfl,rfl⟩
   | _=>simp[DataW.trod,ht] at h
  | a::b::r,h=>simp[DataW.trod,ht] at h
theorem ae5 {fuel : Nat} {t e : TypeId} {n : Nat} {cs : List Value} {x : DataW D × List MemPlace} (ht : P.underlying t = some (.array n e)) (h : DataW.trod enc P w base spare held fuel t cs = some x) :
  cs.length=P.cellsOf t∧∃ (fuel':Nat) (xs:List (DataW D×List MemPlace)),xs.length=n∧x.1=.agg (xs.map (·.1))∧∀ (j:Nat) y,xs[j]?=some y→DataW.trod enc P w base spare held fuel' e ((cs.drop (j*P.cellsOf e)).take (P.cellsOf e))=some y:=by
 cases fuel with
 | zero=>cases h
 | succ fuel =>
  unfold DataW.trod at h
  rw[ht] at h
  simp only at h
  split at h
  ·rename_i hl
   obtain⟨xs,h1,h2⟩:=Option.map_eq_some_iff.1 h
   have hx:=Gb9 h1
   exact⟨hl,fuel,xs,by simpa using hx.1,by rw[← h2],fun j y hy=>by
    obtain⟨a,ha,hb⟩:=hx.2 j y hy
    have:j < n:=by
     have:=(List.getElem?_eq_some_iff.1 hy).1
     rw[hx.1] at this;simpa using this
    rw[List.getElem?_range this] at ha
    injection ha with ha
    subst ha
    exact hb⟩
  ·cases h
theorem Md3 {fuel : Nat} {t : TypeId} {fs : Array Field} {cs : List Value} {x : DataW D × List MemPlace} (ht : P.underlying t = some (.struct fs)) (h : DataW.trod enc P w base spare held fuel t cs = some x) :
  cs.length=P.cellsOf t∧∃ (fuel':Nat) (xs:List (DataW D×List MemPlace)),xs.length=fs.size∧x.1=.agg (xs.map (·.1))∧∀ (j:Nat) f,fs[j]?=some f→∃ y,xs[j]?=some y∧DataW.trod enc P w base spare held fuel' f.type ((cs.drop f.offset).take (P.cellsOf f.type))=some y:=by
 cases fuel with
 | zero=>cases h
 | succ fuel =>
  unfold DataW.trod at h
  rw[ht] at h
  simp only at h
  split at h
  ·rename_i hl
   obtain⟨xs,h1,h2⟩:=Option.map_eq_some_iff.1 h
   have hx:=Gb9 h1
   refine⟨hl,fuel,xs,by simpa using hx.1,by rw[← h2],fun j f hf=>?_⟩
   have hj:j < xs.length:=by
    rw[hx.1];simpa using (Array.getElem?_eq_some_iff.1 hf).1
   obtain⟨a,ha,hb⟩:=hx.2 j _ (List.getElem?_eq_getElem hj)
   have:a=f:=by
    have:fs.toList[j]?=some f:=by simpa using hf
    exact Option.some.inj (ha.symm.trans this)
   subst this
   exact⟨_,List.getElem?_eq_getElem hj,hb⟩
  ·cases h
theorem ae6 {fuel : Nat} {t e : TypeId} {cs : List Value} {x : DataW D × List MemPlace} (ht : P.underlying t = some (.slice e)) (h : DataW.trod enc P w base spare held fuel t cs = some x) :
  cs=[.slice none 0 0]∨∃ (a:Addr) (n cap fuel':Nat),cs=[.slice (some a) n cap]∧n≤cap∧cap≤maxLen∧∀ j,j < n→∃ row y,w.cells? base (a.add (j*P.cellsOf e)) (P.cellsOf e)=some row∧DataW.trod enc P w base spare held fuel' e row=some y:=by
 cases fuel with
 | zero=>cases h
 | succ fuel =>
  match cs,h with
  | [],h=>simp[DataW.trod,ht] at h
  | [v],h =>
   cases v with
   | slice a len cap =>
    cases a with
    | none =>
     simp only[DataW.trod,ht] at h
     split at h<;>first | (rename_i e1;cases e1;done) | skip
     all_goals first | exact .inl rfl | (simp_all;done) | skip
    | some a =>
     refine .inr ?_
     simp only[DataW.trod,ht] at h
     split at h
     ·rename_i hc
      obtain⟨elems,h1,h2⟩:=Option.bind_eq_some_iff.1 h
      have hx:=Gb9 h1
      refine⟨a,len,cap,fuel,rfl,hc.2.1,hc.2.2,fun j hj=>?_⟩
      have hj':j < elems.length:=by rw[hx.1];simpa using hj
      obtain⟨i,hi,hb⟩:=hx.2 j _ (List.getElem?_eq_getElem hj')
      rw[List.getElem?_range hj] at hi
      injection hi with hi
      subst hi
      obtain⟨row,r1,r2⟩:=Option.bind_eq_some_iff.1 hb
      exact⟨row,_,r1,r2⟩
     ·cases h
   | _=>simp[DataW.trod,ht] at h
  | a::b::r,h=>simp[DataW.trod,ht] at h
theorem Fd0:∀ (d:Nat) (t:TypeId) (l:List (Nat×CK)),aa2 P d t=some l→∀ (fuel:Nat) (cs:List Value) (x:DataW D×List MemPlace),DataW.trod enc P w base spare held fuel t cs=some x→∀ p∈l,xa2 cs.toArray p
 | 0,_,_,h,_,_,_,_=>by cases h
 | d+1,t,l,h,fuel,cs,x,hx=>by
  have hpart:∀ {off n:Nat} {e:TypeId} {l':List (Nat×CK)} {fuel':Nat} {y:DataW D×List MemPlace},zb5 off n (aa2 P d e)=some l'→DataW.trod enc P w base spare held fuel' e ((cs.drop off).take n)=some y→∀ p∈l',xa2 cs.toArray p:=fun {off n e l' fuel' y} h1 h2 p hp=>by
   obtain⟨l2,g1,g2,rfl⟩:=Ea4 h1
   obtain⟨q,hq,rfl⟩:=List.mem_map.1 hp
   have:=Fd0 d e l2 g1 fuel' _ y h2 q hq
   have hlt:=g2 q hq
   unfold xa2 at this ⊢
   simp only[List.getElem?_toArray,List.getElem?_take,hlt,if_true,List.getElem?_drop] at this ⊢
   exact this
  have hcat:∀ {α:Type} (f:α→Option (List (Nat×CK))) (xs:List α) (l:List (Nat×CK)),ja6 (xs.map f)=some l→∀ p∈l,∃ a∈xs,∃ l',f a=some l'∧p∈l':=fun {α} f xs=>by
   induction xs with
   | nil=>intro l h;simp only[List.map_nil,ja6] at h;injection h with h;subst h;simp
   | cons a xs ih =>
    intro l h p hp
    simp only[List.map_cons,ja6] at h
    cases h1:f a with
    | none=>simp[h1] at h
    | some l1 =>
    cases h2:ja6 (xs.map f) with
    | none=>simp[h1,h2] at h
    | some l2 =>
    simp only[h1,h2] at h
    injection h with h;subst h
    rcases List.mem_append.1 hp with hp | hp
    ·exact⟨a,by simp,l1,h1,hp⟩
    ·obtain⟨b,hb,r⟩:=ih l2 h2 p hp
     exact⟨b,by simp[hb],r⟩
  unfold aa2 at h
  cases hu:P.underlying t with
  | none=>simp[hu] at h
  | some u =>
  cases u with
  | int k =>
   simp only[hu] at h;injection h with h;subst h
   obtain⟨n,rfl,_,_⟩:=ye2 hu hx
   intro p hp;simp at hp;subst hp;exact⟨n,rfl⟩
  | bool =>
   simp only[hu] at h;injection h with h;subst h
   obtain⟨n,rfl,_⟩:=le1 hu hx
   intro p hp;simp at hp;subst hp;exact⟨n,rfl⟩
  | struct fs =>
   simp only[hu] at h
   split at h
   ·cases h
   obtain⟨_,fuel',xs,_,_,hxs⟩:=Md3 hu hx
   intro p hp
   obtain⟨f,hf,l',h1,h2⟩:=hcat _ _ _ h p hp
   split at h1
   ·cases h1
   obtain⟨j,hj⟩:=List.getElem?_of_mem hf
   obtain⟨y,_,hy⟩:=hxs j f (by simpa using hj)
   have hc:P.cellsOf f.type=szT P f.type:=by
    unfold Program.cellsOf szT
    cases P.info? f.type<;>rfl
   rw[hc] at hy
   exact hpart h1 hy p h2
  | array n e =>
   simp only[hu] at h
   split at h
   case isFalse=>cases h
   obtain⟨_,fuel',xs,hn,_,hxs⟩:=ae5 hu hx
   intro p hp
   obtain⟨j,hj,l',h1,h2⟩:=hcat _ _ _ h p hp
   have hj':j < xs.length:=by rw[hn];simpa using hj
   have hy:=hxs j _ (List.getElem?_eq_getElem hj')
   have hc:P.cellsOf e=szT P e:=by
    unfold Program.cellsOf szT
    cases P.info? e<;>rfl
   rw[hc] at hy
   exact hpart h1 hy p h2
  | _=>simp[hu] at h
def Na5 (k:IntKind) (es:Nat) (g:Nat→Int):List b7:=(List.range es).map fun c=>.v (.int k (g c))
def Ca9 (k:IntKind) (es:Nat):List (Nat×CK):=(List.range es).map fun c=>(c,.int k)
theorem le2 {d : Nat} {t : TypeId} {k : IntKind} {es : Nat} (hf : aa2 P d t = some (Ca9 k es)) {fuel : Nat} {cs : List Value} {x : DataW D × List MemPlace} (hx : DataW.trod enc P w base spare held fuel t cs = some x) (hl : cs.length = es) :
  ∃ g:Nat→Int,∀ c,c < es→cs[c]?=some (.int k (g c)):=by
 have h:=Fd0 d t _ hf fuel cs x hx
 have h':∀ c,∃ n:Int,c < es→cs[c]?=some (.int k n):=fun c=>by
  by_cases hc:c < es
  ·have:=h (c,.int k) (List.mem_map.2 ⟨c,by simpa using hc,rfl⟩)
   obtain⟨n,hn⟩:=this
   exact⟨n,fun _=>by simpa using hn⟩
  ·exact⟨0,fun h=>absurd h hc⟩
 exact⟨fun c=>Classical.choose (h' c),fun c hc=>Classical.choose_spec (h' c) hc⟩
theorem ae7 {F:Fz} {w:World} (k:IntKind) (n:Int):Z0 F w (.v (.int k n)) (.int k n):=.v _ rfl
theorem yd6 {k:IntKind} {es:Nat} {g:Nat→Int} {c:Nat} {x:b7} (h:(Na5 k es g)[c]?=some x):c < es∧x=.v (.int k (g c)):=by
 unfold Na5 at h
 obtain⟨h1,h2⟩:=Ga0 h
 exact⟨h1,h2.symm⟩
theorem Lc6 {t e : TypeId} {k : IntKind} {es d : Nat} (ht : P.underlying t = some (.slice e)) (hf : aa2 P d e = some (Ca9 k es)) (hes : P.cellsOf e = es) (h0 : 0 < es) {fuel : Nat} {cs : List Value} {x : DataW D × List MemPlace} (hx : DataW.trod enc P w 0 spare held fuel t cs = some x) :
  ∃ (v:Value) (n:Nat) (g:Nat→Nat→Int),cs=[v]∧n≤maxLen∧Z0 (yd5 w) w (.tree es n fun j=>Na5 k es (g j)) v:=by
 rcases ae6 ht hx with rfl | ⟨a,n,cap,fuel',rfl,hn,hc,hel⟩
 ·exact⟨_,0,fun _ _=>0,rfl,Nat.zero_le _,.nil _ _⟩
 ·rw[hes] at hel
  have hcell:∀ j,j < n→∃ g:Nat→Int,∀ c,c < es→w.cell? ((a.add (j*es)).add c)=some (.int k (g c)):=fun j hj=>by
   obtain⟨row,y,h1,h2⟩:=hel j hj
   unfold World.cells? at h1
   split at h1
   ·obtain⟨l1,l2⟩:=Gb9 h1
    have hl:row.length=es:=by simpa using l1
    obtain⟨g,hg⟩:=le2 hf h2 hl
    refine⟨g,fun c hc=>?_⟩
    obtain⟨i,hi,hi2⟩:=l2 c _ (hg c hc)
    rw[List.getElem?_range hc] at hi
    injection hi with hi
    subst hi
    exact hi2
   ·cases h1
  have hg:∀ j,∃ g:Nat→Int,j < n→∀ c,c < es→w.cell? ((a.add (j*es)).add c)=some (.int k (g c)):=fun j=>by
   by_cases hj:j < n
   ·obtain⟨g,hg⟩:=hcell j hj
    exact⟨g,fun _=>hg⟩
   ·exact⟨fun _=>0,fun h=>absurd h hj⟩
  obtain⟨g,hg⟩:=Classical.axiomOfChoice hg
  have hspot:0 < n→a.spot=none:=fun hn=>by
   have:=hg 0 hn 0 h0
   simpa [Addr.add] using World.cell?_spot this
  have hw:∀ j c,j < n→c < es→w.cell? ⟨a.block,a.off+(j*es+c),none⟩=some (.int k (g j c)):=fun j c hj hc=>by
   have:=hg j hj c hc
   rw[W8 (hspot (by omega)),W8 rfl] at this
   simpa [Nat.add_assoc] using this
  refine⟨_,n,g,rfl,Nat.le_trans hn hc,.tree es n _ a cap (fun j c=>.int k (g j c)) hspot hn (fun i hi=>by simp[Na5]) (fun i c hi hc=>?_) hw fun i c hi hc=>?_⟩
  ·unfold yd5
   rw[hw i c hi hc]
   rfl
  ·have:=(yd6 (List.getElem?_eq_getElem hc)).2
   rw[this]
   exact ae7 _ _
theorem Md4 (w:World):w9 (fun k=>w.heap.size≤k) (fun _=>⟨0,0,0⟩) [] (yd5 w) w :=
 ⟨fun id b h=>by simp at h,fun id id' b b' h=>by simp at h,fun _ _ h=>h,fun _ h=>h⟩
theorem Md5 {G : Nat → List Value} {f : FuncId} {S : Sum} (hS : j6 P G f S) {aargs : List b7} {args : List Value} (hrun : ∃ out, (S aargs []).run = some (b true, out)) (hl : aargs.length = args.length)
  (ha:∀ (i:Nat) x x',aargs[i]?=some x→args[i]?=some x'→da7 (fun _=>⟨0,0,0⟩) [] (yd5 w) w x x') (hG:∀ g (c:Nat) x,(G g)[c]?=some x→x.oneCell'=true∧w.cell? ⟨g,c,none⟩=some x) :
  Calls P f args.toArray w fun e w'=>e=.returned (.bool true)∧Fc0 w w':=by
 obtain⟨out,hrun⟩:=hrun
 obtain⟨_,hc⟩:=hS aargs [] (b true) out hrun (fun k=>w.heap.size≤k) (fun _=>⟨0,0,0⟩) (yd5 w) w args (Md4 w) hl (fun i x x' h1 h2=>.val (ha i x x' h1 h2)) (fun g c x hx=>by
  obtain⟨h1,h2⟩:=hG g c x hx
  exact⟨h1,by unfold yd5;rw[h2];rfl,h2⟩)
 refine hc.mono fun e w' ⟨r',he,ρ',F',hA,hH,hW⟩=>?_
 have:=da3 hW
 subst this
 exact⟨he,hA.ext.os,hA.ext.output,hA.ext.size,fun k hk=>hA.ext.block k hk (by omega)⟩
theorem Rc5 {ρ : Rho} {H : List b8} {t e : TypeId} {k : IntKind} {es d : Nat} {v : Value} {dd : DataW D} {pp : List MemPlace} {bs : Nat} {r : Reach} (ht : P.underlying t = some (.slice e)) (hf : aa2 P d e = some (Ca9 k es)) (hes : P.cellsOf e = es) (h0 : 0 < es)
  (hok:Value.okWide P w r bs t v) (h:DataW.Trod enc P w 0 spare held t v dd pp):∃ (n:Nat) (g:Nat→Nat→Int),n≤maxLen∧da7 ρ H (yd5 w) w (.tree es n fun j=>Na5 k es (g j)) v:=by
 obtain⟨fuel,hx⟩:=h
 obtain⟨v',n,g,h1,h2,h3⟩:=Lc6 ht hf hes h0 hx
 have hv:v.cells=#[v]:=by
  unfold Value.okWide at hok
  rw[ht] at hok
  cases v with
  | agg cs=>exfalso;simp[Cell.okWide,Cell.ok,ht] at hok
  | _=>rfl
 rw[hv] at h1
 have:v=v':=by simpa using h1
 subst this
 exact⟨n,g,h2,.cell (.mem h3)⟩
end
end Go.Ev
namespace Go.Ev.L
open Go Go.Ev
theorem ae8 {α : Type} (t : Ty α) (n : Nat) (g : Nat → Nat → Int) (f : (Nat → Int) → α) (h : ∀ j, Na5 .i64 t.es (g j) = t.row (f (g j))) :
  ∃ l,(ia2 t).dec (.tree t.es n fun j=>Na5 .i64 t.es (g j))=some l∧(ia2 t).grd (.tree t.es n fun j=>Na5 .i64 t.es (g j))=true:=by
 refine⟨lsL t n fun j=>Na5 .i64 t.es (g j),?_,sb2 t (f:=fun k=>f (g k)) fun k _=>h k⟩
 show Bool.rec (motive:=fun _=>Option (List α)) none (some (lsL t n fun j=>Na5 .i64 t.es (g j))) (Nat.beq t.es t.es)=_
 rw[Nat.beq_refl]
end Go.Ev.L
namespace Go.Ev.L
open Go Go.Ev
def Rdg {α:Type} (c:Cod α) (x:b7) (a:α):Prop:=c.dec x=some a∧c.grd x=true
theorem ae9 {α:Type} (t:Ty α) (n:Nat) (g:Nat→Nat→Int) (f:(Nat→Int)→α) (h:∀ j,Na5 .i64 t.es (g j)=t.row (f (g j))):∃ l,Rdg (ia2 t) (.tree t.es n fun j=>Na5 .i64 t.es (g j)) l:=ae8 t n g f h
theorem qd1 (n:Nat) (g:Nat→Nat→Int):∃ l,Rdg (ia2 tI) (.tree 1 n fun j=>Na5 .i64 1 (g j)) l:=ae9 tI n g (fun g=>g 0) fun _=>rfl
section
variable {α β γ δ ε:Type} {c:Cod α} {d:Cod β} {e:Cod γ} {f:Cod δ} {c5:Cod ε} {x y z w v:b7} {a:α} {b':β} {g:γ} {j:δ} {m:ε} {r:b7×List b8}
theorem Qe8 {k:α→β→DT (b7×List b8)} (h1:Rdg c x a) (h2:Rdg d y b') (h:(k a b').run=some r):(la2 c d k [x,y] []).run=some r:=by
 unfold la2
 simp only[h1.1,h1.2,h2.1,h2.2]
 exact h
end
theorem ye3 {g p:Bool} (hg:g=true) (hp:p=true):(DT.guard g (.ret ((one r1B).enc p,([]:List b8)))).run=some (b true,([]:List b8)):=by subst hg;subst hp;rfl
end Go.Ev.L
