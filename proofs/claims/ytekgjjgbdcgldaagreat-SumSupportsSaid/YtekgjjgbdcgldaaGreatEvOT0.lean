/- Own work: a part of the proof. -/
import Derived.Test.YtekgjjgbdcgldaaGreatEvOGe2
import Derived.Test.YtekgjjgbdcgldaaGreatEvODM
set_option linter.unusedVariables false
set_option linter.unusedSimpArgs false
set_option linter.unnecessarySimpa false
set_option linter.unusedSectionVars false
namespace Go.Ev.Ce
def dv (z v:Pt):V3:=⟨v.px*z.pw - z.px*v.pw,v.py*z.pw - z.py*v.pw,v.pz*z.pw - z.pz*v.pw⟩
def thr (n:V3) (z:Pt):Pln:=⟨⟨z.pw*n.x,z.pw*n.y,z.pw*n.z⟩,n.x*z.px+n.y*z.py+n.z*z.pz⟩
theorem de1 (n:V3) (z x:Pt):rmZ (thr n z) x=-dot n (dv z x):=by simp only[rmZ,thr,dot,dv];grind
theorem de2 {p:Pln} {z v:Pt} (hz:rmZ p z≠0) (hv:rmZ p v=0) (hw:0 < v.pw):dv z v≠⟨0,0,0⟩:=fun h=>by
 unfold dv at h
 simp only[V3.mk.injEq] at h
 obtain⟨e1,e2,e3⟩:=h
 have:rmZ p z*v.pw=rmZ p v*z.pw:=by unfold rmZ;grind
 rw[hv,Int.zero_mul] at this
 exact (Int.mul_eq_zero.1 this).elim hz (by omega)
theorem Ie2 {p:Pln} {z:Pt} (hz:rmZ p z≠0):∀ l:List Pt,l.length≤2→(∀ v∈l,rmZ p v=0∧0 < v.pw)→∃ n,n≠(⟨0,0,0⟩:V3)∧∀ v∈l,dot n (dv z v)=0
 | [],_,_=>⟨⟨1,0,0⟩,by simp,fun v h=>by cases h⟩
 | [v],_,h=>by
  obtain⟨h1,h2⟩:=h v (by simp)
  obtain⟨d,hd,he⟩:=te3 (de2 hz h1 h2)
  exact⟨d,hd,fun u hu=>by rw[List.mem_singleton.1 hu,← he];unfold dot;grind⟩
 | [v,u],_,h=>by
  obtain⟨h1,h2⟩:=h v (by simp)
  by_cases hc:d8 (dv z v) (dv z u)=⟨0,0,0⟩
  ·obtain⟨d,hd,he⟩:=te3 (de2 hz h1 h2)
   have hu:dot (dv z u) d=0:=by
    by_cases h0:dot (dv z u) d=0
    ·exact h0
    ·exact absurd hc (od0 (de2 hz h1 h2) he h0)
   refine⟨d,hd,fun x hx=>?_⟩
   simp only[List.mem_cons,List.not_mem_nil,or_false] at hx
   rcases hx with rfl | rfl
   ·rw[← he];unfold dot;grind
   ·rw[← hu];unfold dot;grind
  ·refine⟨_,hc,fun x hx=>?_⟩
   simp only[List.mem_cons,List.not_mem_nil,or_false] at hx
   rcases hx with rfl | rfl
   ·rw[← hc9 (dv z x) (dv z u)];unfold dot;grind
   ·rw[← ic0 (dv z v) (dv z x)];unfold dot;grind
 | _::_::_::_,h,_=>by simp at h
def Ie3 (p:Pln) (z v:Pt):Pt:=⟨rmZ p v*z.px - rmZ p z*v.px,rmZ p v*z.py - rmZ p z*v.py,rmZ p v*z.pz - rmZ p z*v.pz,rmZ p v*z.pw - rmZ p z*v.pw⟩
theorem ad8 (p q:Pln) (z v:Pt):rmZ q (Ie3 p z v)=rmZ p v*rmZ q z - rmZ p z*rmZ q v:=by
 generalize ha:rmZ p v=a
 generalize hb:rmZ p z=c
 simp only[rmZ,Ie3] at *
 rw[ha,hb]
 grind
theorem de3 {r:List Pln} (hb:Bdd r) (hB:ce6 r) {h:Pln} (hn:h.n≠⟨0,0,0⟩):¬ ∀ x,Inr r x→rmZ h x=0:=fun H=>by
 obtain⟨x,hw,hx⟩:=hB
 have hi:Inr r x:=⟨hw,fun p hp=>Int.le_of_lt (hx p hp)⟩
 obtain⟨q,hq,h1,h2⟩:=step hi h.n (hb h.n hn)
 have h3:=H _ h2
 rw[nd9,H _ hi] at h3
 have h4:=hx q hq
 have h5:0 < dot h.n h.n:=by
  have k:∀ a:Int,a≠0→0 < a*a:=fun a ha=>by
   rcases Int.lt_or_gt_of_ne ha with h | h
   ·exact Int.mul_pos_of_neg_of_neg h h
   ·exact Int.mul_pos h h
  have k0:∀ a:Int,0≤a*a:=fun a=>by
   by_cases h:a=0
   ·subst h;decide
   ·exact Int.le_of_lt (k a h)
  have a1:=k0 h.n.x;have a2:=k0 h.n.y;have a3:=k0 h.n.z
  unfold dot
  by_cases c1:h.n.x=0
  ·by_cases c2:h.n.y=0
   ·have:=k h.n.z (fun c3=>hn (V3.ext' c1 c2 c3));omega
   ·have:=k _ c2;omega
  ·have:=k _ c1;omega
 have:=Int.mul_pos h4 h5
 omega
theorem Te4 {r r' : List Pln} {p : Pln} (hb : Bdd r) (hB : ce6 r) (hp : p ∈ r) (hr : ∀ q ∈ r, q ∈ r' ∨ q = p)
  (l:List Pt) (hl:l.length≤2) (hl0:∀ v∈l,rmZ p v=0∧0 < v.pw) (hc:∀ v,Cn r v→rmZ p v=0→∃ x∈l,Eqv x v) {z:Pt} (hz:Inr r' z):Inr r z:=by
 by_cases h0:0≤rmZ p z
 ·exact⟨hz.w,fun q hq=>(hr q hq).elim (hz.h q) fun e=>e ▸ h0⟩
 exfalso
 have hneg:rmZ p z < 0:=by omega
 obtain⟨n,hn,hv⟩:=Ie2 (p:=p) (z:=z) (by omega) l hl hl0
 have hn':(thr n z).n≠⟨0,0,0⟩:=fun e=>hn (by
  unfold thr at e
  simp only[V3.mk.injEq] at e
  have k:∀ {a:Int},z.pw*a=0→a=0:=fun h=>(Int.mul_eq_zero.1 h).resolve_left (by have:=hz.w;omega)
  exact V3.ext' (k e.1) (k e.2.1) (k e.2.2))
 -- the face lies in that plane
 have hface:∀ u,Inr r u→rmZ p u=0→rmZ (thr n z) u=0:=fun u hu hu0=>by
  have hbd:Bdd (da2 p::r):=fun d hd=>by
   obtain⟨q,hq,h⟩:=hb d hd
   exact⟨q,List.mem_cons_of_mem _ hq,h⟩
  have hiu:Inr (da2 p::r) u:=⟨hu.w,fun q hq=>by
   rcases List.mem_cons.1 hq with rfl | hq
   ·rw[Ya8,hu0];decide
   ·exact hu.h q hq⟩
  have hvx:∀ v,Cn (da2 p::r) v→rmZ (thr n z) v=0:=fun v hcv=>by
   have hir:Inr r v:=⟨hcv.w,fun q hq=>hcv.h q (List.mem_cons_of_mem _ hq)⟩
   have hp0:rmZ p v=0:=by
    have h1:=hcv.h (da2 p) List.mem_cons_self
    rw[Ya8] at h1
    have h2:=hir.h p hp
    omega
   obtain⟨a,c,d,ha,hc',hd,hw,e1,e2,e3⟩:=hcv.c
   -- a plane that is turned round gives the same zd7
   have fl:∀ {a c d:Pln},mw (da2 a) c d=-mw a c d∧mw c (da2 a) d=-mw c a d∧mw c d (da2 a)=-mw c d a:=fun {a c d}=>by
    refine⟨?_,?_,?_⟩<;>(simp only[mw,dot,d8,da2];grind)
   have hr0:∀ {a:Pln},rmZ (da2 a) v=0→rmZ a v=0:=fun h=>by rw[Ya8] at h;omega
   have hcn:Cn r v:=by
    refine⟨hir,?_⟩
    rcases List.mem_cons.1 ha with rfl | ha<;>rcases List.mem_cons.1 hc' with rfl | hc'<;>rcases List.mem_cons.1 hd with rfl | hd
    ·exact absurd (by simp only[mw,dot,d8];grind) hw
    ·exact absurd (by simp only[mw,dot,d8];grind) hw
    ·exact absurd (by simp only[mw,dot,d8];grind) hw
    ·exact⟨p,c,d,hp,hc',hd,by have:=(fl (a:=p) (c:=c) (d:=d)).1;omega,hp0,e2,e3⟩
    ·exact absurd (by simp only[mw,dot,d8];grind) hw
    ·exact⟨a,p,d,ha,hp,hd,by have:=(fl (a:=p) (c:=a) (d:=d)).2.1;omega,e1,hp0,e3⟩
    ·exact⟨a,c,p,ha,hc',hp,by have:=(fl (a:=p) (c:=a) (d:=c)).2.2;omega,e1,e2,hp0⟩
    ·exact⟨a,c,d,ha,hc',hd,hw,e1,e2,e3⟩
   obtain⟨x,hx,he⟩:=hc v hcn hp0
   have h1:=he.rm (thr n z)
   rw[de1 n z x,hv x hx] at h1
   have h1:rmZ (thr n z) v*x.pw=0:=by omega
   exact (Int.mul_eq_zero.1 h1).resolve_right (by have:=(hl0 x hx).2;omega)
  have a1:=ma3 hbd (h:=thr n z) (fun v hv=>by rw[hvx v hv];decide) hiu
  have a2:=ma3 hbd (h:=da2 (thr n z)) (fun v hv=>by rw[Ya8,hvx v hv];decide) hiu
  rw[Ya8] at a2
  omega
 -- so do all vertices
 have hall:∀ v,Inr r v→rmZ (thr n z) v=0:=fun v hi=>by
  by_cases hv0:rmZ p v=0
  ·exact hface v hi hv0
  have hvp:0 < rmZ p v:=by have:=hi.h p hp;omega
  have hu:Inr r (Ie3 p z v):=by
   have w1:=Int.mul_pos hvp hz.w
   have w2:rmZ p z*v.pw < 0:=Int.mul_neg_of_neg_of_pos hneg hi.w
   refine⟨by show 0 < rmZ p v*z.pw - rmZ p z*v.pw;omega,fun q hq=>?_⟩
   rw[ad8]
   rcases hr q hq with h | rfl
   ·have b1:=Int.mul_nonneg (Int.le_of_lt hvp) (hz.h q h)
    have b2:rmZ p z*rmZ q v≤0:=Int.mul_nonpos_of_nonpos_of_nonneg (Int.le_of_lt hneg) (hi.h q hq)
    omega
   ·have:=Int.mul_comm (rmZ q v) (rmZ q z);omega
  have h1:=hface _ hu (by rw[ad8];have:=Int.mul_comm (rmZ p v) (rmZ p z);omega)
  rw[ad8] at h1
  have h2:rmZ (thr n z) z=0:=by rw[de1];simp only[dot,dv];grind
  rw[h2] at h1
  have h1:rmZ p z*rmZ (thr n z) v=0:=by omega
  exact (Int.mul_eq_zero.1 h1).resolve_left (by omega)
 exact de3 hb hB hn' hall
end Go.Ev.Ce
namespace Go.Ev.Ce
open Go Go.Ev Go.Ev.L Go.Proofs
def phP (out:List Pln):Nat:=match out with
 | []=>0
 | _::_=>1
end Go.Ev.Ce
namespace Go.Ev.Ce
open Go Go.Ev Go.Ev.L Go.Proofs
def U4 (p:Pln) (v:V3):Int:=if okp p&&inV v then (if dot p.n v - p.b < 0 then -1 else if dot p.n v - p.b > 0 then 1 else 0) else 0
theorem zd8 {p:Pln} {v:V3} (hp:Bd p) (hv:inV v=true):Sm 331776 (dot p.n v):=by
 obtain⟨⟨a1,a2⟩,⟨a3,a4⟩,a5,a6⟩:=(Ea2 v).1 hv
 have r1:=mb hp.x1 hp.x2 a1 a2;have r2:=mb hp.y1 hp.y2 a3 a4;have r3:=mb hp.z1 hp.z2 a5 a6
 unfold Sm dot
 omega
theorem te6 (p:Pln) (v:V3):ya8 p v=some (i (U4 p v),[]):=by
 unfold ya8 U4
 simp only[ae8,nd1,Be2,be4]
 cases hp:okp p with
 | false=>rfl
 | true =>
  cases hv:inV v with
  | false=>rfl
  | true =>
   have hb:=fb7 hp
   have hd:=zd8 hb hv
   have e:Ga1 p.n v=dot p.n v:=by
    unfold Ga1
    simp only[Kb7,ac4]
    exact Sb8 (hd.mono (by omega))
   have e2:W (dot p.n v - p.b)=dot p.n v - p.b:=U3 (by have:=hd.1;have:=hb.b2;omega) (by have:=hd.2;have:=hb.b1;omega)
   rw[e,e2]
   by_cases h1:dot p.n v - p.b < 0
   ·simp only[Bool.and_self,if_true,h1,decide_true];rfl
   ·by_cases h2:dot p.n v - p.b > 0
    ·simp only[Bool.and_self,if_true,h1,h2,decide_true,decide_false,if_false];rfl
    ·simp only[Bool.and_self,if_true,h1,h2,decide_false,if_false];rfl
theorem Ie4 (p:Pln) (v:V3):nb3 p v=U4 p v:=by unfold nb3;rw[te6];rfl
theorem Cc8 {p:Pln} {v:V3} (hp:okp p=true) (hv:inV v=true):U4 p v > 0↔dot p.n v > p.b:=by
 unfold U4
 rw[hp,hv]
 simp only[Bool.and_self,if_true]
 split
 ·omega
 ·split<;>omega
theorem jb5 {p:Pln} {v:V3} (hp:okp p=true) (hv:inV v=true):U4 p v=0↔dot p.n v=p.b:=by
 unfold U4
 rw[hp,hv]
 simp only[Bool.and_self,if_true]
 split
 ·omega
 ·split<;>omega
theorem Ie5 (v:V3):g3 v∣v.x∧g3 v∣v.y∧g3 v∣v.z:=by
 unfold g3
 refine⟨?_,?_,?_⟩<;>rw[← Int.dvd_natAbs]<;>apply Int.natCast_dvd_natCast.2
 ·exact Nat.dvd_trans (Nat.gcd_dvd_left _ _) (Nat.gcd_dvd_left _ _)
 ·exact Nat.dvd_trans (Nat.gcd_dvd_left _ _) (Nat.gcd_dvd_right _ _)
 ·exact Nat.gcd_dvd_right _ _
theorem Ie6 (v:V3) (h:g3 v≠0):g3 ⟨Int.tdiv v.x (g3 v),Int.tdiv v.y (g3 v),Int.tdiv v.z (g3 v)⟩=1:=by
 generalize hg:g3 v=g at *
 have h0:0≤g:=hg ▸ Cb0 v
 obtain⟨n,rfl⟩:∃ n:Nat,g=n:=⟨g.toNat,by omega⟩
 have hn:0 < n:=by omega
 have hgn:Nat.gcd (Nat.gcd v.x.natAbs v.y.natAbs) v.z.natAbs=n:=by unfold g3 at hg;omega
 have d1:n∣Nat.gcd v.x.natAbs v.y.natAbs:=hgn ▸ Nat.gcd_dvd_left _ _
 have d3:n∣v.z.natAbs:=hgn ▸ Nat.gcd_dvd_right _ _
 have d4:n∣v.x.natAbs:=Nat.dvd_trans d1 (Nat.gcd_dvd_left _ _)
 have d5:n∣v.y.natAbs:=Nat.dvd_trans d1 (Nat.gcd_dvd_right _ _)
 unfold g3
 simp only[Int.natAbs_tdiv,Int.natAbs_natCast]
 show ((Nat.gcd (Nat.gcd (v.x.natAbs / n) (v.y.natAbs / n)) (v.z.natAbs / n):Nat):Int)=1
 rw[Nat.gcd_div d4 d5,Nat.gcd_div d1 d3,hgn,Nat.div_self hn]
 rfl
structure Thr (a b c:V3) (p:Pln):Prop where
 ok:okp p=true
 k:∃ g:Int,0 < g∧g*p.n.x=(d8 (sub b a) (sub c a)).x∧g*p.n.y=(d8 (sub b a) (sub c a)).y∧g*p.n.z=(d8 (sub b a) (sub c a)).z
 o:p.b=dot p.n a
theorem pa1 {a b c:V3} (h:(C8 a b c).2=true):(inV a=true∧inV b=true∧inV c=true)∧Thr a b c (C8 a b c).1:=by
 unfold C8 at h ⊢
 cases ha:inV a with
 | false=>rw[ha] at h;cases h
 | true =>
  cases hb:inV b with
  | false=>rw[ha,hb] at h;cases h
  | true =>
   cases hc:inV c with
   | false=>rw[ha,hb,hc] at h;cases h
   | true =>
    rw[ha,hb,hc] at h
    simp only[Bool.and_self,if_true] at h ⊢
    obtain⟨_,k1,k2,k3⟩:=fb8 ha hb hc
    generalize hn:d8 (sub b a) (sub c a)=n at *
    by_cases h0:g3 n=0
    ·rw[if_pos h0] at h;cases h
    ·rw[if_neg h0]
     have hp:=Cb0 n
     obtain⟨d1,d2,d3⟩:=Ie5 n
     have q1:=ga3 (g:=g3 n) k1 (by omega)
     have q2:=ga3 (g:=g3 n) k2 (by omega)
     have q3:=ga3 (g:=g3 n) k3 (by omega)
     refine⟨⟨trivial,trivial,trivial⟩,⟨?_,⟨g3 n,by omega,by rw[hn];exact Int.mul_tdiv_cancel' d1,by rw[hn];exact Int.mul_tdiv_cancel' d2,by rw[hn];exact Int.mul_tdiv_cancel' d3⟩,rfl⟩⟩
     obtain⟨⟨a1,a2⟩,⟨a3,a4⟩,a5,a6⟩:=(Ea2 a).1 ha
     have r1:=mb q1.1 q1.2 a1 a2;have r2:=mb q2.1 q2.2 a3 a4;have r3:=mb q3.1 q3.2 a5 a6
     unfold okp
     rw[Ie6 n h0]
     simp only[List.all_cons,List.all_nil,Bool.and_true,Bool.and_eq_true,Ra6,beq_self_eq_true,true_and,and_true]
     refine⟨⟨q1,q2,q3⟩,?_⟩
     unfold Sm dot
     simp only
     omega
theorem te7 (a b c:V3):Bd (C8 a b c).1:=by
 cases h:(C8 a b c).2 with
 | true=>exact fb7 (pa1 h).2.ok
 | false =>
  have:(C8 a b c).1=⟨⟨0,0,0⟩,0⟩:=by
   unfold C8 at h ⊢
   split
   ·rename_i hc
    rw[if_pos hc] at h
    split
    ·rfl
    ·rename_i h0;rw[if_neg h0] at h;cases h
   ·rfl
  rw[this]
  constructor<;>simp
theorem Tb9 {p:Pln} (h:okp p=true):okp (da2 p)=true:=by
 unfold okp da2 g3 at *
 simp only[List.all_cons,List.all_nil,Bool.and_true,Bool.and_eq_true,Ra6,Int.natAbs_neg] at h ⊢
 obtain⟨⟨h1,h2,h3⟩,h4,h5⟩:=h
 exact⟨⟨h1.neg,h2.neg,h3.neg⟩,h4,h5.neg⟩
noncomputable def Od7 (l:List V3) (p:Pln):Bool:=l.any fun v=>U4 p v != 0
noncomputable def nf (l:List V3) (a c k:Nat):Bool:=(C8 (gL tV l a) (gL tV l c) (gL tV l k)).2&&Od7 l (C8 (gL tV l a) (gL tV l c) (gL tV l k)).1
noncomputable def nf2 (l:List V3) (a c:Nat):Bool:=(List.range c).any (nf l a c)
noncomputable def nf1 (l:List V3) (a:Nat):Bool:=(List.range a).any (nf2 l a)
noncomputable def nf0 (l:List V3):Bool:=(List.range l.length).any (nf1 l)
theorem Cc9 {σ : Type} {step : σ → Stp σ} {mk : Nat → σ} (n : Nat) (c : Nat → Bool) (u fin : Nat) (hn : n ≤ 1000000000) (h : ∀ j, j < n → step (mk j) = sl (c j) (.exit u) (.next (mk (j + 1)))) (hf : step (mk n) = .exit fin) :
  ∃ j,lp step (mk 0)=(if (List.range n).any c then u else fin,mk j):=by
 have key:=T1 (step:=step) (mk:=fun j (_:Unit)=>mk j) n (fun j _=>j≤n∧∀ i,i < j→c i=false) (fun t s=>t=(if (List.range n).any c then u else fin)∧∃ j,s=mk j) hn
  (fun j _ hj hi=>by
   rw[h j hj]
   refine Nx.sl (fun hc=>.ex ⟨?_,j,rfl⟩) (fun hc=>.nx ⟨(),rfl,by omega,fun i hi'=>?_⟩)
   ·rw[if_pos (List.any_eq_true.2 ⟨j,List.mem_range.2 hj,hc⟩)]
   ·by_cases e:i=j
    ·rw[e];exact hc
    ·exact hi.2 i (by omega))
  (fun j _ hj hi=>by
   have e:j=n:=by omega
   subst e
   refine⟨fin,hf,?_,j,rfl⟩
   rw[if_neg fun hh=>?_]
   obtain⟨i,hi1,hi2⟩:=List.any_eq_true.1 hh
   rw[hi.2 i (List.mem_range.1 hi1)] at hi2
   cases hi2) 0 () ⟨by omega,by omega⟩
 obtain⟨t,s,h1,rfl,j,rfl⟩:=key
 exact⟨j,h1⟩
theorem de4 (l:List V3) (x1 x2 x3:Int) (okb:Bool) (p:Pln) (hl:l.length≤1000000000):∃ t s,lp (y6 ⟨l,x1,x2,x3,okb,p.n.x,p.n.y,p.n.z,p.b⟩) ⟨0⟩=(t,s)∧(((okb&&Od7 l p)=true∧t=1)∨((okb&&Od7 l p)=false∧(t=2∨t=3))):=by
 cases okb with
 | false =>
  cases l with
  | nil =>
   refine⟨3,⟨0⟩,?_,.inr ⟨rfl,.inr rfl⟩⟩
   exact Gd6 (step:=y6 ⟨[],x1,x2,x3,false,p.n.x,p.n.y,p.n.z,p.b⟩) rfl
  | cons v l =>
   refine⟨2,⟨0⟩,?_,.inr ⟨rfl,.inl rfl⟩⟩
   refine Gd6 (step:=y6 ⟨v::l,x1,x2,x3,false,p.n.x,p.n.y,p.n.z,p.b⟩) ?_
   simp only[y6,T6]
   rw[btD (by simp only[List.length_cons];omega)]
   rfl
 | true =>
  have h:=ac6 (step:=y6 ⟨l,x1,x2,x3,true,p.n.x,p.n.y,p.n.z,p.b⟩) (mk:=fun j=>(⟨(j:Int)⟩:Y7)) (c:=fun v=>U4 p v != 0) (u:=1) (fin:=3) tV l hl
   (fun j hj=>by
    simp only[y6,T6,be5,Ie4,Int.toNat_natCast,y7 hj (show l.length≤4611686018427387904 by omega)]
    rw[btD (l5 hj),bt (i5 hj)]
    rfl)
   (by simp only[y6,T6];rw[bfD (p5 (Nat.lt_irrefl _))]) 0 (Nat.zero_le _)
  rw[List.drop_zero] at h
  have h:(lp (y6 ⟨l,x1,x2,x3,true,p.n.x,p.n.y,p.n.z,p.b⟩) ⟨0⟩).1=_:=h
  cases hlp:lp (y6 ⟨l,x1,x2,x3,true,p.n.x,p.n.y,p.n.z,p.b⟩) ⟨0⟩ with
  | mk t s =>
  rw[hlp] at h
  refine⟨t,s,rfl,?_⟩
  simp only at h
  rw[h]
  unfold Od7
  cases hh:l.any fun v=>U4 p v != 0 with
  | true=>exact .inl ⟨rfl,rfl⟩
  | false=>exact .inr ⟨rfl,.inr rfl⟩
theorem de5 (l:List V3) (hl:l.length≤1000000000) (a c:Nat) (ha:a < l.length) (hc:c < a):∃ j,lp (M4 ⟨(a:Int),(c:Int)⟩) ⟨l,0⟩=(if nf2 l a c then 1 else 2,⟨l,((j:Nat):Int)⟩) :=
 Cc9 (step:=M4 ⟨(a:Int),(c:Int)⟩) (mk:=fun j=>(⟨l,(j:Int)⟩:Y8)) c (nf l a c) 1 2 (by omega)
  (fun j hj=>by
   simp only[M4,ba8,Od0,Sc0,Int.toNat_natCast,p9,l7,y7 hj (show c≤4611686018427387904 by omega)]
   rw[btD (l5 hj),bt (i5 ha),bt (i5 (show c < l.length by omega)),bt (i5 (show j < l.length by omega)),y9]
   obtain⟨t,s,h1,h2⟩:=de4 l (a:Int) (c:Int) (j:Int) (C8 (gL tV l a) (gL tV l c) (gL tV l j)).2 (C8 (gL tV l a) (gL tV l c) (gL tV l j)).1 hl
   rw[h1]
   unfold nf
   rcases h2 with⟨e,rfl⟩ | ⟨e,rfl | rfl⟩<;>rw[e]<;>rfl)
  (by simp only[M4,ba8];rw[bfD (p5 (Nat.lt_irrefl _))])
theorem de6 (l:List V3) (hl:l.length≤1000000000) (a:Nat) (ha:a < l.length):∃ j,lp (M5 ⟨(a:Int)⟩) ⟨l,0⟩=(if nf1 l a then 1 else 2,⟨l,((j:Nat):Int)⟩) :=
 Cc9 (step:=M5 ⟨(a:Int)⟩) (mk:=fun j=>(⟨l,(j:Int)⟩:Y9)) a (nf2 l a) 1 2 (by omega)
  (fun j hj=>by
   obtain⟨j',h1⟩:=de5 l hl a j ha hj
   simp only[M5,ba9,p9,l7,y7 hj (show a≤4611686018427387904 by omega)]
   rw[btD (l5 hj),h1]
   cases nf2 l a j<;>rfl)
  (by simp only[M5,ba9];rw[bfD (p5 (Nat.lt_irrefl _))])
theorem te8 (l:List V3) (hl:l.length≤1000000000):ya9 l=some (b (!nf0 l),[]):=by
 obtain⟨j,h⟩:=Cc9 (step:=M6 ⟨⟩) (mk:=fun j=>(⟨l,(j:Int)⟩:Z0)) l.length (nf1 l) 1 2 hl
  (fun j hj=>by
   obtain⟨j',h1⟩:=de6 l hl j hj
   simp only[M6,ca0,p9,l7,y7 hj (show l.length≤4611686018427387904 by omega)]
   rw[btD (l5 hj),h1]
   cases nf1 l j<;>rfl)
  (by simp only[M6,ca0];rw[bfD (p5 (Nat.lt_irrefl _))])
 have h:lp (M6 ⟨⟩) ⟨l,0⟩=(if nf0 l then 1 else 2,⟨l,((j:Nat):Int)⟩):=h
 unfold ya9
 simp only[p9,l7]
 rw[h]
 cases nf0 l<;>rfl
theorem Ie7 (l:List V3) (hl:l.length≤1000000000):Va5 l=!nf0 l:=by unfold Va5;rw[te8 l hl];rfl
def hold (p:Pln) (l:List V3):Bool:=!l.any fun v=>decide (U4 p v > 0)
end Go.Ev.Ce
namespace Go.Ev.Ce
open Go Go.Ev Go.Ev.L Go.Proofs
noncomputable def od4 (l:List V3) (a c:Nat) (out:List Pln) (k:Nat):List Pln :=
  if (C8 (gL tV l a) (gL tV l c) (gL tV l k)).2 then
    (if hold (da2 (C8 (gL tV l a) (gL tV l c) (gL tV l k)).1) l then ad6 (if hold (C8 (gL tV l a) (gL tV l c) (gL tV l k)).1 l then ad6 out (C8 (gL tV l a) (gL tV l c) (gL tV l k)).1 else out) (da2 (C8 (gL tV l a) (gL tV l c) (gL tV l k)).1)
     else (if hold (C8 (gL tV l a) (gL tV l c) (gL tV l k)).1 l then ad6 out (C8 (gL tV l a) (gL tV l c) (gL tV l k)).1 else out))
  else out
noncomputable def F2 (l:List V3) (a:Nat) (out:List Pln) (c:Nat):List Pln:=(List.range c).foldl (od4 l a c) out
noncomputable def F1 (l:List V3) (out:List Pln) (a:Nat):List Pln:=(List.range a).foldl (F2 l a) out
noncomputable def F0 (l:List V3):List Pln:=(List.range l.length).foldl (F1 l) []
theorem H9 {τ:Type} (f:τ→Nat→τ) (a:τ) (n:Nat):(List.range (n+1)).foldl f a=f ((List.range n).foldl f a) n:=by
  rw[List.range_succ,List.foldl_append];rfl
theorem Dc0 {f:List Pln→Nat→List Pln} {m:Nat} (h:∀ o k,(f o k).length≤o.length+m) (o:List Pln):∀ n,((List.range n).foldl f o).length≤o.length+m*n
  | 0=>Nat.le_refl _
  | n+1=>by
    rw[H9]
    have h1:=h ((List.range n).foldl f o) n
    have h2:=Dc0 h o n
    rw[Nat.mul_succ]
    omega
end Go.Ev.Ce
namespace Go.Ev.Ce
open Go Go.Ev Go.Ev.L Go.Proofs
def Ub0 (l:List Pln) (p:Pln):Bool:=l.any fun q=>eqP q p
theorem od5 (l:List Pln) (p:Pln):Ub0 l p=true↔p∈l:=by
 unfold Ub0
 rw[List.any_eq_true]
 exact⟨fun⟨q,h,e⟩=>by rw[Tb4] at e;exact e ▸ h,fun h=>⟨p,h,(Tb4 p p).2 rfl⟩⟩
def ipt (v:V3):Pt:=⟨v.x,v.y,v.z,1⟩
theorem Ie8 {v:V3} (h:inV v=true):∀ p∈ws,0≤rmZ p (ipt v):=by
 obtain⟨⟨a1,a2⟩,⟨a3,a4⟩,a5,a6⟩:=(Ea2 v).1 h
 intro p hp
 simp only[ws,List.mem_cons,List.not_mem_nil,or_false] at hp
 rcases hp with rfl | rfl | rfl | rfl | rfl | rfl<;>simp only[rmZ,ipt]<;>omega
end Go.Ev.Ce
namespace Go.Ev.Ce
open Go Go.Ev Go.Ev.L Go.Proofs
theorem zd9 {p:Pln} (h:okp p=true):g3 p.n=1:=by
 unfold okp at h
 simp only[Bool.and_eq_true,beq_iff_eq] at h
 exact h.2.1
theorem Sc5 {p:Pln} (h:okp p=true):p.n≠⟨0,0,0⟩:=fun e=>by
 have:=zd9 h
 rw[e] at this
 revert this
 decide
theorem de7 (c:Int) (n:V3):g3 ⟨c*n.x,c*n.y,c*n.z⟩=c.natAbs*g3 n:=by
 unfold g3
 simp only[Int.natAbs_mul,Nat.gcd_mul_left]
 rw[Int.natCast_mul]
theorem de8 {m n:V3} (hm:g3 m=1) (hn:g3 n=1) (h:d8 m n=⟨0,0,0⟩):n=m∨n=neg m:=by
 unfold d8 at h
 simp only[V3.mk.injEq] at h
 obtain⟨c1,c2,c3⟩:=h
 have k:∀ {c d:Int},c*m.x=d*n.x→c*m.y=d*n.y→c*m.z=d*n.z→c.natAbs=d.natAbs:=fun {c d} e1 e2 e3=>by
  have a1:=de7 c m
  have a2:=de7 d n
  rw[e1,e2,e3,a2,hm,hn] at a1
  omega
 have ax:=k (c:=n.x) (d:=m.x) (by grind) (by grind) (by grind)
 have ay:=k (c:=n.y) (d:=m.y) (by grind) (by grind) (by grind)
 have az:=k (c:=n.z) (d:=m.z) (by grind) (by grind) (by grind)
 have sg:∀ {a c:Int},a.natAbs=c.natAbs→a=c∨a=-c:=fun h=>by omega
 -- the sign of one component that is not zero is that of all
 have go:∀ {s u t v:Int},u≠0→s*v=u*t→s=u→t=v:=fun {s u t v} hu h e=>by
  subst e
  exact (Int.eq_of_mul_eq_mul_left hu h).symm
 have gn:∀ {s u t v:Int},u≠0→s*v=u*t→s=-u→t=-v:=fun {s u t v} hu h e=>by
  subst e
  have:u*t=u*(-v):=by rw[← h];grind
  exact Int.eq_of_mul_eq_mul_left hu this
 by_cases hx:m.x=0
 ·have hx':n.x=0:=by omega
  by_cases hy:m.y=0
  ·have hy':n.y=0:=by omega
   rcases sg az with e | e
   ·exact .inl (V3.ext' (by omega) (by omega) e)
   ·exact .inr (V3.ext' (by show n.x=-m.x;omega) (by show n.y=-m.y;omega) e)
  ·rcases sg ay with e | e
   ·exact .inl (V3.ext' (by omega) e (go hy (by grind) e))
   ·exact .inr (V3.ext' (by show n.x=-m.x;omega) e (gn hy (by grind) e))
 ·rcases sg ax with e | e
  ·exact .inl (V3.ext' e (go hx (by grind) e) (go hx (by grind) e))
  ·exact .inr (V3.ext' e (gn hx (by grind) e) (gn hx (by grind) e))
structure df0 (l:List V3):Prop where
 h:∃ a c k v,a∈l∧c∈l∧k∈l∧v∈l∧dot (d8 (sub c a) (sub k a)) (sub v a)≠0
theorem gLm {l:List V3} {j:Nat} (h:j < l.length):gL tV l j∈l:=eb9 tV h
theorem df1 {l:List V3} (hf:nf0 l=true):df0 l:=by
 unfold nf0 at hf
 obtain⟨a,ha,hf⟩:=List.any_eq_true.1 hf
 unfold nf1 at hf
 obtain⟨c,hc,hf⟩:=List.any_eq_true.1 hf
 unfold nf2 at hf
 obtain⟨k,hk,hf⟩:=List.any_eq_true.1 hf
 rw[List.mem_range] at ha hc hk
 unfold nf at hf
 rw[Bool.and_eq_true] at hf
 obtain⟨h1,h2⟩:=hf
 obtain⟨⟨i1,i2,i3⟩,⟨ok,⟨g,hg,e1,e2,e3⟩,o⟩⟩:=pa1 h1
 unfold Od7 at h2
 obtain⟨v,hv,h2⟩:=List.any_eq_true.1 h2
 generalize (C8 (gL tV l a) (gL tV l c) (gL tV l k)).1=p at *
 refine⟨_,_,_,v,gLm ha,gLm (show c < l.length by omega),gLm (show k < l.length by omega),hv,fun h0=>?_⟩
 have hs:U4 p v≠0:=by simpa using h2
 have hiv:inV v=true:=by
  cases hi:inV v with
  | true=>rfl
  | false=>exact absurd (by unfold U4;rw[ok,hi];rfl) hs
 apply hs
 rw[jb5 ok hiv,o]
 have:g*(dot p.n v - dot p.n (gL tV l a))=dot (d8 (sub (gL tV l c) (gL tV l a)) (sub (gL tV l k) (gL tV l a))) (sub v (gL tV l a)):=by
  unfold dot
  rw[← e1,← e2,← e3]
  unfold sub
  grind
 rw[h0] at this
 have:=(Int.mul_eq_zero.1 this).resolve_left (by omega)
 omega
theorem jb6 {p:Pln} {l:List V3} (hp:okp p=true) (hl:l.all inV=true):hold p l=true↔∀ v∈l,dot p.n v≤p.b:=by
 unfold hold
 rw[Bool.not_eq_true',← Bool.not_eq_true,List.any_eq_true]
 constructor
 ·intro h v hv
  have h1:¬ U4 p v > 0:=fun h'=>h ⟨v,hv,by simpa using h'⟩
  rw[Cc8 hp (List.all_eq_true.1 hl v hv)] at h1
  omega
 ·rintro h ⟨v,hv,h1⟩
  have h1:U4 p v > 0:=by simpa using h1
  rw[Cc8 hp (List.all_eq_true.1 hl v hv)] at h1
  have:=h v hv
  omega
structure Fct (l:List V3) (p:Pln):Prop where
 ok:okp p=true
 hd:hold p l=true
theorem Dc1 (p:Pln) (v:V3):dot (da2 p).n v=-dot p.n v:=by unfold dot da2;grind
theorem Od8 (l : List V3) (a c k : Nat) (out : List Pln) (p : Pln) : p ∈ od4 l a c out k ↔ p ∈ out ∨ ((C8 (gL tV l a) (gL tV l c) (gL tV l k)).2 = true ∧
  ((p=(C8 (gL tV l a) (gL tV l c) (gL tV l k)).1∧hold p l=true)∨(p=da2 (C8 (gL tV l a) (gL tV l c) (gL tV l k)).1∧hold p l=true))):=by
 unfold od4
 generalize C8 (gL tV l a) (gL tV l c) (gL tV l k)=T
 cases h2:T.2 with
 | false=>simp
 | true =>
  simp only[if_true]
  cases h4:hold (da2 T.1) l with
  | false =>
   simp only[Bool.false_eq_true,if_false]
   cases h3:hold T.1 l with
   | false =>
    simp only[Bool.false_eq_true,if_false]
    constructor
    ·exact fun h=>.inl h
    ·rintro (h | ⟨_,⟨rfl,h⟩ | ⟨rfl,h⟩⟩)
     ·exact h
     ·rw[h3] at h;cases h
     ·rw[h4] at h;cases h
   | true =>
    simp only[if_true,yb7]
    constructor
    ·rintro (rfl | h)
     ·exact .inr ⟨trivial,.inl ⟨rfl,h3⟩⟩
     ·exact .inl h
    ·rintro (h | ⟨_,⟨rfl,h⟩ | ⟨rfl,h⟩⟩)
     ·exact .inr h
     ·exact .inl rfl
     ·rw[h4] at h;cases h
  | true =>
   simp only[if_true,yb7]
   cases h3:hold T.1 l with
   | false =>
    simp only[Bool.false_eq_true,if_false]
    constructor
    ·rintro (rfl | h)
     ·exact .inr ⟨trivial,.inr ⟨rfl,h4⟩⟩
     ·exact .inl h
    ·rintro (h | ⟨_,⟨rfl,h⟩ | ⟨rfl,h⟩⟩)
     ·exact .inr h
     ·rw[h3] at h;cases h
     ·exact .inl rfl
   | true =>
    simp only[if_true,yb7]
    constructor
    ·rintro (rfl | rfl | h)
     ·exact .inr ⟨trivial,.inr ⟨rfl,h4⟩⟩
     ·exact .inr ⟨trivial,.inl ⟨rfl,h3⟩⟩
     ·exact .inl h
    ·rintro (h | ⟨_,⟨rfl,h⟩ | ⟨rfl,h⟩⟩)
     ·exact .inr (.inr h)
     ·exact .inr (.inl rfl)
     ·exact .inl rfl
theorem Ya9 {f:List Pln→Nat→List Pln} {Q:Nat→Pln→Prop} (h:∀ o k p,p∈f o k↔p∈o∨Q k p) (o:List Pln) (p:Pln):∀ n,p∈(List.range n).foldl f o↔p∈o∨∃ k,k < n∧Q k p
 | 0=>by simp
 | n+1=>by
  rw[H9,h,Ya9 h o p n]
  constructor
  ·rintro ((h | ⟨k,hk,h⟩) | h)
   ·exact .inl h
   ·exact .inr ⟨k,by omega,h⟩
   ·exact .inr ⟨n,by omega,h⟩
  ·rintro (h | ⟨k,hk,h⟩)
   ·exact .inl (.inl h)
   ·by_cases e:k=n
    ·subst e;exact .inr h
    ·exact .inl (.inr ⟨k,by omega,h⟩)
def Fq (l : List V3) (a c k : Nat) (p : Pln) : Prop := (C8 (gL tV l a) (gL tV l c) (gL tV l k)).2 = true ∧
  ((p=(C8 (gL tV l a) (gL tV l c) (gL tV l k)).1∧hold p l=true)∨(p=da2 (C8 (gL tV l a) (gL tV l c) (gL tV l k)).1∧hold p l=true))
theorem Ie9 (l:List V3) (a c:Nat) (out:List Pln) (p:Pln):p∈F2 l a out c↔p∈out∨∃ k,k < c∧Fq l a c k p:=Ya9 (fun o k p=>Od8 l a c k o p) out p c
theorem Je0 (l:List V3) (a:Nat) (out:List Pln) (p:Pln):p∈F1 l out a↔p∈out∨∃ c,c < a∧∃ k,k < c∧Fq l a c k p:=Ya9 (fun o c p=>Ie9 l a c o p) out p a
theorem Ad0 (l:List V3) (p:Pln):p∈F0 l↔∃ a,a < l.length∧∃ c,c < a∧∃ k,k < c∧Fq l a c k p:=by
 have:=Ya9 (fun o a p=>Je0 l a o p) [] p l.length
 simpa [F0] using this
theorem Od9 {l:List V3} {a c:Nat} {out:List Pln} {k:Nat} (h:Pa2 out):Pa2 (od4 l a c out k):=by
 unfold od4
 split
 ·split
  ·refine Tb7 _ ?_
   split
   ·exact Tb7 _ h
   ·exact h
  ·split
   ·exact Tb7 _ h
   ·exact h
 ·exact h
theorem Ub1 {f:List Pln→Nat→List Pln} (h:∀ o k,Pa2 o→Pa2 (f o k)) {o:List Pln} (ho:Pa2 o):∀ n,Pa2 ((List.range n).foldl f o)
 | 0=>ho
 | n+1=>by rw[H9];exact h _ _ (Ub1 h ho n)
theorem Je1 {l:List V3} {a c:Nat} {out:List Pln} (h:Pa2 out):Pa2 (F2 l a out c):=Ub1 (fun _ _ h=>Od9 h) h c
theorem Je2 {l:List V3} {a:Nat} {out:List Pln} (h:Pa2 out):Pa2 (F1 l out a):=Ub1 (fun _ _ h=>Je1 h) h a
theorem Dc2 (l:List V3):Pa2 (F0 l):=Ub1 (fun _ _ h=>Je2 h) .nil l.length
theorem de9 {l:List V3} {p:Pln} (hp:p∈F0 l):Fct l p:=by
 obtain⟨a,ha,c,hc,k,hk,h1,⟨h2,h3⟩ | ⟨h2,h3⟩⟩:=(Ad0 l p).1 hp
 ·exact⟨h2 ▸ (pa1 h1).2.ok,h3⟩
 ·exact⟨h2 ▸ Tb9 (pa1 h1).2.ok,h3⟩
end Go.Ev.Ce
namespace Go.Ev.Ce
open Go Go.Ev Go.Ev.L Go.Proofs
structure od6 (c:List Pln):Prop where
 l:c.length≤47
 v:∀ p∈c,okp p=true
 f:ce6 (c++ws)
theorem od6.chk {c:List Pln} (h:od6 c):(chk c==0)=true:=by
 rw[beq_iff_eq,nd2]
 exact⟨by have:=h.l;omega,h.v⟩
theorem od6.bds {c:List Pln} (h:od6 c):Bds (c++ws):=(se4 h.chk).1
theorem od6.ful {c:List Pln} (h:od6 c):ful c=true:=by
 unfold Ce.ful
 rw[h.chk,(Od6 h.bds (de0 c) (by simp[ws])).2 h.f]
 rfl
theorem od6.pts {c:List Pln} (h:od6 c):pts c=cor (c++ws):=by unfold Ce.pts;rw[if_pos h.chk]
end Go.Ev.Ce
namespace Go.Ev.Ce
def A3 (a b:V3):V3:=⟨a.x - b.x,a.y - b.y,a.z - b.z⟩
def N3 (u w x:V3):V3:=d8 (A3 w u) (A3 x u)
def rb5:List V3→V3
 | []=>⟨0,0,0⟩
 | v::l=>⟨v.x+(rb5 l).x,v.y+(rb5 l).y,v.z+(rb5 l).z⟩
def Ub2:List Int→Int
 | []=>0
 | x::l=>x+Ub2 l
theorem od7 (n:V3):∀ l:List V3,dot n (rb5 l)=Ub2 (l.map (dot n))
 | []=>by simp[rb5,Ub2,dot]
 | v::l=>by
  have:=od7 n l
  simp only[List.map_cons,Ub2,← this]
  simp only[rb5,dot]
  grind
theorem od8 (m s:Int):∀ l:List Int,Ub2 (l.map fun a=>m*a - s)=m*Ub2 l - s*l.length
 | []=>by simp[Ub2]
 | a::l=>by
  have:=od8 m s l
  simp only[List.map_cons,Ub2,this,List.length_cons]
  grind
theorem ic1:∀ {l:List Int},(∀ a∈l,a≤0)→Ub2 l≤0
 | [],_=>by simp[Ub2]
 | a::l,h=>by
  have:=ic1 (l:=l) fun x hx=>h x (List.mem_cons_of_mem _ hx)
  have:=h a List.mem_cons_self
  simp only[Ub2]
  omega
theorem dc9:∀ {l:List Int},(∀ a∈l,a≤0)→Ub2 l=0→∀ a∈l,a=0
 | [],_,_=>fun a ha=>by cases ha
 | a::l,h,h0=>by
  have h1:=ic1 (l:=l) fun x hx=>h x (List.mem_cons_of_mem _ hx)
  have h2:=h a List.mem_cons_self
  simp only[Ub2] at h0
  intro b hb
  rcases List.mem_cons.1 hb with rfl | hb
  ·omega
  ·exact dc9 (l:=l) (fun x hx=>h x (List.mem_cons_of_mem _ hx)) (by omega) b hb
def Sol (l:List V3):Prop:=∃ a c k v,a∈l∧c∈l∧k∈l∧v∈l∧dot (N3 a c k) (A3 v a)≠0
theorem Sol.off {l:List V3} (h:Sol l) {n:V3} (hn:n≠⟨0,0,0⟩) (b:Int):∃ v∈l,dot n v≠b:=by
 obtain⟨a,c,k,v,ha,hc,hk,hv,hd⟩:=h
 by_cases h1:dot n a=b
 ·by_cases h2:dot n c=b
  ·by_cases h3:dot n k=b
   ·by_cases h4:dot n v=b
    ·exfalso
     unfold N3 at hd
     generalize hD:dot (d8 (A3 c a) (A3 k a)) (A3 v a)=D at *
     have q1:dot n (A3 c a)=0:=by unfold dot A3 at *;grind
     have q2:dot n (A3 k a)=0:=by unfold dot A3 at *;grind
     have q3:dot n (A3 v a)=0:=by unfold dot A3 at *;grind
     generalize A3 c a=p at *
     generalize A3 k a=q at *
     generalize A3 v a=r at *
     have i1:D*n.x=(d8 q r).x*dot n p+(d8 r p).x*dot n q+(d8 p q).x*dot n r:=by rw[← hD];simp only[dot,d8];grind
     have i2:D*n.y=(d8 q r).y*dot n p+(d8 r p).y*dot n q+(d8 p q).y*dot n r:=by rw[← hD];simp only[dot,d8];grind
     have i3:D*n.z=(d8 q r).z*dot n p+(d8 r p).z*dot n q+(d8 p q).z*dot n r:=by rw[← hD];simp only[dot,d8];grind
     rw[q1,q2,q3] at i1 i2 i3
     have z:∀ {x:Int},D*x=0→x=0:=fun h=>(Int.mul_eq_zero.1 h).resolve_left hd
     exact hn (V3.ext' (z (by omega)) (z (by omega)) (z (by omega)))
    ·exact⟨v,hv,h4⟩
   ·exact⟨k,hk,h3⟩
  ·exact⟨c,hc,h2⟩
 ·exact⟨a,ha,h1⟩
theorem Sol.ne {l:List V3} (h:Sol l):∃ v,v∈l:=by obtain⟨a,_,_,_,ha,_⟩:=h;exact⟨a,ha⟩
structure Fac (l:List V3) (n:V3) (b:Int):Prop where
 hd:∀ v∈l,dot n v≤b
 on:∃ u w x,u∈l∧w∈l∧x∈l∧N3 u w x≠⟨0,0,0⟩∧dot n u=b∧dot n w=b∧dot n x=b
def Je3 (l:List V3) (c:List Pln):Prop:=∀ n b,n≠⟨0,0,0⟩→Fac l n b→∃ s t:Int,0 < s∧0 < t∧∃ q∈c,t*q.n.x=s*n.x∧t*q.n.y=s*n.y∧t*q.n.z=s*n.z∧t*q.b=s*b
def pol (m:Int) (S v:V3):Pln:=⟨⟨m*v.x - S.x,m*v.y - S.y,m*v.z - S.z⟩,1⟩
theorem te9 (m:Int) (S v d:V3):dot (pol m S v).n d=m*dot d v - dot d S:=by simp only[dot,pol];grind
theorem od9 (l:List V3) (d:V3):Ub2 (l.map fun v=>(l.length:Int)*dot d v - dot d (rb5 l))=0:=by
 have h:=od8 (l.length:Int) (dot d (rb5 l)) (l.map (dot d))
 rw[List.map_map] at h
 have e:((fun a=>(l.length:Int)*a - dot d (rb5 l))∘dot d)=fun v=>(l.length:Int)*dot d v - dot d (rb5 l):=rfl
 rw[e] at h
 rw[h,← od7,List.length_map]
 grind
theorem Sc6 {a b:V3} (h:dot a b≠0):b≠⟨0,0,0⟩:=fun e=>h (by subst e;simp[dot])
theorem Dc3 {a b:V3} (h:dot a b≠0):a≠⟨0,0,0⟩:=fun e=>h (by subst e;simp[dot])
theorem Hd0 {l:List V3} (h:Sol l):0 < (l.length:Int):=by
 obtain⟨v,hv⟩:=h.ne
 have:=List.length_pos_of_mem hv
 omega
theorem ue0 {l:List V3} (h:Sol l):Bdd (l.map (pol l.length (rb5 l))):=fun d hd=>by
 by_cases hh:∃ p∈l.map (pol l.length (rb5 l)),0 < dot p.n d
 ·exact hh
 exfalso
 have hm:=Hd0 h
 have hall:∀ a∈l.map (fun v=>(l.length:Int)*dot d v - dot d (rb5 l)),a≤0:=fun a ha=>by
  obtain⟨v,hv,rfl⟩:=List.mem_map.1 ha
  refine Int.not_lt.1 fun h'=>hh ⟨pol l.length (rb5 l) v,List.mem_map.2 ⟨v,hv,rfl⟩,?_⟩
  rw[te9]
  omega
 have hz:=dc9 hall (od9 l d)
 obtain⟨a,ha⟩:=h.ne
 obtain⟨v,hv,hne⟩:=h.off hd (dot d a)
 have e1:=hz _ (List.mem_map.2 ⟨a,ha,rfl⟩)
 have e2:=hz _ (List.mem_map.2 ⟨v,hv,rfl⟩)
 apply hne
 have:(l.length:Int)*(dot d v - dot d a)=0:=by grind
 have:=(Int.mul_eq_zero.1 this).resolve_left (by omega)
 omega
theorem Cb2 {l:List V3} (h4:Sol l) {c:List Pln} (hc:Je3 l c) {x:Pt} (hx:Inr c x) {h:Pln} (hh:∀ v∈l,dot h.n v≤h.b):0≤rmZ h x:=by
 have hm:=Hd0 h4
 have hr:=ue0 h4
 generalize hS:rb5 l=S at hr
 generalize hM:(l.length:Int)=m at hr hm
 -- the linear function on the polar
 have hv:∀ y,Cn (l.map (pol m S)) y→0≤rmZ ⟨⟨m*x.px - x.pw*S.x,m*x.py - x.pw*S.y,m*x.pz - x.pw*S.z⟩,x.pw⟩ y:=fun y hy=>by
  obtain⟨p1,p2,p3,hp1,hp2,hp3,hw,e1,e2,e3⟩:=hy.c
  obtain⟨v1,m1,rfl⟩:=List.mem_map.1 hp1
  obtain⟨v2,m2,rfl⟩:=List.mem_map.1 hp2
  obtain⟨v3,m3,rfl⟩:=List.mem_map.1 hp3
  have rp:∀ v,rmZ (pol m S v) y=y.pw - (m*dot ⟨y.px,y.py,y.pz⟩ v - dot ⟨y.px,y.py,y.pz⟩ S):=fun v=>by simp only[rmZ,pol,dot];grind
  rw[rp] at e1 e2 e3
  have hn3:dot (pol m S v1).n (N3 v1 v2 v3)≠0:=fun h0=>hw (by
   have:mw (pol m S v1) (pol m S v2) (pol m S v3)=m*m*dot (pol m S v1).n (N3 v1 v2 v3):=by simp only[mw,pol,dot,N3,d8,A3];grind
   rw[this,h0,Int.mul_zero])
  have hne:N3 v1 v2 v3≠⟨0,0,0⟩:=Sc6 hn3
  have hfac:Fac l ⟨m*y.px,m*y.py,m*y.pz⟩ (y.pw+dot ⟨y.px,y.py,y.pz⟩ S):=by
   have ed:∀ v,dot ⟨m*y.px,m*y.py,m*y.pz⟩ v=m*dot ⟨y.px,y.py,y.pz⟩ v:=fun v=>by simp only[dot];grind
   refine⟨fun v hv=>?_,v1,v2,v3,m1,m2,m3,hne,?_,?_,?_⟩
   ·have:=hy.h (pol m S v) (List.mem_map.2 ⟨v,hv,rfl⟩)
    rw[rp] at this
    rw[ed];omega
   ·rw[ed];omega
   ·rw[ed];omega
   ·rw[ed];omega
  have hyn:(⟨m*y.px,m*y.py,m*y.pz⟩:V3)≠⟨0,0,0⟩:=fun e=>by
   have k:∀ {a:Int},m*a=0→a=0:=fun h=>(Int.mul_eq_zero.1 h).resolve_left (by omega)
   simp only[V3.mk.injEq] at e
   have a1:=k e.1;have a2:=k e.2.1;have a3:=k e.2.2
   rw[a1,a2,a3] at e1
   have hw:=hy.w
   simp only[dot] at e1
   simp only[Int.zero_mul,Int.add_zero,Int.mul_zero,Int.sub_zero] at e1
   omega
  obtain⟨s,t,hs,ht,q,hq,f1,f2,f3,f4⟩:=hc _ _ hyn hfac
  have hxq:=hx.h q hq
  have e:t*rmZ q x=s*rmZ ⟨⟨m*x.px - x.pw*S.x,m*x.py - x.pw*S.y,m*x.pz - x.pw*S.z⟩,x.pw⟩ y:=by
   have:t*rmZ q x=(t*q.b)*x.pw - ((t*q.n.x)*x.px+(t*q.n.y)*x.py+(t*q.n.z)*x.pz):=by simp only[rmZ];grind
   rw[this,f1,f2,f3,f4]
   simp only[rmZ,dot];grind
  have h1:=Int.mul_nonneg (Int.le_of_lt ht) hxq
  rw[e] at h1
  exact Int.nonneg_of_mul_nonneg_right h1 hs
 by_cases hn:h.n=⟨0,0,0⟩
 ·obtain⟨v,hv⟩:=h4.ne
  have h1:=hh v hv
  have e:rmZ h x=h.b*x.pw:=by simp only[rmZ,hn];grind
  rw[e]
  rw[hn] at h1
  simp only[dot,Int.zero_mul,Int.add_zero] at h1
  exact Int.mul_nonneg h1 (Int.le_of_lt hx.w)
 ·-- the polar point of h
  have hall:∀ a∈l.map (fun v=>(l.length:Int)*dot h.n v - dot h.n (rb5 l)),a≤(l.length:Int)*h.b - dot h.n (rb5 l):=fun a ha=>by
   obtain⟨v,hv,rfl⟩:=List.mem_map.1 ha
   have:=Int.mul_le_mul_of_nonneg_left (hh v hv) (show 0≤(l.length:Int) by omega)
   omega
  have hpos:0 < m*h.b - dot h.n S:=by
   rw[← hM,← hS]
   by_cases h0:0 < (l.length:Int)*h.b - dot h.n (rb5 l)
   ·exact h0
   exfalso
   have hz:=dc9 (fun a ha=>by have:=hall a ha;omega) (od9 l h.n)
   obtain⟨v,hv,hne⟩:=h4.off hn h.b
   have e1:=hz _ (List.mem_map.2 ⟨v,hv,rfl⟩)
   have h2:=hh v hv
   have:(l.length:Int)*dot h.n v < (l.length:Int)*h.b:=Int.mul_lt_mul_of_pos_left (by omega) (by omega)
   omega
  have hy:Inr (l.map (pol m S)) ⟨h.n.x,h.n.y,h.n.z,m*h.b - dot h.n S⟩:=⟨hpos,fun p hp=>by
   obtain⟨v,hv,rfl⟩:=List.mem_map.1 hp
   have e:rmZ (pol m S v) ⟨h.n.x,h.n.y,h.n.z,m*h.b - dot h.n S⟩=m*(h.b - dot h.n v):=by simp only[rmZ,pol,dot];grind
   rw[e]
   exact Int.mul_nonneg (by omega) (by have:=hh v hv;omega)⟩
  have h1:=ma3 hr hv hy
  have e:rmZ ⟨⟨m*x.px - x.pw*S.x,m*x.py - x.pw*S.y,m*x.pz - x.pw*S.z⟩,x.pw⟩ ⟨h.n.x,h.n.y,h.n.z,m*h.b - dot h.n S⟩=m*rmZ h x:=by simp only[rmZ,dot];grind
  rw[e] at h1
  exact Int.nonneg_of_mul_nonneg_right h1 hm
end Go.Ev.Ce
namespace Go.Ev.Ce
theorem ad9 (own:List V3):(∃ a c k,a∈own∧c∈own∧k∈own∧dot a (d8 c k)≠0)∨∃ d,d≠(⟨0,0,0⟩:V3)∧∀ n∈own,dot n d=0:=by
 by_cases h1:∃ a∈own,a≠⟨0,0,0⟩
 ·obtain⟨a,ha,hne⟩:=h1
  by_cases h2:∃ c∈own,d8 a c≠⟨0,0,0⟩
  ·obtain⟨c,hc,hx⟩:=h2
   by_cases h3:∃ k∈own,dot k (d8 a c)≠0
   ·obtain⟨k,hk,h⟩:=h3
    exact .inl ⟨k,a,c,hk,ha,hc,h⟩
   ·exact .inr ⟨d8 a c,hx,fun n hn=>Classical.byContradiction fun h=>h3 ⟨n,hn,h⟩⟩
  ·obtain⟨d,hd,h0⟩:=te3 hne
   refine .inr ⟨d,hd,fun n hn=>?_⟩
   have hc:d8 a n=⟨0,0,0⟩:=Classical.byContradiction fun h=>h2 ⟨n,hn,h⟩
   have e:∀ {s t:Int},s*t=0→s≠0→t=0:=fun h hs=>(Int.mul_eq_zero.1 h).resolve_left hs
   unfold d8 at hc
   simp only[V3.mk.injEq] at hc
   obtain⟨c1,c2,c3⟩:=hc
   have k1:a.x*dot n d=0:=by
    have:a.x*dot n d=n.x*dot a d+(a.x*n.y - a.y*n.x)*d.y - (a.z*n.x - a.x*n.z)*d.z:=by simp only[dot];grind
    rw[this,h0,c3,c2];simp
   have k2:a.y*dot n d=0:=by
    have:a.y*dot n d=n.y*dot a d+(a.y*n.z - a.z*n.y)*d.z - (a.x*n.y - a.y*n.x)*d.x:=by simp only[dot];grind
    rw[this,h0,c1,c3];simp
   have k3:a.z*dot n d=0:=by
    have:a.z*dot n d=n.z*dot a d+(a.z*n.x - a.x*n.z)*d.x - (a.y*n.z - a.z*n.y)*d.y:=by simp only[dot];grind
    rw[this,h0,c2,c1];simp
   by_cases hx:a.x=0
   ·by_cases hy:a.y=0
    ·exact e k3 fun hz=>hne (V3.ext' hx hy hz)
    ·exact e k2 hy
   ·exact e k1 hx
 ·exact .inr ⟨⟨1, 0, 0⟩, by simp, fun n hn => by
   have:n=⟨0,0,0⟩:=Classical.byContradiction fun h=>h1 ⟨n,hn,h⟩
   rw[this];simp[dot]⟩
theorem big (d:V3):∀ c:List Pln,∃ N:Int,0 < N∧∀ p∈c,dot p.n d≤N∧-dot p.n d≤N
 | []=>⟨1,by decide,fun p hp=>by cases hp⟩
 | q::c=>by
  obtain⟨N,h0,h⟩:=big d c
  refine⟨N+(dot q.n d).natAbs,by omega,fun p hp=>?_⟩
  rcases List.mem_cons.1 hp with rfl | hp
  ·omega
  ·have:=h p hp;omega
theorem Ub3 {p q s:Pln} (hw:mw p q s≠0) {d:V3} (h1:dot p.n d=0) (h2:dot q.n d=0) (h3:dot s.n d=0):d=⟨0,0,0⟩:=by
 have i1:mw p q s*d.x=(d8 q.n s.n).x*dot p.n d+(d8 s.n p.n).x*dot q.n d+(d8 p.n q.n).x*dot s.n d:=by simp only[mw,dot,d8];grind
 have i2:mw p q s*d.y=(d8 q.n s.n).y*dot p.n d+(d8 s.n p.n).y*dot q.n d+(d8 p.n q.n).y*dot s.n d:=by simp only[mw,dot,d8];grind
 have i3:mw p q s*d.z=(d8 q.n s.n).z*dot p.n d+(d8 s.n p.n).z*dot q.n d+(d8 p.n q.n).z*dot s.n d:=by simp only[mw,dot,d8];grind
 rw[h1,h2,h3] at i1 i2 i3
 have z:∀ {x:Int},mw p q s*x=0→x=0:=fun h=>(Int.mul_eq_zero.1 h).resolve_left hw
 exact V3.ext' (z (by omega)) (z (by omega)) (z (by omega))
def Spn (c:List Pln) (v:V3):Prop:=∃ p q s,p∈c∧q∈c∧s∈c∧mw p q s≠0∧dot p.n v=p.b∧dot q.n v=q.b∧dot s.n v=s.b
theorem ue1 {l:List V3} (h4:Sol l) {c w:List Pln} (hc:Je3 l c) (hin:∀ p∈c++w,∀ v∈l,dot p.n v≤p.b) {x:Pt} (hx:Cn (c++w) x):∃ v∈l,Eqv x ⟨v.x,v.y,v.z,1⟩∧Spn c v:=by
 obtain⟨p,q,s,hp,hq,hs,hw,e1,e2,e3⟩:=hx.c
 have hxc:Inr c x:=⟨hx.w,fun a ha=>hx.h a (List.mem_append_left _ ha)⟩
 have hv:∃ v∈l,dot p.n v=p.b∧dot q.n v=q.b∧dot s.n v=s.b:=by
  apply Classical.byContradiction
  intro hno
  have h1:=Cb2 h4 hc hxc (h:=⟨⟨p.n.x+q.n.x+s.n.x,p.n.y+q.n.y+s.n.y,p.n.z+q.n.z+s.n.z⟩,p.b+q.b+s.b - 1⟩) fun v hv=>by
   have a1:=hin p hp v hv;have a2:=hin q hq v hv;have a3:=hin s hs v hv
   have e:dot ⟨p.n.x+q.n.x+s.n.x,p.n.y+q.n.y+s.n.y,p.n.z+q.n.z+s.n.z⟩ v=dot p.n v+dot q.n v+dot s.n v:=by simp only[dot];grind
   simp only[e]
   have:¬ (dot p.n v=p.b∧dot q.n v=q.b∧dot s.n v=s.b):=fun h=>hno ⟨v,hv,h⟩
   omega
  have e:rmZ ⟨⟨p.n.x+q.n.x+s.n.x,p.n.y+q.n.y+s.n.y,p.n.z+q.n.z+s.n.z⟩,p.b+q.b+s.b - 1⟩ x=rmZ p x+rmZ q x+rmZ s x - x.pw:=by simp only[rmZ];grind
  rw[e,e1,e2,e3] at h1
  have:=hx.w
  omega
 obtain⟨v,hv,t1,t2,t3⟩:=hv
 have hd:(⟨x.px - v.x*x.pw,x.py - v.y*x.pw,x.pz - v.z*x.pw⟩:V3)=⟨0,0,0⟩:=by
  have k:∀ {a:Pln},dot a.n v=a.b→rmZ a x=0→dot a.n ⟨x.px - v.x*x.pw,x.py - v.y*x.pw,x.pz - v.z*x.pw⟩=0:=fun {a} h1 h2=>by
   rw[rmZ,← h1] at h2
   simp only[dot] at h2 ⊢
   grind
  exact Ub3 hw (k t1 e1) (k t2 e2) (k t3 e3)
 simp only[V3.mk.injEq] at hd
 refine⟨v,hv,⟨?_,?_,?_⟩,?_⟩
 ·show x.px*1=v.x*x.pw;omega
 ·show x.py*1=v.y*x.pw;omega
 ·show x.pz*1=v.z*x.pw;omega
 -- the facets through it span the space
 have hf:∀ a:Pln,decide (dot a.n v=a.b)=true↔dot a.n v=a.b:=fun a=>by simp
 rcases ad9 ((c.filter fun a=>decide (dot a.n v=a.b)).map Pln.n) with⟨a,b,k,ha',hb',hk',hd⟩ | ⟨d,hd,h0⟩
 ·obtain⟨a,ha,rfl⟩:=List.mem_map.1 ha'
  obtain⟨b,hb,rfl⟩:=List.mem_map.1 hb'
  obtain⟨k,hk,rfl⟩:=List.mem_map.1 hk'
  rw[List.mem_filter,hf] at ha hb hk
  exact⟨a,b,k,ha.1,hb.1,hk.1,hd,ha.2,hb.2,hk.2⟩
 ·exfalso
  obtain⟨N,hN,hb⟩:=big d c
  have h0':∀ a∈c,dot a.n v=a.b→dot a.n d=0:=fun a ha h=>h0 a.n (List.mem_map.2 ⟨a,List.mem_filter.2 ⟨ha,by simpa using h⟩,rfl⟩)
  have iny:∀ e:V3,(∀ a∈c,dot a.n v=a.b→dot a.n e=0)→(∀ a∈c,dot a.n e≤N)→Inr c ⟨N*v.x+e.x,N*v.y+e.y,N*v.z+e.z,N⟩:=fun e he hle=>⟨hN,fun a ha=>by
   have ea:rmZ a ⟨N*v.x+e.x,N*v.y+e.y,N*v.z+e.z,N⟩=N*(a.b - dot a.n v) - dot a.n e:=by simp only[rmZ,dot];grind
   rw[ea]
   have h1:=hin a (List.mem_append_left _ ha) v hv
   by_cases ht:dot a.n v=a.b
   ·rw[he a ha ht,ht];simp
   ·have h2:N*1≤N*(a.b - dot a.n v):=Int.mul_le_mul_of_nonneg_left (by omega) (by omega)
    have:=hle a ha
    omega⟩
  have y1:=iny d h0' fun a ha=>(hb a ha).1
  have y2:=iny (neg d) (fun a ha h=>by rw[sc2,h0' a ha h];rfl) fun a ha=>by rw[sc2];exact (hb a ha).2
  have z:∀ a∈c++w,dot a.n v=a.b→dot a.n d=0:=fun a ha ht=>by
   have a1:=Cb2 h4 hc y1 (h:=a) (hin a ha)
   have a2:=Cb2 h4 hc y2 (h:=a) (hin a ha)
   have e1:rmZ a ⟨N*v.x+d.x,N*v.y+d.y,N*v.z+d.z,N⟩=N*(a.b - dot a.n v) - dot a.n d:=by simp only[rmZ,dot];grind
   have e2:rmZ a ⟨N*v.x+(neg d).x,N*v.y+(neg d).y,N*v.z+(neg d).z,N⟩=N*(a.b - dot a.n v)+dot a.n d:=by simp only[rmZ,dot,neg];grind
   rw[e1,ht] at a1
   rw[e2,ht] at a2
   simp only[Int.sub_self,Int.mul_zero] at a1 a2
   omega
  exact hd (Ub3 hw (z p hp t1) (z q hq t2) (z s hs t3))
end Go.Ev.Ce
namespace Go.Ev.Ce
open Go Go.Ev Go.Ev.L Go.Proofs
theorem Ad1 {l:List V3} (hf:nf0 l=true):Sol l:=(df1 hf).h
theorem ue2 {v:V3} (h:g3 v=0):v=⟨0,0,0⟩:=by
 unfold g3 at h
 have h:Nat.gcd (Nat.gcd v.x.natAbs v.y.natAbs) v.z.natAbs=0:=by omega
 rw[Nat.gcd_eq_zero_iff,Nat.gcd_eq_zero_iff] at h
 exact V3.ext' (by show v.x=0;omega) (by show v.y=0;omega) (by show v.z=0;omega)
theorem Za0 {a c k:V3} (ha:inV a=true) (hc:inV c=true) (hk:inV k=true) (h:N3 a c k≠⟨0,0,0⟩):(C8 a c k).2=true:=by
 unfold C8
 rw[ha,hc,hk]
 simp only[Bool.and_self,if_true]
 rw[if_neg (fun h0=>h (ue2 h0):¬ g3 (d8 (sub c a) (sub k a))=0)]
theorem Sc7 {a c k:V3} {p:Pln} (h:Thr a c k p):N3 a c k≠⟨0,0,0⟩:=fun e=>by
 obtain⟨ok,⟨g,hg,e1,e2,e3⟩,_⟩:=h
 have e':d8 (sub c a) (sub k a)=⟨0,0,0⟩:=e
 rw[e'] at e1 e2 e3
 have z:∀ {x:Int},g*x=0→x=0:=fun h=>(Int.mul_eq_zero.1 h).resolve_left (by omega)
 exact Sc5 ok (V3.ext' (z e1) (z e2) (z e3))
theorem bd0 {a c k:V3} {p:Pln} (h:Thr a c k p):dot p.n a=p.b∧dot p.n c=p.b∧dot p.n k=p.b:=by
 obtain⟨ok,⟨g,hg,e1,e2,e3⟩,o⟩:=h
 have z:∀ {x y:Int},g*(x - y)=0→x=y:=fun h=>by have:=(Int.mul_eq_zero.1 h).resolve_left (by omega);omega
 refine⟨o.symm,?_,?_⟩
 ·rw[o]
  apply z
  have:g*(dot p.n c - dot p.n a)=(g*p.n.x)*(c.x - a.x)+(g*p.n.y)*(c.y - a.y)+(g*p.n.z)*(c.z - a.z):=by simp only[dot];grind
  rw[this,e1,e2,e3];simp only[d8,sub];grind
 ·rw[o]
  apply z
  have:g*(dot p.n k - dot p.n a)=(g*p.n.x)*(k.x - a.x)+(g*p.n.y)*(k.y - a.y)+(g*p.n.z)*(k.z - a.z):=by simp only[dot];grind
  rw[this,e1,e2,e3];simp only[d8,sub];grind
theorem Cb3 (p:Pln) (v:V3):dot (da2 p).n v=(da2 p).b↔dot p.n v=p.b:=by
 rw[Dc1]
 show -dot p.n v=-p.b↔_
 omega
theorem Dc4 {a c k:V3} {p q:Pln} (h:Thr a c k q) (hp:okp p=true) (t1:dot p.n a=p.b) (t2:dot p.n c=p.b) (t3:dot p.n k=p.b):p=q∨p=da2 q:=by
 obtain⟨s1,s2,s3⟩:=bd0 h
 obtain⟨ok,⟨g,hg,e1,e2,e3⟩,o⟩:=h
 have d1:dot p.n (sub c a)=0:=by simp only[dot,sub] at *;grind
 have d2:dot p.n (sub k a)=0:=by simp only[dot,sub] at *;grind
 have hc:d8 q.n p.n=⟨0,0,0⟩:=by
  have z:∀ {x:Int},g*x=0→x=0:=fun h=>(Int.mul_eq_zero.1 h).resolve_left (by omega)
  generalize sub c a=u at *
  generalize sub k a=w at *
  refine V3.ext' (z ?_) (z ?_) (z ?_)
  ·have:g*(d8 q.n p.n).x=(g*q.n.y)*p.n.z - (g*q.n.z)*p.n.y:=by simp only[d8];grind
   rw[this,e2,e3]
   have:(d8 u w).y*p.n.z - (d8 u w).z*p.n.y=w.x*dot p.n u - u.x*dot p.n w:=by simp only[d8,dot];grind
   rw[this,d1,d2];simp
  ·have:g*(d8 q.n p.n).y=(g*q.n.z)*p.n.x - (g*q.n.x)*p.n.z:=by simp only[d8];grind
   rw[this,e1,e3]
   have:(d8 u w).z*p.n.x - (d8 u w).x*p.n.z=w.y*dot p.n u - u.y*dot p.n w:=by simp only[d8,dot];grind
   rw[this,d1,d2];simp
  ·have:g*(d8 q.n p.n).z=(g*q.n.x)*p.n.y - (g*q.n.y)*p.n.x:=by simp only[d8];grind
   rw[this,e1,e2]
   have:(d8 u w).x*p.n.y - (d8 u w).y*p.n.x=w.z*dot p.n u - u.z*dot p.n w:=by simp only[d8,dot];grind
   rw[this,d1,d2];simp
 obtain⟨pn,pb⟩:=p
 obtain⟨qn,qb⟩:=q
 rcases de8 (zd9 ok) (zd9 hp) hc with e | e
 ·left
  simp only at e o t1 s1 t2 t3
  subst e
  rw[← t1,s1]
 ·right
  simp only at e o t1 s1 t2 t3
  subst e
  rw[← t1]
  simp only[dot,neg,da2] at s1 ⊢
  simp only[Pln.mk.injEq,true_and]
  grind
structure oc4 (l:List V3) (p:Pln):Prop extends Fac l p.n p.b where
 ok:okp p=true
theorem Dc5 {l:List V3} {p:Pln} {u w x:V3} (hu:u∈l) (hw:w∈l) (hx:x∈l) (h:Thr u w x p) (hh:∀ v∈l,dot (da2 p).n v≤(da2 p).b):oc4 l (da2 p):=by
 obtain⟨s1,s2,s3⟩:=bd0 h
 exact⟨⟨hh,u,w,x,hu,hw,hx,Sc7 h,(Cb3 p u).2 s1,(Cb3 p w).2 s2,(Cb3 p x).2 s3⟩,Tb9 h.ok⟩
theorem bd1 {l:List V3} {p:Pln} {u w x:V3} (hu:u∈l) (hw:w∈l) (hx:x∈l) (h:Thr u w x p) (hh:∀ v∈l,dot p.n v≤p.b):oc4 l p:=by
 obtain⟨s1,s2,s3⟩:=bd0 h
 exact⟨⟨hh,u,w,x,hu,hw,hx,Sc7 h,s1,s2,s3⟩,h.ok⟩
theorem ee0 {u w x:V3} (h:N3 u w x≠⟨0,0,0⟩):N3 w u x≠⟨0,0,0⟩∧N3 u x w≠⟨0,0,0⟩∧N3 x w u≠⟨0,0,0⟩∧N3 w x u≠⟨0,0,0⟩∧N3 x u w≠⟨0,0,0⟩:=by
 have e1:N3 w u x=neg (N3 u w x):=V3.ext' (by simp only[N3,d8,A3,neg];grind) (by simp only[N3,d8,A3,neg];grind) (by simp only[N3,d8,A3,neg];grind)
 have e2:N3 u x w=neg (N3 u w x):=V3.ext' (by simp only[N3,d8,A3,neg];grind) (by simp only[N3,d8,A3,neg];grind) (by simp only[N3,d8,A3,neg];grind)
 have e3:N3 x w u=neg (N3 u w x):=V3.ext' (by simp only[N3,d8,A3,neg];grind) (by simp only[N3,d8,A3,neg];grind) (by simp only[N3,d8,A3,neg];grind)
 have e4:N3 w x u=N3 u w x:=V3.ext' (by simp only[N3,d8,A3];grind) (by simp only[N3,d8,A3];grind) (by simp only[N3,d8,A3];grind)
 have e5:N3 x u w=N3 u w x:=V3.ext' (by simp only[N3,d8,A3];grind) (by simp only[N3,d8,A3];grind) (by simp only[N3,d8,A3];grind)
 rw[e1,e2,e3,e4,e5]
 exact⟨ad7 h,ad7 h,ad7 h,h,h⟩
theorem Te5 {u w x:V3} (h:N3 u w x≠⟨0,0,0⟩):u≠w∧u≠x∧w≠x:=by
 refine⟨fun e=>h ?_,fun e=>h ?_,fun e=>h ?_⟩<;>subst e<;>refine V3.ext' ?_ ?_ ?_<;>simp only[N3,d8,A3]<;>grind
theorem ue3 {l : List V3} {u w x : V3} (hu : u ∈ l) (hw : w ∈ l) (hx : x ∈ l) (h : N3 u w x ≠ ⟨0, 0, 0⟩) :
  ∃ a,a < l.length∧∃ c,c < a∧∃ k,k < c∧N3 (gL tV l a) (gL tV l c) (gL tV l k)≠⟨0,0,0⟩∧∀ f:V3→Prop,f u→f w→f x→f (gL tV l a)∧f (gL tV l c)∧f (gL tV l k):=by
 obtain⟨i,hi,rfl⟩:=List.mem_iff_getElem.1 hu
 obtain⟨j,hj,rfl⟩:=List.mem_iff_getElem.1 hw
 obtain⟨k,hk,rfl⟩:=List.mem_iff_getElem.1 hx
 obtain⟨n1,n2,n3⟩:=Te5 h
 obtain⟨s1,s2,s3,s4,s5⟩:=ee0 h
 have d1:i≠j:=fun e=>n1 (by subst e;rfl)
 have d2:i≠k:=fun e=>n2 (by subst e;rfl)
 have d3:j≠k:=fun e=>n3 (by subst e;rfl)
 rw[← wb8 tV hi,← wb8 tV hj,← wb8 tV hk] at *
 rcases Nat.lt_or_gt_of_ne d1 with h1 | h1<;>rcases Nat.lt_or_gt_of_ne d2 with h2 | h2<;>rcases Nat.lt_or_gt_of_ne d3 with h3 | h3
 ·exact⟨k,hk,j,h3,i,h1,s3,fun f a b c=>⟨c,b,a⟩⟩
 ·exact⟨j,hj,k,h3,i,h2,s4,fun f a b c=>⟨b,c,a⟩⟩
 ·omega
 ·exact⟨j,hj,i,h1,k,h2,s1,fun f a b c=>⟨b,a,c⟩⟩
 ·exact⟨k,hk,i,h2,j,h1,s5,fun f a b c=>⟨c,a,b⟩⟩
 ·omega
 ·exact⟨i,hi,k,h2,j,h3,s2,fun f a b c=>⟨a,c,b⟩⟩
 ·exact⟨i,hi,j,h1,k,h3,h,fun f a b c=>⟨a,b,c⟩⟩
theorem xa7 {l:List V3} (hl:l.all inV=true) (p:Pln):p∈F0 l↔oc4 l p:=by
 have hin:=List.all_eq_true.1 hl
 constructor
 ·intro hp
  obtain⟨a,ha,c,hc,k,hk,h1,h2⟩:=(Ad0 l p).1 hp
  have ma:=gLm ha
  have mc:=gLm (show c < l.length by omega)
  have mk:=gLm (show k < l.length by omega)
  have ht:=(pa1 h1).2
  rcases h2 with⟨rfl,h3⟩ | ⟨rfl,h3⟩
  ·exact bd1 ma mc mk ht ((jb6 ht.ok hl).1 h3)
  ·exact Dc5 ma mc mk ht ((jb6 (Tb9 ht.ok) hl).1 h3)
 ·intro h
  obtain⟨u,w,x,hu,hw,hx,h3,t1,t2,t3⟩:=h.on
  obtain⟨a,ha,c,hc,k,hk,hn,hall⟩:=ue3 hu hw hx h3
  obtain⟨i1,i2,i3⟩:=hall (fun v=>inV v=true) (hin u hu) (hin w hw) (hin x hx)
  obtain⟨e1,e2,e3⟩:=hall (fun v=>dot p.n v=p.b) t1 t2 t3
  have h2:=Za0 i1 i2 i3 hn
  refine (Ad0 l p).2 ⟨a,ha,c,hc,k,hk,h2,?_⟩
  have hh:=(jb6 h.ok hl).2 h.hd
  rcases Dc4 (pa1 h2).2 h.ok e1 e2 e3 with e | e
  ·exact .inl ⟨e,hh⟩
  ·exact .inr ⟨e,hh⟩
theorem Hd1 {n:V3} (h:n≠⟨0,0,0⟩):0 < dot n n:=by
 have sq:∀ a:Int,0≤a*a:=fun a=>by
  by_cases h:0≤a
  ·exact Int.mul_nonneg h h
  ·have:=Int.mul_nonneg (show 0≤-a by omega) (show 0≤-a by omega)
   rw[Int.neg_mul_neg] at this
   exact this
 have z:∀ {a:Int},a*a=0→a=0:=fun h=>(Int.mul_eq_zero.1 h).elim id id
 have s1:=sq n.x;have s2:=sq n.y;have s3:=sq n.z
 by_cases h0:0 < dot n n
 ·exact h0
 ·exfalso
  simp only[dot] at h0
  exact h (V3.ext' (z (by omega)) (z (by omega)) (z (by omega)))
theorem Hd2 {l:List V3} (hl:l.all inV=true) {c:List Pln} (hc:∀ p,oc4 l p→p∈c):Je3 l c:=fun n b hn hf=>by
 have hin:=List.all_eq_true.1 hl
 obtain⟨u,w,x,hu,hw,hx,h3,t1,t2,t3⟩:=hf.on
 have h2:=Za0 (hin u hu) (hin w hw) (hin x hx) h3
 have ht:=(pa1 h2).2
 generalize (C8 u w x).1=q at ht
 obtain⟨s1,s2,s3⟩:=bd0 ht
 have hnn:=Hd1 hn
 have d1:dot n (A3 w u)=0:=by simp only[dot,A3] at *;grind
 have d2:dot n (A3 x u)=0:=by simp only[dot,A3] at *;grind
 -- the normals are parallel
 have par:dot n n*q.n.x=dot q.n n*n.x∧dot n n*q.n.y=dot q.n n*n.y∧dot n n*q.n.z=dot q.n n*n.z:=by
  obtain⟨ok,⟨g,hg,e1,e2,e3⟩,o⟩:=ht
  have z:∀ {x y:Int},g*(x - y)=0→x=y:=fun h=>by have:=(Int.mul_eq_zero.1 h).resolve_left (by omega);omega
  have eg:g*dot q.n n=(d8 (A3 w u) (A3 x u)).x*n.x+(d8 (A3 w u) (A3 x u)).y*n.y+(d8 (A3 w u) (A3 x u)).z*n.z:=by
   have:g*dot q.n n=(g*q.n.x)*n.x+(g*q.n.y)*n.y+(g*q.n.z)*n.z:=by simp only[dot];grind
   rw[this,e1,e2,e3];rfl
  have e1:g*q.n.x=(d8 (A3 w u) (A3 x u)).x:=e1
  have e2:g*q.n.y=(d8 (A3 w u) (A3 x u)).y:=e2
  have e3:g*q.n.z=(d8 (A3 w u) (A3 x u)).z:=e3
  generalize A3 w u=p at *
  generalize A3 x u=r at *
  refine⟨z ?_,z ?_,z ?_⟩
  ·have:g*(dot n n*q.n.x - dot q.n n*n.x)=dot n n*(g*q.n.x) - (g*dot q.n n)*n.x:=by grind
   rw[this,e1,eg]
   have:dot n n*(d8 p r).x - ((d8 p r).x*n.x+(d8 p r).y*n.y+(d8 p r).z*n.z)*n.x=(n.y*r.z - n.z*r.y)*dot n p - (n.y*p.z - n.z*p.y)*dot n r:=by simp only[dot,d8];grind
   rw[this,d1,d2];simp
  ·have:g*(dot n n*q.n.y - dot q.n n*n.y)=dot n n*(g*q.n.y) - (g*dot q.n n)*n.y:=by grind
   rw[this,e2,eg]
   have:dot n n*(d8 p r).y - ((d8 p r).x*n.x+(d8 p r).y*n.y+(d8 p r).z*n.z)*n.y=(n.z*r.x - n.x*r.z)*dot n p - (n.z*p.x - n.x*p.z)*dot n r:=by simp only[dot,d8];grind
   rw[this,d1,d2];simp
  ·have:g*(dot n n*q.n.z - dot q.n n*n.z)=dot n n*(g*q.n.z) - (g*dot q.n n)*n.z:=by grind
   rw[this,e3,eg]
   have:dot n n*(d8 p r).z - ((d8 p r).x*n.x+(d8 p r).y*n.y+(d8 p r).z*n.z)*n.z=(n.x*r.y - n.y*r.x)*dot n p - (n.x*p.y - n.y*p.x)*dot n r:=by simp only[dot,d8];grind
   rw[this,d1,d2];simp
 have fin:∀ r:Pln,Thr u w x q→(r=q∨r=da2 q)→0 < dot r.n n→(dot n n*r.n.x=dot r.n n*n.x∧dot n n*r.n.y=dot r.n n*n.y∧dot n n*r.n.z=dot r.n n*n.z)→∃ s t:Int,0 < s∧0 < t∧∃ q∈c,t*q.n.x=s*n.x∧t*q.n.y=s*n.y∧t*q.n.z=s*n.z∧t*q.b=s*b:=fun r ht hr hp ⟨p1,p2,p3⟩=>by
  have hru:dot r.n u=r.b:=by
   rcases hr with rfl | rfl
   ·exact s1
   ·exact (Cb3 q u).2 s1
  have ed:∀ v,dot n n*dot r.n v=dot r.n n*dot n v:=fun v=>by
   have:dot n n*dot r.n v=(dot n n*r.n.x)*v.x+(dot n n*r.n.y)*v.y+(dot n n*r.n.z)*v.z:=by
    generalize dot n n=t
    simp only[dot];grind
   rw[this,p1,p2,p3]
   generalize dot r.n n=s
   simp only[dot];grind
  have eb:dot n n*r.b=dot r.n n*b:=by rw[← hru,ed,t1]
  have hd:∀ v∈l,dot r.n v≤r.b:=fun v hv=>by
   have h1:=Int.mul_le_mul_of_nonneg_left (hf.hd v hv) (Int.le_of_lt hp)
   rw[← ed,← eb] at h1
   exact Int.le_of_mul_le_mul_left h1 hnn
  have hF:oc4 l r:=by
   rcases hr with rfl | rfl
   ·exact bd1 hu hw hx ht hd
   ·exact Dc5 hu hw hx ht hd
  exact⟨dot r.n n,dot n n,hp,hnn,r,hc r hF,p1,p2,p3,eb⟩
 by_cases h0:0 < dot q.n n
 ·exact fin q ht (.inl rfl) h0 par
 ·refine fin (da2 q) ht (.inr rfl) ?_ ?_
  ·rw[Dc1]
   have:dot q.n n≠0:=fun e=>by
    obtain⟨p1,p2,p3⟩:=par
    rw[e] at p1 p2 p3
    simp only[Int.zero_mul] at p1 p2 p3
    have z:∀ {x:Int},dot n n*x=0→x=0:=fun h=>(Int.mul_eq_zero.1 h).resolve_left (by omega)
    exact Sc5 ht.ok (V3.ext' (z p1) (z p2) (z p3))
   omega
  ·rw[Dc1]
   obtain⟨p1,p2,p3⟩:=par
   show dot n n*-q.n.x=_∧dot n n*-q.n.y=_∧dot n n*-q.n.z=_
   rw[Int.mul_neg,Int.mul_neg,Int.mul_neg,p1,p2,p3,Int.neg_mul,Int.neg_mul,Int.neg_mul]
   exact⟨rfl,rfl,rfl⟩
end Go.Ev.Ce
namespace Go.Ev.Ce
open Go Go.Ev Go.Ev.L Go.Proofs Go.Sort
def eqV (x y:V3):Bool:=x.x==y.x&&(x.y==y.y&&(x.z==y.z&&true))
theorem Ub4 (x y:V3):eqV x y=true↔x=y:=by
 unfold eqV
 simp only[Bool.and_true,Bool.and_eq_true,beq_iff_eq]
 refine⟨fun⟨h1,h2,h3⟩=>V3.ext' h1 h2 h3,fun h=>by subst h;exact⟨rfl,rfl,rfl⟩⟩
theorem Dc6 {l:List V3} {j:Nat} (h:j < l.length):ldR tV (bL tV l) (0+j)=true:=by rw[Nat.zero_add];exact xd0 tV h
theorem ec0 {l:List V3} {j:Nat} (h:j < l.length):rdR tV (bL tV l) (0+j)=gL tV l j:=by rw[Nat.zero_add];exact wd9 tV h
theorem pd0 (l:List V3) (n:Nat):H6 (bL tV l) n=bL tV (l.take n):=by unfold bL;rw[I4,o1,o1,List.map_take]
theorem Dc7 (l:List V3) (n:Nat):g8 (bL tV l) n=bL tV (l.drop n):=by unfold bL;rw[F5,o1,o1,List.map_drop]
theorem pd1 (n:Nat):List.replicate n [i 0,i 0,i 0]=bL tV (List.replicate n ⟨0,0,0⟩):=by unfold bL;rw[o1,List.map_replicate];rfl
def dvF:V3→List V3→List V3
 | _,[]=>[]
 | a,x::l=>if eqV x a then dvF x l else x::dvF x l
def ddV:List V3→List V3
 | []=>[]
 | x::l=>x::dvF x l
structure ee1 (l:List V3) (n:Nat) (cur:List V3) (m j:Nat) (R:List V3):Prop where
 len:cur.length=l.length
 t:cur.take m++dvF (gL tV l (j - 1)) ((l.take n).drop j)=R
 d:cur.drop (j - 1)=l.drop (j - 1)
 le:m+1≤j
theorem Mc3 (l : List V3) (n o : Nat) (hn : n ≤ l.length) (hl : l.length ≤ 1000000000) (ho : o < n) (m : Nat) (cur : List V3) (R : List V3) (hd : ee1 l n cur m (o + 1) R) :
  ∃ t s,lp (q8 ⟨n,0+o,n - o⟩) ⟨(m:Int),((1:Nat):Int),bL tV cur⟩=(t,s)∧(t=1∧∃ m' cur' k,s=⟨((m':Nat):Int),k,bL tV cur'⟩∧cur'.length=l.length∧cur'.take m'=R∧m'≤n):=by
 refine T1 (step:=q8 ⟨n,0+o,n - o⟩) (mk:=fun j (x:Nat×List V3)=>(⟨(x.1:Int),(j:Int),bL tV x.2⟩:p6)) (n - o) (fun j x=>ee1 l n x.2 x.1 (o+j) R∧1≤j∧x.1≤n) (fun t s=>t=1∧∃ m' cur' k,s=⟨((m':Nat):Int),k,bL tV cur'⟩∧cur'.length=l.length∧cur'.take m'=R∧m'≤n) (by omega) (fun j x hj hx=>?_) (fun j x hj hx=>?_) 1 (m,cur) ⟨hd,Nat.le_refl _,by have:=hd.le;show m≤n;omega⟩
 ·obtain⟨m,cur⟩:=x
  obtain⟨⟨h1,h2,h3,h4⟩,hj1,hmn⟩:=hx
  simp only at h1 h2 h3 h4 hmn
  have hoj:o+j < n:=by omega
  have hjc:o+j < cur.length:=by omega
  have hjc':o+(j - 1) < cur.length:=by omega
  have hmc:m < cur.length:=by omega
  have hg':gL tV cur (o+(j - 1))=gL tV l (o+j - 1):=by rw[show o+(j - 1)=o+j - 1 by omega];exact dc6 tV h3
  have hd1:cur.drop (o+j)=l.drop (o+j):=by have:=Tb3 h3 1;rw[show o+j - 1+1=o+j by omega] at this;exact this
  have hg:gL tV cur (o+j)=gL tV l (o+j):=dc6 tV hd1
  have hWm:W ((m:Int)+1)=((m+1:Nat):Int):=by rw[U3 (by omega) (by omega)];omega
  have hWj:W ((j:Int) - 1)=((j - 1:Nat):Int):=by rw[U3 (by omega) (by omega)];omega
  have hb:Nat.blt m cur.length=true:=by rw[Nat.blt_eq];exact hmc
  have hrow:i7 (bL tV cur) m=tV.row (gL tV cur m):=R2 tV hmc
  have sp:∀ (v:V3) (x1 x2 x3:Int),P7 (tV.row v) 0 [i x1,i x2,i x3]=tV.row ⟨x1,x2,x3⟩:=fun _ _ _ _=>rfl
  have rl:∀ v:V3,Nat.ble 3 (len (tV.row v))=true:=fun _=>rfl
  simp only[q8,K6,Int.toNat_natCast,Nat.zero_add,hWj,xd0 tV hjc,xd0 tV hjc',wd9 tV hjc,wd9 tV hjc',y7 hj (show n - o≤4611686018427387904 by omega),hWm,hg,hg',hrow,Ba3,hb,sp,rl,Ka6,i5 (show m < n by omega)]
  rw[btD (l5 hj)]
  simp only[i5 hj,i5 (show j - 1 < n - o by omega),y9,Bool.and_self]
  rw[show ((gL tV l (o+j)).x==(gL tV l (o+j - 1)).x&&((gL tV l (o+j)).y==(gL tV l (o+j - 1)).y&&((gL tV l (o+j)).z==(gL tV l (o+j - 1)).z&&true)))=eqV (gL tV l (o+j)) (gL tV l (o+j - 1)) from rfl]
  have hcons:(l.take n).drop (o+j)=gL tV l (o+j)::(l.take n).drop (o+(j+1)):=by
   rw[List.drop_eq_getElem_cons (by rw[List.length_take];omega),List.getElem_take,wb8 tV (by omega)]
   rfl
  rw[hcons] at h2
  have hlast:o+(j+1) - 1=o+j:=by omega
  unfold dvF at h2
  cases he:eqV (gL tV l (o+j)) (gL tV l (o+j - 1)) with
  | true =>
   rw[he] at h2
   simp only[if_true] at h2
   refine .nx ⟨(m,cur),rfl,⟨⟨h1,?_,?_,by show m+1≤o+(j+1);omega⟩,by omega,hmn⟩⟩
   ·rw[hlast];exact h2
   ·rw[hlast];exact hd1
  | false =>
   rw[he] at h2
   simp only[Bool.false_eq_true,if_false] at h2
   refine .nx ⟨(m+1,cur.set m (gL tV l (o+j))),rfl,⟨⟨by rw[List.length_set];exact h1,?_,?_,by show m+1+1≤o+(j+1);omega⟩,by omega,by show m+1≤n;omega⟩⟩
   ·rw[hlast]
    show (cur.set m (gL tV l (o+j))).take (m+1)++_=R
    rw[List.take_succ_eq_append_getElem (by rw[List.length_set];exact hmc),List.getElem_set_self,List.take_set_of_le (Nat.le_refl _),List.append_assoc]
    exact h2
   ·rw[hlast]
    show (cur.set m (gL tV l (o+j))).drop (o+j)=_
    rw[List.drop_set_of_lt (by omega),hd1]
 ·obtain⟨m,cur⟩:=x
  obtain⟨⟨h1,h2,h3,h4⟩,hj1,hmn⟩:=hx
  simp only at h1 h2 h3 h4 hmn
  refine⟨1,?_,rfl,m,cur,_,rfl,h1,?_,hmn⟩
  ·simp only[q8,K6]
   rw[bfD (by omega)]
  ·rw[List.drop_eq_nil_of_le (by rw[List.length_take];omega)] at h2
   unfold dvF at h2
   rw[List.append_nil] at h2
   exact h2
theorem pd2 (l : List V3) (n : Nat) (hn : n ≤ l.length) (hl : l.length ≤ 1000000000) :
  ∃ m r,M1 ⟨n,bL tV l⟩=⟨1,m,bL tV r⟩∧m≤r.length∧r.take m=ddV (l.take n)∧r.length=l.length:=by
 unfold M1 M0
 simp only
 by_cases h2:(n:Int) < 2
 ·rw[btD h2]
  refine⟨n,l,rfl,hn,?_,rfl⟩
  have:n=0∨n=1:=by omega
  rcases this with rfl | rfl
  ·rfl
  ·cases l with
   | nil=>rfl
   | cons x l=>rfl
 ·rw[bfD h2]
  have h1n:1≤n:=by omega
  have hI : ∀ j, j < n → 1 ≤ j → l.take j ++ dvF (gL tV l (j - 1)) ((l.take n).drop j) = ddV (l.take n) →
    (eqV (gL tV l j) (gL tV l (j - 1))=true→ee1 l n l j (j+1) (ddV (l.take n)))∧(eqV (gL tV l j) (gL tV l (j - 1))=false→l.take (j+1)++dvF (gL tV l (j+1 - 1)) ((l.take n).drop (j+1))=ddV (l.take n)):=by
   intro j hj hj1 hR
   have hcons:(l.take n).drop j=gL tV l j::(l.take n).drop (j+1):=by
    rw[List.drop_eq_getElem_cons (by rw[List.length_take];omega),List.getElem_take,wb8 tV (by omega)]
   rw[hcons] at hR
   unfold dvF at hR
   constructor
   ·intro he
    rw[he] at hR
    simp only[if_true] at hR
    exact⟨rfl,hR,rfl,Nat.le_refl _⟩
   ·intro he
    rw[he] at hR
    simp only[Bool.false_eq_true,if_false] at hR
    rw[Ea3 tV (show j < l.length by omega),List.append_assoc]
    exact hR
  have inner:∀ k,k < n→1≤k→ee1 l n l k (k+1) (ddV (l.take n))→∃ m' cur' k',lp (q8 ⟨n,0+k,n - k⟩) ⟨(k:Int),1,bL tV l⟩=(1,⟨((m':Nat):Int),k',bL tV cur'⟩)∧cur'.length=l.length∧cur'.take m'=ddV (l.take n)∧m'≤n:=by
   intro k hk hk1 hc
   obtain⟨t,s,e1,rfl,m',cur',k',rfl,e2,e3,e4⟩:=Mc3 l n k hn hl hk k l _ hc
   exact⟨m',cur',k',e1,e2,e3,e4⟩
  have key:=T1 (step:=L9 ⟨n,bL tV l⟩) (mk:=fun j (_:Unit)=>(⟨(j:Int)⟩:r9)) n (fun j _=>1≤j∧j≤n∧l.take j++dvF (gL tV l (j - 1)) ((l.take n).drop j)=ddV (l.take n))
   (fun t s=>(t=1∧∃ k:Nat,s=⟨(k:Int)⟩∧k < n∧1≤k∧ee1 l n l k (k+1) (ddV (l.take n)))∨(t=2∧l.take n=ddV (l.take n))) (by omega) (fun j x hj hx=>?_) (fun j x hj hx=>?_) 1 () ⟨Nat.le_refl _,h1n,by
    cases l with
    | nil=>simp only[List.length_nil] at hn;omega
    | cons x l =>
     cases n with
     | zero=>omega
     | succ n=>rfl⟩
  ·obtain⟨t,s,e1,e2⟩:=key
   rw[show (⟨1⟩:r9)=⟨((1:Nat):Int)⟩ from rfl,e1]
   rcases e2 with⟨rfl,k,rfl,hk,hk1,hc⟩ | ⟨rfl,he⟩
   ·obtain⟨m',cur',k',e2,e3,e4,e5⟩:=inner k hk hk1 hc
    simp only[Int.toNat_natCast,e2]
    simp only[Nat.zero_add,Nat.sub_zero]
    refine⟨m',cur'.take m'++(List.replicate (n - m') ⟨0,0,0⟩++cur'.drop (m'+(n - m'))),?_,?_,?_,?_⟩
    ·rw[pd0,pd1,Dc7,Ua1,Ua1]
     rfl
    ·rw[List.length_append,List.length_take,e3];omega
    ·rw[List.take_append_of_le_length (by rw[List.length_take,e3];omega),List.take_take,Nat.min_self,e4]
    ·rw[List.length_append,List.length_append,List.length_take,List.length_replicate,List.length_drop,e3];omega
   ·exact⟨n,l,rfl,hn,he,rfl⟩
  ·obtain⟨hj1,hjn,hR⟩:=hx
   obtain⟨i1,i2⟩:=hI j hj hj1 hR
   have hWj:W ((j:Int) - 1)=((j - 1:Nat):Int):=by rw[U3 (by omega) (by omega)];omega
   have hjl:j < l.length:=by omega
   have hjl':j - 1 < l.length:=by omega
   simp only[L9,K7,Int.toNat_natCast,hWj,Dc6 hjl,Dc6 hjl',ec0 hjl,ec0 hjl',y7 hj (show n≤4611686018427387904 by omega)]
   rw[btD (l5 hj),bt (i5 hj),bt (i5 (show j - 1 < n by omega)),bt (i5 (show j < n+1 by omega))]
   simp only[y9]
   rw[show ((gL tV l j).x==(gL tV l (j - 1)).x&&((gL tV l j).y==(gL tV l (j - 1)).y&&((gL tV l j).z==(gL tV l (j - 1)).z&&true)))=eqV (gL tV l j) (gL tV l (j - 1)) from rfl]
   cases he:eqV (gL tV l j) (gL tV l (j - 1)) with
   | false=>exact .nx ⟨(),rfl,by omega,by omega,i2 he⟩
   | true =>
    obtain⟨m',cur',k',e2,e3,e4,e5⟩:=inner j hj hj1 (i1 he)
    rw[e2]
    simp only[i5 (show m' < n+1 by omega)]
    exact .ex (.inl ⟨rfl,j,rfl,hj,hj1,i1 he⟩)
  ·obtain⟨hj1,hjn,hR⟩:=hx
   refine⟨2,?_,.inr ⟨rfl,?_⟩⟩
   ·simp only[L9,K7]
    rw[bfD (by omega)]
   ·have:j=n:=by omega
    subst this
    rw[List.drop_eq_nil_of_le (by rw[List.length_take];omega)] at hR
    unfold dvF at hR
    rw[List.append_nil] at hR
    exact hR
def ee2 (l:List V3):Prop:=l.Pairwise LtV
theorem ec1 {x y z:V3} (h1:LtV x y) (h2:LtV y z):LtV x z:=by unfold LtV at *;omega
theorem Ub5 (x:V3):¬ LtV x x:=by unfold LtV;omega
theorem ue4 (x y:V3):LtV x y∨x=y∨LtV y x:=by
 by_cases h1:LtV x y
 ·exact .inl h1
 ·by_cases h2:LtV y x
  ·exact .inr (.inr h2)
  ·refine .inr (.inl ?_)
   unfold LtV at h1 h2
   exact V3.ext' (by omega) (by omega) (by omega)
theorem Ad2 (l:List V3):List.Perm (qb5 l) l:=List.mergeSort_perm l _
theorem Pd0 (x y z:V3) (h1:(!ltOf fb0 y x)=true) (h2:(!ltOf fb0 z y)=true):(!ltOf fb0 z x)=true:=by
 rw[za9] at *
 simp only[Bool.not_eq_true',decide_eq_false_iff_not] at *
 unfold LtV at *
 omega
theorem Pd1 (x y:V3):((!ltOf fb0 y x)||(!ltOf fb0 x y))=true:=by
 rw[za9,za9]
 by_cases h:LtV y x
 ·have h2:¬ LtV x y:=fun h2=>Ub5 x (ec1 h2 h)
  simp[h2]
 ·simp[h]
theorem bd2 (l:List V3):(qb5 l).Pairwise fun x y=>(!ltOf fb0 y x)=true:=List.pairwise_mergeSort Pd0 Pd1 l
theorem Hd3 (p:V3):∀ (a:V3) (l:List V3),p∈a::dvF a l↔p∈a::l
 | a,[]=>by simp[dvF]
 | a,x::l=>by
  have ih:=Hd3 p x l
  unfold dvF
  split
  ·rename_i h
   rw[Ub4] at h
   subst h
   rw[ih]
   simp
  ·simp only[List.mem_cons] at ih ⊢
   rw[ih]
theorem Je4 (p:V3):∀ l:List V3,p∈ddV l↔p∈l
 | []=>Iff.rfl
 | x::l=>Hd3 p x l
theorem Hd4:∀ (a:V3) (l:List V3),(a::l).Pairwise (fun x y=>(!ltOf fb0 y x)=true)→ee2 (a::dvF a l)
 | a,[],_=>List.pairwise_singleton _ _
 | a,x::l,h=>by
  obtain⟨h1,h2⟩:=List.pairwise_cons.1 h
  have ih:=Hd4 x l h2
  have hle:=h1 x List.mem_cons_self
  rw[za9] at hle
  have hle:¬ LtV x a:=by simpa using hle
  unfold dvF
  split
  ·rename_i he
   rw[Ub4] at he
   subst he
   exact ih
  ·rename_i hne
   have hlt:LtV a x:=by
    rcases ue4 a x with h | h | h
    ·exact h
    ·exact absurd ((Ub4 _ _).2 h.symm) hne
    ·exact absurd h hle
   refine List.pairwise_cons.2 ⟨fun p hp=>?_,ih⟩
   rcases List.mem_cons.1 hp with e | hp'
   ·subst e;exact hlt
   ·exact ec1 hlt ((List.pairwise_cons.1 ih).1 p hp')
theorem ec2 (l:List V3):ee2 (ddV (qb5 l)):=by
 have h:=bd2 l
 cases hs:qb5 l with
 | nil=>exact .nil
 | cons a l'=>rw[hs] at h;exact Hd4 a l' h
noncomputable def dis (l:List V3):List V3:=ddV (qb5 l)
theorem Cb4 (l:List V3) (v:V3):v∈dis l↔v∈l:=by unfold dis;rw[Je4,(Ad2 l).mem_iff]
theorem Pd2 (l:List V3):(dis l).Nodup:=List.Pairwise.imp (fun {x y} (h:LtV x y) (e:x=y)=>Ub5 y (e ▸ h)) (ec2 l)
theorem sc3 (l:List V3):(dis l).length≤l.length:=by
 have:=List.Nodup.length_le_of_subset (Pd2 l) (fun v hv=>(Cb4 l v).1 hv)
 exact this
theorem Sc8 (l:List V3) (n:Nat) (hn:n≤l.length):slR tV (bL tV l) 0 n=l.take n:=Xb3 tV (by rw[List.length_take];omega) fun k hk=>by
 rw[Nat.zero_add,R2 tV (by omega)]
 congr 1
 simp[gL,List.getD_eq_getElem?_getD,List.getElem?_take,hk]
theorem ec3 (l:List V3) (n:Nat) (hn:n≤l.length):okS tV (bL tV l) 0 n=true:=Ta9 tV (f:=fun k=>gL tV l k) fun k hk=>by rw[Nat.zero_add,R2 tV (by omega)]
theorem Sc9 (a:V3) (l:List V3) (hl:l.length≤1000000):ca1 (a,l)=⟨1,(a::l).length,bL tV (a::l)⟩:=by
 have ec:r7 (fun k=>tV.row (gL tV (a::l) k)) (List.range (l.length+1))=bL tV (a::l):=Vd6 tV (a::l)
 unfold ca1 R6
 simp only[ec,Ba3]
 have z:Nat.beq (a::l).length 0=false:=rfl
 have r:Nat.ble ((0+(a::l).length)*24) room=true:=by rw[Nat.ble_eq];unfold room;simp only[List.length_cons];omega
 rw[z,r,Nat.zero_add]
 rfl
theorem Ub6 (a:V3) (l:List V3) (hl:l.length≤1000000):∃ m r,M1 ⟨(a::l).length,app (bL tV (qb5 (slR tV (bL tV (a::l)) 0 (a::l).length))) (g8 (bL tV (a::l)) (a::l).length)⟩=⟨1,m,bL tV r⟩∧m≤r.length∧r.take m=dis (a::l)∧r.length=l.length+1:=by
 have hs:(qb5 (a::l)).length=(a::l).length:=Rc8 _
 rw[db6,Dc7,Ua1]
 obtain⟨m,r,k1,k2,k3,k4⟩:=pd2 (qb5 (a::l)++(a::l).drop (a::l).length) (a::l).length (by rw[List.length_append,hs];omega) (by rw[List.length_append,hs,List.length_drop];simp only[List.length_cons];omega)
 refine⟨m,r,k1,k2,?_,by rw[k4,List.length_append,hs,List.length_drop];simp only[List.length_cons];omega⟩
 rw[k3,List.take_append_of_le_length (by rw[hs];omega),List.take_of_length_le (by rw[hs];omega)]
 rfl
theorem pd3 (l:List V3) (hl:l.length≤2000000) (r:List V3):(Bool.and (Nat.ble l.length room) (Bool.and (Nat.ble l.length (len (bL tV (l++r)))) (okS tV (bL tV (l++r)) 0 l.length)))=true:=by
 rw[ec3 _ _ (by rw[List.length_append];omega),Ba3,Bool.and_eq_true,Bool.and_eq_true,Nat.ble_eq,Nat.ble_eq]
 refine⟨by unfold room;omega,by rw[List.length_append];omega,rfl⟩
theorem ic2 (a:V3) (l:List V3) (hl:l.length≤1000000):Rd (one (r1L tV)) (la7 (a,l)) (fun r=>r=dis (a::l)):=by
 obtain⟨m,r,k1,k2,k3,_⟩:=Ub6 a l hl
 have hok:okL tV (l.length+1) (fun k=>tV.row (gL tV (a::l) k))=true:=Ta9 tV (f:=fun k=>gL tV (a::l) k) fun _ _=>rfl
 have hr:=pd3 (a::l) (by simp only[List.length_cons];omega) []
 rw[List.append_nil] at hr
 unfold la7
 simp only[Ed0,Ed1,Sc9 a l hl,hok,k1,y9,Nat.beq_refl,hr]
 refine⟨_,r.take m,rfl,?_,k3⟩
 show Bool.rec (motive:=fun _=>Option (List V3)) none (some (slR tV (bL tV r) 0 m)) (Bool.and true (okS tV (bL tV r) 0 m))=_
 rw[Sc8 r m k2,ec3 r m k2]
 rfl
theorem Ad3 (a:V3) (l:List V3) (hl:l.length≤1000000):Na1 (a,l)=dis (a::l):=(ic2 a l hl).p
theorem Ad4 (a:V3) (l:List V3) (hl:l.length≤1000000):Na2 (a,l)=true:=(ic2 a l hl).g
end Go.Ev.Ce
namespace Go.Ev.Ce
open Go Go.Ev Go.Ev.L Go.Proofs
theorem pd4 (p:Pln) (v:V3):Ca3 p v=some (i (U4 p v),[]):=by
 unfold Ca3 U4
 simp only[Fd9,Gd0,(yb4 v).1,(yb4 v).2,Fd5,Fd6,y9]
 cases hp:okp p with
 | false=>rfl
 | true =>
  cases hv:inV v with
  | false=>rfl
  | true =>
   have hb:=fb7 hp
   have hd:=zd8 hb hv
   have e:j7 p.n v=dot p.n v:=by
    unfold j7
    simp only[Kb7,ac4]
    exact Sb8 (hd.mono (by omega))
   rw[e]
   simp only[Bool.not_true,Ta8,Bool.and_self,if_true,eb0]
   by_cases h1:dot p.n v < p.b
   ·rw[if_pos h1,if_pos (by omega)]
   ·rw[if_neg h1]
    by_cases h2:dot p.n v > p.b
    ·rw[if_pos h2,if_neg (by omega),if_pos (by omega)]
    ·rw[if_neg h2,if_neg (by omega),if_neg (by omega)]
theorem Ub7 (p:Pln) (v:V3):fa3 p v=U4 p v:=by unfold fa3;rw[pd4];rfl
theorem Ub8 (p:Pln) (v:V3):fa4 p v=true:=by unfold fa4;rw[pd4];rfl
theorem ue5 {v:V3} (h1:Sm 1000000000000000000 v.x) (h2:Sm 1000000000000000000 v.y) (h3:Sm 1000000000000000000 v.z):X2 [v.x,v.y,v.z]=g3 v∧X3 [v.x,v.y,v.z]=true:=by
 have hd:=Bc9 [v.x,v.y,v.z] (by simp) (by
  intro x hx
  simp only[List.mem_cons,List.not_mem_nil,or_false] at hx
  rcases hx with rfl | rfl | rfl<;>assumption)
 have hg:([v.x,v.y,v.z].foldl (fun g x=>Nat.gcd g x.natAbs) 0:Nat)=Nat.gcd (Nat.gcd v.x.natAbs v.y.natAbs) v.z.natAbs:=by
  simp only[List.foldl_cons,List.foldl_nil,Nat.gcd_zero_left]
 exact⟨by unfold X2;rw[hd,hg];rfl,by unfold X3;rw[hd];rfl⟩
theorem ee3 {v : V3} (h1 : Sm 1000000000000000000 v.x) (h2 : Sm 1000000000000000000 v.y) (h3 : Sm 1000000000000000000 v.z) :
  Ca2 v=if g3 v=0 then some (.tup [.agg (tV.row ⟨0,0,0⟩),i 0],[]) else some (.tup [.agg (tV.row ⟨W (Int.tdiv v.x (g3 v)),W (Int.tdiv v.y (g3 v)),W (Int.tdiv v.z (g3 v))⟩),i (g3 v)],[]):=by
 obtain⟨e1,e2⟩:=ue5 h1 h2 h3
 unfold Ca2
 simp only[e1,e2,y9]
 by_cases h:g3 v=0
 ·rw[if_pos h,bt (by simpa using h)];rfl
 ·rw[if_neg h,bf (by simpa using h),bf (by simpa using h),bf (by simpa using h),bf (by simpa using h)];rfl
theorem ic3 (a c d:V3):la3 a c d=some (.tup [.agg (tP.row (C8 a c d).1),b (C8 a c d).2],[]):=by
 unfold la3 C8
 simp only[(yb4 _).1,(yb4 _).2]
 cases ha:inV a with
 | false=>rfl
 | true =>
  cases hc:inV c with
  | false=>rfl
  | true =>
   cases hd:inV d with
   | false=>rfl
   | true =>
    obtain⟨e,k1,k2,k3⟩:=fb8 ha hc hd
    have e':aa0 (pa8 c a) (pa8 d a)=d8 (sub c a) (sub d a):=e
    rw[e']
    generalize d8 (sub c a) (sub d a)=n at *
    have m1:=k1.mono (m:=1000000000000000000) (by omega)
    have m2:=k2.mono (m:=1000000000000000000) (by omega)
    have m3:=k3.mono (m:=1000000000000000000) (by omega)
    have hpr:=ee3 m1 m2 m3
    have gp:Qa2 n=true:=by unfold Qa2;rw[hpr];split<;>rfl
    by_cases h0:g3 n=0
    ·have pp:sa5 n=(⟨0,0,0⟩,0):=by unfold sa5;rw[hpr,if_pos h0];rfl
     have hz:j7 ⟨0,0,0⟩ a=0:=by unfold j7;simp only[Int.zero_mul];rfl
     simp only[gp,pp,hz,Bool.and_self,if_true,h0]
     rfl
    ·have hp:=Cb0 n
     have q1:=ga3 (g:=g3 n) k1 (by omega)
     have q2:=ga3 (g:=g3 n) k2 (by omega)
     have q3:=ga3 (g:=g3 n) k3 (by omega)
     rw[Sb8 (q1.mono (by omega)),Sb8 (q2.mono (by omega)),Sb8 (q3.mono (by omega))] at hpr
     have pp:sa5 n=(⟨Int.tdiv n.x (g3 n),Int.tdiv n.y (g3 n),Int.tdiv n.z (g3 n)⟩,g3 n):=by unfold sa5;rw[hpr,if_neg h0];rfl
     have hdot:j7 ⟨Int.tdiv n.x (g3 n),Int.tdiv n.y (g3 n),Int.tdiv n.z (g3 n)⟩ a=dot ⟨Int.tdiv n.x (g3 n),Int.tdiv n.y (g3 n),Int.tdiv n.z (g3 n)⟩ a:=by
      unfold j7
      simp only[Kb7,ac4]
      obtain⟨⟨a1,a2⟩,⟨a3,a4⟩,a5,a6⟩:=(Ea2 a).1 ha
      have r1:=mb q1.1 q1.2 a1 a2;have r2:=mb q2.1 q2.2 a3 a4;have r3:=mb q3.1 q3.2 a5 a6
      rw[U3 (by omega) (by omega)]
      rfl
     simp only[gp,pp,hdot,Bool.and_self,if_true,h0,if_false,show g3 n > 0 from by omega,decide_true]
     rfl
theorem ob2 (a b c:V3):G9 a b c=C8 a b c:=by unfold G9;rw[ic3];rfl
theorem Lb1 (a b c:V3):ea3 a b c=true:=by unfold ea3;rw[ic3];rfl
end Go.Ev.Ce
namespace Go.Ev.Ce
open Go Go.Ev Go.Ev.L Go.Proofs
theorem ee4 (v:V3) (p:Pln):Ja1 ⟨v.x,v.y,v.z,p.n.x,p.n.y,p.n.z,p.b⟩=⟨1,U4 p v != 0⟩:=by
 unfold Ja1 na0
 simp only[Ub7,Ub8,y9]
theorem ue6 (l:List V3) (p:Pln) (hl:l.length≤1000000000):V0 ⟨l,p.n.x,p.n.y,p.n.z,p.b⟩=⟨1,if l.any (fun v=>U4 p v != 0) then ((l.findIdx (fun v=>U4 p v != 0):Nat):Int) else -1⟩:=by
 have h:=Ra2 (step:=F6 ⟨l,(l.length:Int),p.n.x,p.n.y,p.n.z,p.b⟩) (mk:=fun j=>(⟨(j:Int)⟩:o5)) (c:=fun v=>U4 p v != 0) (u:=1) (fin:=2) tV l hl
  (fun j hj=>by
   simp only[F6,D8,Int.toNat_natCast,ee4,y7 hj (by omega)]
   rw[bt (Ac4 hj),bt (i5 hj)]
   rfl)
  (by simp only[F6,D8];rw[bf (Rb4 (Nat.lt_irrefl _))]) 0 (Nat.zero_le _)
 rw[List.drop_zero] at h
 unfold V0 E6
 simp only[p9,l7]
 rw[show (⟨0⟩:o5)=⟨((0:Nat):Int)⟩ from rfl,h]
 split
 ·simp only[Nat.zero_add];rfl
 ·rfl
theorem Hd5 (l:List V3) (p:Pln) (hl:l.length≤1000000000):p8 ⟨l,p.n.x,p.n.y,p.n.z,p.b⟩=⟨1,l.any fun v=>U4 p v != 0⟩:=by
 unfold p8 A5
 simp only[p9,l7,ue6 l p hl]
 split
 ·rename_i h
  rw[h,show decide (((l.findIdx (fun v=>U4 p v != 0):Nat):Int)≥0)=true from decide_eq_true (by omega)];rfl
 ·rename_i h
  rw[Bool.not_eq_true] at h
  rw[h];rfl
theorem ue7 (v:V3) (p:Pln):xa0 ⟨v.x,v.y,v.z,p.n.x,p.n.y,p.n.z,p.b⟩=⟨1,decide (U4 p v > 0)⟩:=by
 unfold xa0 ea4
 simp only[Ub7,Ub8,y9]
theorem ue8 (l:List V3) (p:Pln) (hl:l.length≤1000000000):V4 ⟨l,p.n.x,p.n.y,p.n.z,p.b⟩=⟨1,if l.any (fun v=>decide (U4 p v > 0)) then ((l.findIdx (fun v=>decide (U4 p v > 0)):Nat):Int) else -1⟩:=by
 have h:=Ra2 (step:=F7 ⟨l,(l.length:Int),p.n.x,p.n.y,p.n.z,p.b⟩) (mk:=fun j=>(⟨(j:Int)⟩:o6)) (c:=fun v=>decide (U4 p v > 0)) (u:=1) (fin:=2) tV l hl
  (fun j hj=>by
   simp only[F7,D9,Int.toNat_natCast,ue7,y7 hj (by omega)]
   rw[bt (Ac4 hj),bt (i5 hj)]
   rfl)
  (by simp only[F7,D9];rw[bf (Rb4 (Nat.lt_irrefl _))]) 0 (Nat.zero_le _)
 rw[List.drop_zero] at h
 unfold V4 E7
 simp only[p9,l7]
 rw[show (⟨0⟩:o6)=⟨((0:Nat):Int)⟩ from rfl,h]
 split
 ·simp only[Nat.zero_add];rfl
 ·rfl
theorem ue9 (l:List V3) (p:Pln) (hl:l.length≤1000000000):N5 ⟨l,p.n.x,p.n.y,p.n.z,p.b⟩=⟨1,l.any fun v=>decide (U4 p v > 0)⟩:=by
 unfold N5 A6
 simp only[p9,l7,ue8 l p hl]
 split
 ·rename_i h
  rw[h,show decide (((l.findIdx (fun v=>decide (U4 p v > 0)):Nat):Int)≥0)=true from decide_eq_true (by omega)];rfl
 ·rename_i h
  rw[Bool.not_eq_true] at h
  rw[h];rfl
def bey (l:List V3) (p:Pln):Bool:=l.any fun v=>decide (U4 p v > 0)
theorem Tc0 (l:List V3) (p:Pln) (hl:l.length≤1000000000):va2 l p=some (b (bey l p),[]):=by
 unfold va2
 simp only[p9,l7,ue9 l p hl]
 rfl
theorem ee5 (l:List V3) (p:Pln) (hl:l.length≤1000000000):aa4 l p=bey l p:=by unfold aa4;rw[Tc0 l p hl];rfl
theorem ee6 (l:List V3) (p:Pln) (hl:l.length≤1000000000):H5 l p=true:=by unfold H5;rw[Tc0 l p hl];rfl
end Go.Ev.Ce
namespace Go.Ev.Ce
open Go Go.Ev Go.Ev.L Go.Proofs
theorem Dc8 {α:Type} (t:Ty α) (l:List α) {j k:Nat} (h:k < j):gL t (l.take j) k=gL t l k:=by
 simp[gL,List.getD_eq_getElem?_getD,List.getElem?_take,h]
theorem ee7 (l : List V3) (i j : Nat) (hi : i < l.length) (hj : j < i) (hl : l.length ≤ 1000000) :
  lp (N1 ⟨(i:Int),(j:Int),(l.length:Int),(i:Int),(i:Int),(j:Int),(j:Int),l,l⟩) ⟨0⟩ =
   if (l.take j).any (fun v=>(C8 v (gL tV l j) (gL tV l i)).2) then (1,⟨((l.take j).findIdx (fun v=>(C8 v (gL tV l j) (gL tV l i)).2):Nat)⟩) else (2,⟨(j:Int)⟩):=by
 have hlen:(l.take j).length=j:=by rw[List.length_take];omega
 have h:=Ra2 (step:=N1 ⟨(i:Int),(j:Int),(l.length:Int),(i:Int),(i:Int),(j:Int),(j:Int),l,l⟩) (mk:=fun k=>(⟨(k:Int)⟩:H4)) (c:=fun v=>(C8 v (gL tV l j) (gL tV l i)).2) (u:=1) (fin:=2) tV (l.take j) (by omega)
  (fun k hk=>by
   rw[hlen] at hk
   simp only[N1,la4,Int.toNat_natCast,ob2,Lb1,Dc8 tV l hk,p9,l7,Hd5 l _ (show l.length≤1000000000 by omega),y7 hk (by omega)]
   rw[btD (l5 hk),bt (i5 (by omega)),bt (i5 (by omega)),bt (i5 hi),y9]
   cases (C8 (gL tV l k) (gL tV l j) (gL tV l i)).2<;>rfl)
  (by rw[hlen];simp only[N1,la4];rw[bfD (p5 (Nat.lt_irrefl _))]) 0 (Nat.zero_le _)
 rw[List.drop_zero,hlen] at h
 rw[show (⟨0⟩:H4)=⟨((0:Nat):Int)⟩ from rfl,h]
 split
 ·simp only[Nat.zero_add]
 ·rfl
end Go.Ev.Ce
namespace Go.Ev.Ce
open Go Go.Ev Go.Ev.L Go.Proofs
def ixs (n:Nat):List Int:=(List.range n).map fun k:Nat=>(k:Int)
theorem Ra7 (n:Nat):(ixs n).length=n:=by simp[ixs]
theorem Hd6 {n k:Nat} (h:k < n):gL tI (ixs n) k=(k:Int):=by
 simp[gL,ixs,List.getD_eq_getElem?_getD,List.getElem?_map,List.getElem?_range h]
noncomputable def sp2 (l:List V3) (i:Nat) (m:Int):Bool:=(l.take m.toNat).any fun v=>(C8 v (gL tV l m.toNat) (gL tV l i)).2
theorem ee8 (l : List V3) (i : Nat) (hi : i < l.length) (hl : l.length ≤ 1000000) :
  lp (T8 ⟨(i:Int),(l.length:Int),(i:Int),(i:Int)⟩) ⟨0,l,l⟩=if (ixs i).any (sp2 l i) then (1,⟨((ixs i).findIdx (sp2 l i):Nat),l,l⟩) else (2,⟨(i:Int),l,l⟩):=by
 have h:=Ra2 (step:=T8 ⟨(i:Int),(l.length:Int),(i:Int),(i:Int)⟩) (mk:=fun j=>(⟨(j:Int),l,l⟩:K4)) (c:=sp2 l i) (u:=1) (fin:=2) tI (ixs i) (by rw[Ra7];omega)
  (fun j hj=>by
   rw[Ra7] at hj
   simp only[T8,la5,Int.toNat_natCast,Nat.sub_zero,p9,l7,ee7 l i j hi hj hl,y7 hj (by omega),Hd6 hj]
   rw[btD (l5 hj),bt (i5 (by omega))]
   unfold sp2
   simp only[Int.toNat_natCast]
   cases ((l.take j).any fun v=>(C8 v (gL tV l j) (gL tV l i)).2)<;>rfl)
  (by rw[Ra7];simp only[T8,la5];rw[bfD (p5 (Nat.lt_irrefl _))]) 0 (Nat.zero_le _)
 rw[List.drop_zero,Ra7] at h
 rw[show (⟨0,l,l⟩:K4)=⟨((0:Nat):Int),l,l⟩ from rfl,h]
 split
 ·simp only[Nat.zero_add]
 ·rfl
noncomputable def sp1 (l:List V3) (m:Int):Bool:=(ixs m.toNat).any (sp2 l m.toNat)
theorem Je5 (l : List V3) (hl : l.length ≤ 1000000) :
  lp (ja5 ⟨(l.length:Int)⟩) ⟨0,l,l⟩=if (ixs l.length).any (sp1 l) then (1,⟨((ixs l.length).findIdx (sp1 l):Nat),l,l⟩) else (2,⟨(l.length:Int),l,l⟩):=by
 have h:=Ra2 (step:=ja5 ⟨(l.length:Int)⟩) (mk:=fun j=>(⟨(j:Int),l,l⟩:T0)) (c:=sp1 l) (u:=1) (fin:=2) tI (ixs l.length) (by rw[Ra7];omega)
  (fun i hi=>by
   rw[Ra7] at hi
   simp only[ja5,la6,Int.toNat_natCast,Nat.sub_zero,p9,l7,ee8 l i hi hl,y7 hi (by omega),Hd6 hi]
   rw[btD (l5 hi),bt (i5 (by omega))]
   unfold sp1
   simp only[Int.toNat_natCast]
   cases (ixs i).any (sp2 l i)<;>rfl)
  (by rw[Ra7];simp only[ja5,la6];rw[bfD (p5 (Nat.lt_irrefl _))]) 0 (Nat.zero_le _)
 rw[List.drop_zero,Ra7] at h
 rw[show (⟨0,l,l⟩:T0)=⟨((0:Nat):Int),l,l⟩ from rfl,h]
 split
 ·simp only[Nat.zero_add]
 ·rfl
end Go.Ev.Ce
namespace Go.Ev.Ce
open Go Go.Ev Go.Ev.L Go.Proofs
theorem bd3 {α:Type} {l:List α} {c:α→Bool} (h:l.any c=true):l.findIdx c < l.length:=by
 obtain⟨x,h1,h2⟩:=List.any_eq_true.1 h
 exact List.findIdx_lt_length_of_exists ⟨x,h1,h2⟩
theorem Cb5 {n:Nat} {c:Int→Bool} (h:(ixs n).any c=true):(ixs n).findIdx c < n∧c ((ixs n).findIdx c:Nat)=true:=by
 have hlt:=bd3 h
 have h1:=List.findIdx_getElem (xs:=ixs n) (p:=c) (w:=hlt)
 rw[Ra7] at hlt
 refine⟨hlt,?_⟩
 simpa [ixs] using h1
noncomputable def iF (l:List V3):Nat:=(ixs l.length).findIdx (sp1 l)
noncomputable def jF (l:List V3):Nat:=(ixs (iF l)).findIdx (sp2 l (iF l))
noncomputable def kF (l:List V3):Nat:=(l.take (jF l)).findIdx (fun v=>(C8 v (gL tV l (jF l)) (gL tV l (iF l))).2)
noncomputable def plF (l:List V3):Pln:=(C8 (gL tV l (kF l)) (gL tV l (jF l)) (gL tV l (iF l))).1
noncomputable def Gb9 (l:List V3):Bool:=if (ixs l.length).any (sp1 l) then !(l.any fun v=>U4 (plF l) v != 0) else true
theorem pd5 (l:List V3) (hl:l.length≤1000000):La1 l=some (b (Gb9 l),[]):=by
 unfold La1 Gb9
 simp only[p9,l7]
 rw[Je5 l hl]
 by_cases h:(ixs l.length).any (sp1 l)=true
 ·obtain⟨hi,h1⟩:=Cb5 h
  have h1:(ixs (iF l)).any (sp2 l (iF l))=true:=h1
  obtain⟨hj,h2⟩:=Cb5 h1
  have h2:(l.take (jF l)).any (fun v=>(C8 v (gL tV l (jF l)) (gL tV l (iF l))).2)=true:=h2
  rw[if_pos h,if_pos h]
  simp only[Int.toNat_natCast,Nat.sub_zero]
  rw[show (ixs l.length).findIdx (sp1 l)=iF l from rfl,ee8 l (iF l) hi hl,if_pos h1]
  simp only[Int.toNat_natCast,Nat.sub_zero]
  rw[show (ixs (iF l)).findIdx (sp2 l (iF l))=jF l from rfl,ee7 l (iF l) (jF l) hi hj hl,if_pos h2]
  simp only[Int.toNat_natCast,ob2]
  rw[show (l.take (jF l)).findIdx (fun v=>(C8 v (gL tV l (jF l)) (gL tV l (iF l))).2)=kF l from rfl,show (C8 (gL tV l (kF l)) (gL tV l (jF l)) (gL tV l (iF l))).1=plF l from rfl,Hd5 l _ (by omega)]
  rfl
 ·rw[if_neg h,if_neg h]
  rfl
theorem ve0 (l:List V3) (hl:l.length≤1000000):cb0 l=Gb9 l:=by unfold cb0;rw[pd5 l hl];rfl
theorem ve1 (l:List V3) (hl:l.length≤1000000):cb1 l=true:=by unfold cb1;rw[pd5 l hl];rfl
end Go.Ev.Ce
namespace Go.Ev.Ce
open Go Go.Ev Go.Ev.L Go.Proofs
theorem Tc1 (v:V3):qa2 v=some (b (!inV v),[]):=by
 unfold qa2
 simp only[(yb4 v).1,(yb4 v).2,y9]
theorem ee9 (v:V3):Ca5 v=!inV v:=by unfold Ca5;rw[Tc1];rfl
theorem fe0 (v:V3):Ca6 v=true:=by unfold Ca6;rw[Tc1];rfl
theorem ve2 (l:List V3) (hl:l.length≤1000000000):V7 ⟨l⟩=⟨1,if l.any (fun v=>!inV v) then ((l.findIdx (fun v=>!inV v):Nat):Int) else -1⟩:=by
 have h:=Ra2 (step:=F8 ⟨l,(l.length:Int)⟩) (mk:=fun j=>(⟨(j:Int)⟩:o7)) (c:=fun v=>!inV v) (u:=1) (fin:=2) tV l hl
  (fun j hj=>by
   simp only[F8,E0,Int.toNat_natCast,ee9,fe0,y7 hj (by omega)]
   rw[bt (Ac4 hj),bt (i5 hj),y9])
  (by simp only[F8,E0];rw[bf (Rb4 (Nat.lt_irrefl _))]) 0 (Nat.zero_le _)
 rw[List.drop_zero] at h
 unfold V7 E8
 simp only[p9,l7]
 rw[show (⟨0⟩:o7)=⟨((0:Nat):Int)⟩ from rfl,h]
 split
 ·simp only[Nat.zero_add];rfl
 ·rfl
theorem ve3 (l:List V3) (hl:l.length≤1000000000):N8 ⟨l⟩=⟨1,l.any fun v=>!inV v⟩:=by
 unfold N8 A7
 simp only[p9,l7,ve2 l hl]
 split
 ·rename_i h
  rw[h,show decide (((l.findIdx (fun v=>!inV v):Nat):Int)≥0)=true from decide_eq_true (by omega)];rfl
 ·rename_i h
  rw[Bool.not_eq_true] at h
  rw[h];rfl
noncomputable def Ha7 (l:List V3):Int:=if (l.length:Int) > 48 then 2 else if l.any (fun v=>!inV v) then 3 else if Gb9 l then 11 else 0
theorem Tc2 (l:List V3) (hl:l.length≤1000000):Ca7 l=some (i (Ha7 l),[]):=by
 unfold Ca7 Ha7
 simp only[p9,l7,Ua0,ve3 l (by omega),ve0 l hl,ve1 l hl]
 by_cases h:(l.length:Int) > 48
 ·rw[btD h,if_pos h]
 ·rw[bfD h,if_neg h]
  cases l.any fun v=>!inV v with
  | true=>rfl
  | false=>cases Gb9 l<;>rfl
theorem Dc9 (l:List V3) (hl:l.length≤1000000):Ca8 l=Ha7 l:=by unfold Ca8;rw[Tc2 l hl];rfl
theorem Ec0 (l:List V3) (hl:l.length≤1000000):Ca9 l=true:=by unfold Ca9;rw[Tc2 l hl];rfl
end Go.Ev.Ce
namespace Go.Ev.Ce
open Go Go.Ev Go.Ev.L Go.Proofs
theorem fe1 {p:Pln} (h:Bd p):sa4 p=da2 p:=by
 unfold sa4 pa8 da2
 simp only
 have:=h.x1;have:=h.x2;have:=h.y1;have:=h.y2;have:=h.z1;have:=h.z2;have:=h.b1;have:=h.b2
 rw[U3 (by omega) (by omega),U3 (by omega) (by omega),U3 (by omega) (by omega),U3 (by omega) (by omega)]
 simp only[Int.zero_sub]
noncomputable def bd4 (p:Pln):List b7:=[i p.n.x,i p.n.y,i p.n.z,i p.b,b true]
noncomputable def cb6 (l:List Pln):List (List b7):=l.map bd4
theorem Tc3 (x q:Pln):kb7 flK [i x.n.x,i x.n.y,i x.n.z,i x.b] (bd4 q)=eqP q x:=by
 show Bool.and (decide (x.n.x=q.n.x)) (Bool.and (decide (x.n.y=q.n.y)) (Bool.and (decide (x.n.z=q.n.z)) (Bool.and (decide (x.b=q.b)) true)))=_
 unfold eqP
 have h:∀ a c:Int,decide (a=c)=(c==a):=fun a c=>by rw[Bool.eq_iff_iff,decide_eq_true_eq,beq_iff_eq];exact eq_comm
 rw[h,h,h,h]
theorem pd6 (x:Pln):∀ l,za2 4 [(0,(.int .i64)),(1,(.int .i64)),(2,(.int .i64)),(3,(.int .i64))] [i x.n.x,i x.n.y,i x.n.z,i x.b] (cb6 l)=Ub0 l x
 | []=>rfl
 | q::l=>by
  have ih:=pd6 x l
  unfold za2 at ih ⊢
  show Option.rec (motive:=fun _=>Bool) false (fun r=>toB (hdA (g8 r 4))) (Bool.rec (motive:=fun _=>Option (List b7)) (Mb6 flK [i x.n.x,i x.n.y,i x.n.z,i x.b] (cb6 l)) (some (bd4 q)) (kb7 flK [i x.n.x,i x.n.y,i x.n.z,i x.b] (bd4 q)))=Ub0 (q::l) x
  rw[Tc3]
  unfold Ub0 at ih ⊢
  rw[List.any_cons]
  cases eqP q x with
  | true=>rfl
  | false=>exact ih
theorem Ad5 (x:Pln):∀ l,Ub0 l x=false→T3 [(0,(.int .i64)),(1,(.int .i64)),(2,(.int .i64)),(3,(.int .i64))] [i x.n.x,i x.n.y,i x.n.z,i x.b] [i x.n.x,i x.n.y,i x.n.z,i x.b,b true] (cb6 l)=cb6 (l++[x])
 | [],_=>rfl
 | q::l,h=>by
  unfold Ub0 at h
  rw[List.any_cons,Bool.or_eq_false_iff] at h
  show Bool.rec (motive:=fun _=>List (List b7)) (bd4 q::T3 flK [i x.n.x,i x.n.y,i x.n.z,i x.b] (bd4 x) (cb6 l)) (bd4 x::cb6 l) (kb7 flK [i x.n.x,i x.n.y,i x.n.z,i x.b] (bd4 q))=_
  rw[Tc3,h.1,show T3 flK [i x.n.x,i x.n.y,i x.n.z,i x.b] (bd4 x) (cb6 l)=_ from Ad5 x l h.2]
  rfl
noncomputable def Lb2 (s:List Pln) (p:Pln):List Pln:=if Ub0 s p then s else s++[p]
theorem fe2 (s:List Pln) (p q:Pln):q∈Lb2 s p↔q∈s∨q=p:=by
 unfold Lb2
 split
 ·rename_i h
  rw[od5] at h
  exact⟨.inl,fun h'=>h'.elim id fun e=>e ▸ h⟩
 ·rw[List.mem_append,List.mem_singleton]
theorem Ec1 {s:List Pln} {p:Pln} (h:s.Nodup):(Lb2 s p).Nodup:=by
 unfold Lb2
 split
 ·exact h
 ·rename_i hn
  rw[od5] at hn
  rw[List.nodup_append]
  exact⟨h,by simp,fun a ha b hb=>by rw[List.mem_singleton.1 hb];intro e;exact hn (e ▸ ha)⟩
theorem pd7 (s:List Pln) (p:Pln):(Lb2 s p).length≤s.length+1:=by
 unfold Lb2
 split
 ·omega
 ·simp
def fil (l:List V3) (s:List Pln):List Pln:=s.filter fun p=>!bey l p
theorem sc4 (l:List V3) (s:List Pln) (p:Pln):fil l (s++[p])=if bey l p then fil l s else fil l s++[p]:=by
 unfold fil
 rw[List.filter_append,List.filter_cons,List.filter_nil]
 cases bey l p<;>simp
theorem bd5 (l:List V3) (s:List Pln):(fil l s).length≤s.length:=List.length_filter_le _ _
noncomputable def Hb0 (l:List V3) (a c:Nat) (s:List Pln) (k:Nat):List Pln :=
 if (C8 (gL tV l k) (gL tV l c) (gL tV l a)).2 then Lb2 (Lb2 s (C8 (gL tV l k) (gL tV l c) (gL tV l a)).1) (da2 (C8 (gL tV l k) (gL tV l c) (gL tV l a)).1) else s
noncomputable def G2 (l:List V3) (a:Nat) (s:List Pln) (c:Nat):List Pln:=(List.range c).foldl (Hb0 l a c) s
noncomputable def G1 (l:List V3) (s:List Pln) (a:Nat):List Pln:=(List.range a).foldl (G2 l a) s
noncomputable def G0 (l:List V3):List Pln:=(List.range l.length).foldl (G1 l) []
theorem Tc4 (l:List V3) (a c:Nat) (s:List Pln) (k:Nat):(Hb0 l a c s k).length≤s.length+2:=by
 unfold Hb0
 split
 ·have h1:=pd7 (Lb2 s (C8 (gL tV l k) (gL tV l c) (gL tV l a)).1) (da2 (C8 (gL tV l k) (gL tV l c) (gL tV l a)).1)
  have h2:=pd7 s (C8 (gL tV l k) (gL tV l c) (gL tV l a)).1
  omega
 ·omega
theorem Je6 (l:List V3) (a:Nat) (s:List Pln) (c:Nat):(G2 l a s c).length≤s.length+2*c:=Dc0 (Tc4 l a c) s c
theorem Ad6 (l:List V3) (a:Nat) (s:List Pln):∀ j,j≤a→a≤48→((List.range j).foldl (G2 l a) s).length≤s.length+96*j
 | 0,_,_=>Nat.le_refl _
 | j+1,h,ha=>by
  rw[H9]
  have h1:=Ad6 l a s j (by omega) ha
  have h2:=Je6 l a ((List.range j).foldl (G2 l a) s) j
  omega
theorem bd6 (l:List V3) (hl:l.length≤48):∀ j,j≤l.length→((List.range j).foldl (G1 l) []).length≤5000*j
 | 0,_=>Nat.le_refl _
 | j+1,h=>by
  rw[H9]
  have h1:=bd6 l hl j (by omega)
  have h2:(G1 l ((List.range j).foldl (G1 l) []) j).length≤_:=Ad6 l j ((List.range j).foldl (G1 l) []) j (Nat.le_refl _) (by omega)
  omega
@[reducible] noncomputable def mkf (l:List V3) (k:Nat) (s:List Pln):A8:=⟨phP (fil l s),(k:Int),cb6 s,(fil l s).length,bL tP (fil l s)⟩
theorem jb7 {n:Nat} {l:List Pln} (hn:n=l.length) (h:l.length≤1000000000):(Nat.beq n (len (bL tP l))&&Nat.ble ((n+1)*32) room)=true:=by
 subst hn
 rw[Ba3,Nat.beq_refl,Bool.true_and]
 exact re6 (by omega)
theorem Hd7 (o:List Pln) (x:Pln):phP (o++[x])=1:=by cases o<;>rfl
theorem fe3 (l : List V3) (hl : l.length ≤ 48) (a c k : Nat) (ha : a < l.length) (hc : c < a) (hk : k < c) (x1 x2 x3 x4 : Int) (s : List Pln) (ho : s.length ≤ 900000) :
  O8 ⟨(a:Int),(c:Int),x1,x2,x3,x4,(c:Int),l,l⟩ (mkf l k s)=.next (mkf l (k+1) (Hb0 l a c s k)):=by
 have hfl:sa4 (C8 (gL tV l k) (gL tV l c) (gL tV l a)).1=da2 (C8 (gL tV l k) (gL tV l c) (gL tV l a)).1:=fe1 (te7 _ _ _)
 have hb:∀ p,aa4 l p=bey l p:=fun p=>ee5 l p (by omega)
 have hg:∀ p,H5 l p=true:=fun p=>ee6 l p (by omega)
 have hn:=y7 hk (show c≤4611686018427387904 by omega)
 have b1:inB (a:Int) l.length=true:=i5 ha
 have b2:inB (c:Int) l.length=true:=i5 (by omega)
 have b3:inB (k:Int) l.length=true:=i5 (by omega)
 have hfl2:=bd5 l s
 unfold Hb0
 unfold mkf
 generalize hT:C8 (gL tV l k) (gL tV l c) (gL tV l a)=T at *
 cases hO:fil l s with
 | nil =>
  show R7 Stp.next Stp.exit Stp.fail _ _=_
  simp only[R7,ob2,Lb1,Int.toNat_natCast,p9,Ua0,hT,hfl,hb,hg,hn,b1,b2,b3,pd6]
  rw[btD (l5 hk)]
  cases h2:T.2 with
  | false=>simp only[Bool.false_eq_true,if_false,hO];rfl
  | true =>
   simp only[if_true,y9]
   cases h3:Ub0 s T.1 with
   | true =>
    cases h4:Ub0 s (da2 T.1) with
    | true=>simp only[Lb2,h3,h4,if_true,hO];rfl
    | false =>
     rw[Ad5 _ _ h4]
     cases h5:bey l (da2 T.1)<;>(simp only[Lb2,h3,h4,h5,if_true,if_false,Bool.false_eq_true,sc4,hO];rfl)
   | false =>
    simp only[Ad5 _ _ h3,pd6]
    cases h5:bey l T.1<;>cases h4:Ub0 (s++[T.1]) (da2 T.1)<;>(try simp only[Ad5 _ _ h4])<;>cases h6:bey l (da2 T.1)<;>(simp only[Lb2,h3,h4,h5,h6,if_true,if_false,Bool.false_eq_true,sc4,hO];rfl)
 | cons q o =>
  have rr:(Nat.beq (q::o).length (len (bL tP (q::o)))&&Nat.ble (((q::o).length+1)*32) room)=true:=jb7 rfl (by rw[← hO];omega)
  have ap:∀ (O:List Pln) (p:Pln),app (bL tP O) [[i p.n.x,i p.n.y,i p.n.z,i p.b]]=bL tP (O++[p]):=fun O p=>Ua1 tP O [p]
  have rr2:∀ p:Pln,(Nat.beq ((q::o).length+1) (len (bL tP (q::o++[p])))&&Nat.ble (((q::o).length+1+1)*32) room)=true:=fun p=>jb7 (by simp) (by rw[← hO,List.length_append,List.length_singleton];omega)
  show R8 Stp.next Stp.exit Stp.fail _ _=_
  simp only[R8,ob2,Lb1,Int.toNat_natCast,p9,Ua0,hT,hfl,hb,hg,hn,b1,b2,b3,pd6,rr,ap,rr2]
  rw[btD (l5 hk)]
  cases h2:T.2 with
  | false=>simp only[Bool.false_eq_true,if_false,hO];rfl
  | true =>
   simp only[if_true,y9]
   cases h3:Ub0 s T.1 with
   | true =>
    cases h4:Ub0 s (da2 T.1) with
    | true=>simp only[Lb2,h3,h4,if_true,hO];rfl
    | false =>
     rw[Ad5 _ _ h4]
     cases h5:bey l (da2 T.1)<;>(simp only[Lb2,h3,h4,h5,if_true,if_false,Bool.false_eq_true,sc4,hO,Hd7,List.length_append,List.length_singleton];rfl)
   | false =>
    simp only[Ad5 _ _ h3,pd6]
    cases h5:bey l T.1<;>cases h4:Ub0 (s++[T.1]) (da2 T.1)<;>(try simp only[Ad5 _ _ h4])<;>cases h6:bey l (da2 T.1)<;>(simp only[Lb2,h3,h4,h5,h6,if_true,if_false,Bool.false_eq_true,sc4,hO,Hd7,List.length_append,List.length_singleton];rfl)
theorem Je7 (l : List V3) (hl : l.length ≤ 48) (a c : Nat) (ha : a < l.length) (hc : c < a) (x1 x2 x3 x4 : Int) (s : List Pln) (ho : s.length ≤ 800000) :
  ∃ j,lp (O8 ⟨(a:Int),(c:Int),x1,x2,x3,x4,(c:Int),l,l⟩) (mkf l 0 s)=(phP (fil l (G2 l a s c))+1,mkf l j (G2 l a s c)):=by
 have key:=T1 (step:=O8 ⟨(a:Int),(c:Int),x1,x2,x3,x4,(c:Int),l,l⟩) (mk:=mkf l) c (fun j o=>j≤c∧o=(List.range j).foldl (Hb0 l a c) s) (fun t r=>t=phP (fil l (G2 l a s c))+1∧∃ j:Nat,r=mkf l j (G2 l a s c)) (by omega)
  (fun j o hj hi=>by
   obtain⟨_,hi⟩:=hi
   have hlen:o.length≤900000:=by
    rw[hi]
    have:=Dc0 (Tc4 l a c) s j
    omega
   rw[fe3 l hl a c j ha hc hj x1 x2 x3 x4 o hlen]
   exact .nx ⟨_,rfl,by omega,by rw[H9,← hi]⟩)
  (fun j o hj hi=>by
   obtain⟨h1,hi⟩:=hi
   have e:j=c:=by omega
   subst e
   have hF:o=G2 l a s j:=hi
   rw[← hF]
   refine⟨_,?_,rfl,j,rfl⟩
   unfold mkf
   cases hO:fil l o with
   | nil =>
    show R7 Stp.next Stp.exit Stp.fail _ _=_
    simp only[R7]
    rw[bfD (p5 (Nat.lt_irrefl _))]
    rfl
   | cons q o =>
    show R8 Stp.next Stp.exit Stp.fail _ _=_
    simp only[R8]
    rw[bfD (p5 (Nat.lt_irrefl _))]
    rfl) 0 s ⟨Nat.zero_le _,rfl⟩
 obtain⟨t,r,h1,rfl,j,rfl⟩:=key
 exact⟨j,h1⟩
@[reducible] noncomputable def Ec2 (l:List V3) (k:Nat) (s:List Pln):y5:=⟨phP (fil l s),(k:Int),l,l,cb6 s,(fil l s).length,bL tP (fil l s)⟩
theorem Je8 (l : List V3) (hl : l.length ≤ 48) (a : Nat) (ha : a < l.length) (x1 x2 : Int) (s : List Pln) (ho : s.length ≤ 700000) :
  ∃ j,lp (X5 ⟨(a:Int),x1,x2,(a:Int)⟩) (Ec2 l 0 s)=(phP (fil l (G1 l s a))+1,Ec2 l j (G1 l s a)):=by
 have key:=T1 (step:=X5 ⟨(a:Int),x1,x2,(a:Int)⟩) (mk:=Ec2 l) a (fun j o=>j≤a∧o=(List.range j).foldl (G2 l a) s) (fun t r=>t=phP (fil l (G1 l s a))+1∧∃ j:Nat,r=Ec2 l j (G1 l s a)) (by omega)
  (fun j o hj hi=>by
   obtain⟨hja,hi⟩:=hi
   have hlen:o.length≤800000:=by rw[hi];have:=Ad6 l a s j hja (by omega);omega
   have hn:=y7 hj (show a≤4611686018427387904 by omega)
   have bj:inB (j:Int) (l.length+1)=true:=i5 (by omega)
   obtain⟨j',e1⟩:=Je7 l hl a j ha hj x1 x2 (a:Int) (j:Int) o hlen
   have fin : ∀ {r : y5}, r = Ec2 l (j + 1) (G2 l a o j) → Nx (.next r) (fun t => t = phP (fil l (G1 l s a)) + 1 ∧ ∃ j' : Nat, Ec2 l j o = Ec2 l j' (G1 l s a))
     (fun r=>∃ o',r=Ec2 l (j+1) o'∧(j+1≤a∧o'=(List.range (j+1)).foldl (G2 l a) s)):=fun {r} hs =>
    .nx ⟨_,hs,by omega,by rw[H9,← hi]⟩
   clear hi
   generalize hF:G2 l a o j=R at *
   unfold Ec2 at *
   unfold mkf at e1
   cases hO:fil l o with
   | nil =>
    rw[hO] at e1 fin
    show Nx (R9 Stp.next Stp.exit Stp.fail _ _) _ _
    simp only[R9,p9,l7,hn,bj,Int.toNat_natCast,Nat.sub_zero]
    have e1:lp (O8 ⟨(a:Int),(j:Int),x1,x2,(a:Int),(j:Int),(j:Int),l,l⟩) ⟨0,0,cb6 o,0,[]⟩=_:=e1
    rw[btD (l5 hj),e1]
    cases hR:fil l R with
    | nil=>exact fin (by rw[hR];rfl)
    | cons q R'=>exact fin (by rw[hR];rfl)
   | cons q o' =>
    rw[hO] at e1 fin
    show Nx (S1 Stp.next Stp.exit Stp.fail _ _) _ _
    simp only[S1,p9,l7,hn,bj,Int.toNat_natCast,Nat.sub_zero]
    have e1:lp (O8 ⟨(a:Int),(j:Int),x1,x2,(a:Int),(j:Int),(j:Int),l,l⟩) ⟨1,0,cb6 o,(q::o').length,bL tP (q::o')⟩=_:=e1
    rw[btD (l5 hj),e1]
    cases hR:fil l R with
    | nil=>exact fin (by rw[hR];rfl)
    | cons q R'=>exact fin (by rw[hR];rfl))
  (fun j o hj hi=>by
   obtain⟨h1,hi⟩:=hi
   have e:j=a:=by omega
   subst e
   have hF:o=G1 l s j:=hi
   rw[← hF]
   refine⟨_,?_,rfl,j,rfl⟩
   unfold Ec2
   cases hO:fil l o with
   | nil =>
    show R9 Stp.next Stp.exit Stp.fail _ _=_
    simp only[R9]
    rw[bfD (p5 (Nat.lt_irrefl _))]
    rfl
   | cons q o =>
    show S1 Stp.next Stp.exit Stp.fail _ _=_
    simp only[S1]
    rw[bfD (p5 (Nat.lt_irrefl _))]
    rfl) 0 s ⟨Nat.zero_le _,rfl⟩
 obtain⟨t,r,h1,rfl,j,rfl⟩:=key
 exact⟨j,h1⟩
@[reducible] noncomputable def bd7 (l:List V3) (k:Nat) (s:List Pln):A9:=⟨phP (fil l s),(k:Int),l,l,cb6 s,(fil l s).length,bL tP (fil l s)⟩
theorem Je9 (l : List V3) (hl : l.length ≤ 48) :
  ∃ j,lp (xa2 ⟨(l.length:Int)⟩) ⟨0,0,l,l,[],0,[]⟩=(phP (fil l (G0 l))+1,bd7 l j (G0 l)):=by
 have key:=T1 (step:=xa2 ⟨(l.length:Int)⟩) (mk:=bd7 l) l.length (fun j o=>j≤l.length∧o=(List.range j).foldl (G1 l) []) (fun t r=>t=phP (fil l (G0 l))+1∧∃ j:Nat,r=bd7 l j (G0 l)) (by omega)
  (fun j o hj hi=>by
   obtain⟨hja,hi⟩:=hi
   have hlen:o.length≤700000:=by rw[hi];have:=bd6 l hl j hja;omega
   have hn:=y7 hj (show l.length≤4611686018427387904 by omega)
   have bj:inB (j:Int) (l.length+1)=true:=i5 (by omega)
   obtain⟨j',e1⟩:=Je8 l hl j hj (l.length:Int) (j:Int) o hlen
   have fin : ∀ {r : A9}, r = bd7 l (j + 1) (G1 l o j) → Nx (.next r) (fun t => t = phP (fil l (G0 l)) + 1 ∧ ∃ j' : Nat, bd7 l j o = bd7 l j' (G0 l))
     (fun r=>∃ o',r=bd7 l (j+1) o'∧(j+1≤l.length∧o'=(List.range (j+1)).foldl (G1 l) [])):=fun {r} hs =>
    .nx ⟨_,hs,by omega,by rw[H9,← hi]⟩
   clear hi
   generalize hF:G1 l o j=R at *
   unfold bd7 at *
   unfold Ec2 at e1
   cases hO:fil l o with
   | nil =>
    rw[hO] at e1 fin
    show Nx (S3 Stp.next Stp.exit Stp.fail _ _) _ _
    simp only[S3,p9,l7,hn,bj,Int.toNat_natCast,Nat.sub_zero]
    have e1:lp (X5 ⟨(j:Int),(l.length:Int),(j:Int),(j:Int)⟩) ⟨0,0,l,l,cb6 o,0,[]⟩=_:=e1
    rw[btD (l5 hj),e1]
    cases hR:fil l R with
    | nil=>exact fin (by rw[hR];rfl)
    | cons q R'=>exact fin (by rw[hR];rfl)
   | cons q o' =>
    rw[hO] at e1 fin
    show Nx (S4 Stp.next Stp.exit Stp.fail _ _) _ _
    simp only[S4,p9,l7,hn,bj,Int.toNat_natCast,Nat.sub_zero]
    have e1:lp (X5 ⟨(j:Int),(l.length:Int),(j:Int),(j:Int)⟩) ⟨1,0,l,l,cb6 o,(q::o').length,bL tP (q::o')⟩=_:=e1
    rw[btD (l5 hj),e1]
    cases hR:fil l R with
    | nil=>exact fin (by rw[hR];rfl)
    | cons q R'=>exact fin (by rw[hR];rfl))
  (fun j o hj hi=>by
   obtain⟨h1,hi⟩:=hi
   have e:j=l.length:=by omega
   subst e
   have hF:o=G0 l:=hi
   rw[← hF]
   refine⟨_,?_,rfl,l.length,rfl⟩
   unfold bd7
   cases hO:fil l o with
   | nil =>
    show S3 Stp.next Stp.exit Stp.fail _ _=_
    simp only[S3]
    rw[bfD (p5 (Nat.lt_irrefl _))]
    rfl
   | cons q o =>
    show S4 Stp.next Stp.exit Stp.fail _ _=_
    simp only[S4]
    rw[bfD (p5 (Nat.lt_irrefl _))]
    rfl) 0 [] ⟨Nat.zero_le _,rfl⟩
 obtain⟨t,r,h1,rfl,j,rfl⟩:=key
 exact⟨j,h1⟩
end Go.Ev.Ce
namespace Go.Ev.Ce
open Go Go.Ev Go.Ev.L Go.Proofs
theorem Ad7 {F:List Pln} (h:∀ p∈F,okp p=true) {k:Nat} (hk:k < F.length):Bd (gL tP F k):=fb7 (h _ (eb9 tP hk))
theorem ve4 {n:V3} {r:Pln} (hn:Sm 42467328 n.x∧Sm 42467328 n.y∧Sm 42467328 n.z) (hr:Bd r):j7 n r.n=dot n r.n:=by
 obtain⟨⟨a1,a2⟩,⟨a3,a4⟩,a5,a6⟩:=hn
 have r1:=mb a1 a2 hr.x1 hr.x2;have r2:=mb a3 a4 hr.y1 hr.y2;have r3:=mb a5 a6 hr.z1 hr.z2
 unfold j7
 simp only[Kb7,ac4]
 rw[U3 (by omega) (by omega)]
 rfl
theorem ve5 (l : List Pln) (n : V3) (hn : Sm 42467328 n.x ∧ Sm 42467328 n.y ∧ Sm 42467328 n.z) (hF : ∀ p ∈ l, okp p = true) (hl : l.length ≤ 1000000000) :
  Q1 ⟨l,n.x,n.y,n.z⟩=⟨1,if l.any (fun r=>dot n r.n != 0) then ((l.findIdx (fun r=>dot n r.n != 0):Nat):Int) else -1⟩:=by
 have h:=Ra2 (step:=D3 ⟨l,(l.length:Int),n.x,n.y,n.z⟩) (mk:=fun j=>(⟨(j:Int)⟩:m8)) (c:=fun r=>dot n r.n != 0) (u:=1) (fin:=2) tP l hl
  (fun j hj=>by
   have e:=ve4 hn (Ad7 hF hj)
   simp only[D3,C3,Int.toNat_natCast,Na3,ea5,e,y7 hj (show l.length≤4611686018427387904 by omega)]
   rw[btD (l5 hj),bt (i5 hj)])
  (by simp only[D3,C3];rw[bfD (p5 (Nat.lt_irrefl _))]) 0 (Nat.zero_le _)
 rw[List.drop_zero] at h
 unfold Q1 C5
 simp only[p9,l7]
 rw[show (⟨0⟩:m8)=⟨((0:Nat):Int)⟩ from rfl,h]
 split
 ·simp only[Nat.zero_add];rfl
 ·rfl
theorem ve6 (l : List Pln) (n : V3) (hn : Sm 42467328 n.x ∧ Sm 42467328 n.y ∧ Sm 42467328 n.z) (hF : ∀ p ∈ l, okp p = true) (hl : l.length ≤ 1000000000) :
  L2 ⟨l,n.x,n.y,n.z⟩=⟨1,l.any fun r=>dot n r.n != 0⟩:=by
 unfold L2 w7
 simp only[p9,l7,ve5 l n hn hF hl]
 split
 ·rename_i h
  rw[h,show decide (((l.findIdx (fun r=>dot n r.n != 0):Nat):Int)≥0)=true from decide_eq_true (by omega)];rfl
 ·rename_i h
  rw[Bool.not_eq_true] at h
  rw[h];rfl
noncomputable def Pd3 (l:List Pln) (a c:Nat):Bool:=l.any fun r=>dot (d8 (gL tP l a).n (gL tP l c).n) r.n != 0
noncomputable def vtx (l:List Pln):Bool:=(List.range l.length).any fun a=>(List.range a).any (Pd3 l a)
theorem Pd4 {p q:Pln} (hp:Bd p) (hq:Bd q):aa0 p.n q.n=d8 p.n q.n∧Sm 42467328 (d8 p.n q.n).x∧Sm 42467328 (d8 p.n q.n).y∧Sm 42467328 (d8 p.n q.n).z:=by
 obtain⟨k1,k2,k3⟩:=yb1 hp.n hq.n
 refine⟨?_,k1,k2,k3⟩
 rw[se0,Sb8 (k1.mono (by omega)),Sb8 (k2.mono (by omega)),Sb8 (k3.mono (by omega))]
theorem Ad8 (l : List Pln) (hF : ∀ p ∈ l, okp p = true) (hl : l.length ≤ 1000000) (a : Nat) (ha : a < l.length) (x9 x10 : Int) :
  ∃ j,lp (aa7 ⟨l,l,x9,x10,a,(fun k=>(fun k=>tP.row (gL tP l k)) (0+k)),(a:Int),(gL tP l a).n.x,(gL tP l a).n.y,(gL tP l a).n.z,(gL tP l a).b⟩) ⟨0⟩=(if (List.range a).any (Pd3 l a) then 1 else 2,⟨((j:Nat):Int)⟩) :=
 Cc9 (step:=aa7 ⟨l,l,x9,x10,a,(fun k=>(fun k=>tP.row (gL tP l k)) (0+k)),(a:Int),(gL tP l a).n.x,(gL tP l a).n.y,(gL tP l a).n.z,(gL tP l a).b⟩) (mk:=fun j=>(⟨(j:Int)⟩:O9)) a (Pd3 l a) 1 2 (by omega)
  (fun j hj=>by
   obtain⟨e,k1,k2,k3⟩:=Pd4 (Ad7 hF ha) (Ad7 hF (show j < l.length by omega))
   have rr:(⟨toI (hdA (tP.row (gL tP l j))),toI (hdA (tlA (tP.row (gL tP l j)))),toI (hdA (tlA (tlA (tP.row (gL tP l j)))))⟩:V3)=(gL tP l j).n:=rfl
   have e':aa0 ⟨(gL tP l a).n.x,(gL tP l a).n.y,(gL tP l a).n.z⟩ (gL tP l j).n=d8 (gL tP l a).n (gL tP l j).n:=e
   simp only[aa7,fa8,Int.toNat_natCast,Nat.zero_add,rr,e',He7,p9,l7,ve6 l _ ⟨k1,k2,k3⟩ hF (show l.length≤1000000000 by omega),y7 hj (show a≤4611686018427387904 by omega)]
   rw[btD (l5 hj),bt (i5 hj)]
   unfold Pd3
   cases hz:((d8 (gL tP l a).n (gL tP l j).n).x==0&&((d8 (gL tP l a).n (gL tP l j).n).y==0&&((d8 (gL tP l a).n (gL tP l j).n).z==0&&true))) with
   | false=>rfl
   | true =>
    simp only[Bool.and_true,Bool.and_eq_true,beq_iff_eq] at hz
    have:(l.any fun r=>dot (d8 (gL tP l a).n (gL tP l j).n) r.n != 0)=false:=by
     rw[List.any_eq_false]
     intro r _
     have:dot (d8 (gL tP l a).n (gL tP l j).n) r.n=0:=by unfold dot;rw[hz.1,hz.2.1,hz.2.2];simp only[Int.zero_mul,Int.add_zero]
     rw[this]
     decide
    rw[this]
    rfl)
  (by simp only[aa7,fa8];rw[bfD (p5 (Nat.lt_irrefl _))])
theorem Tc5 (l:List Pln) (hF:∀ p∈l,okp p=true) (hl:l.length≤1000000):va4 l=some (b (vtx l),[]):=by
 obtain⟨j,h⟩:=Cc9 (step:=aa8 ⟨(l.length:Int)⟩) (mk:=fun j=>(⟨l,l,(j:Int)⟩:P0)) l.length (fun a=>(List.range a).any (Pd3 l a)) 1 2 (by omega)
  (fun j hj=>by
   obtain⟨j',h1⟩:=Ad8 l hF hl j hj (l.length:Int) (j:Int)
   simp only[aa8,fa9,p9,l7,Int.toNat_natCast,Nat.sub_zero,y7 hj (show l.length≤4611686018427387904 by omega)]
   rw[btD (l5 hj),bt (i5 hj),bt (i5 (show j < l.length+1 by omega)),h1]
   cases (List.range j).any (Pd3 l j)<;>rfl)
  (by simp only[aa8,fa9];rw[bfD (p5 (Nat.lt_irrefl _))])
 have h:lp (aa8 ⟨(l.length:Int)⟩) ⟨l,l,0⟩=(if vtx l then 1 else 2,⟨l,l,((j:Nat):Int)⟩):=h
 unfold va4
 simp only[p9,l7]
 rw[h]
 cases vtx l<;>rfl
theorem pd8 (l:List Pln) (hF:∀ p∈l,okp p=true) (hl:l.length≤1000000):na1 l=vtx l:=by unfold na1;rw[Tc5 l hF hl];rfl
theorem pd9 (l:List Pln) (hF:∀ p∈l,okp p=true) (hl:l.length≤1000000):na2 l=true:=by unfold na2;rw[Tc5 l hF hl];rfl
theorem ve7 (l:List Pln):vtx l=true↔∃ p q s,p∈l∧q∈l∧s∈l∧mw p q s≠0:=by
 unfold vtx
 rw[List.any_eq_true]
 constructor
 ·rintro⟨a,ha,h⟩
  obtain⟨c,hc,h⟩:=List.any_eq_true.1 h
  rw[List.mem_range] at ha hc
  obtain⟨r,hr,h⟩:=List.any_eq_true.1 h
  have h:dot (d8 (gL tP l a).n (gL tP l c).n) r.n≠0:=bne_iff_ne.1 h
  exact⟨_,_,r,eb9 tP ha,eb9 tP (show c < l.length by omega),hr,fun e=>h (by rw[← e];simp only[mw,dot,d8];grind)⟩
 ·rintro⟨p,q,s,hp,hq,hs,hw⟩
  obtain⟨i',hi,rfl⟩:=List.mem_iff_getElem.1 hp
  obtain⟨j',hj,rfl⟩:=List.mem_iff_getElem.1 hq
  have hne:i'≠j':=fun e=>hw (by subst e;simp only[mw,dot,d8];grind)
  rw[← wb8 tP hi,← wb8 tP hj] at hw
  rcases Nat.lt_or_gt_of_ne hne with h | h
  ·refine⟨j',List.mem_range.2 hj,List.any_eq_true.2 ⟨i',List.mem_range.2 h,List.any_eq_true.2 ⟨s,hs,?_⟩⟩⟩
   have:dot (d8 (gL tP l j').n (gL tP l i').n) s.n≠0:=fun e=>hw (by
    rw[show mw (gL tP l i') (gL tP l j') s=-dot (d8 (gL tP l j').n (gL tP l i').n) s.n from by simp only[mw,dot,d8];grind,e]
    rfl)
   exact bne_iff_ne.2 this
  ·refine⟨i',List.mem_range.2 hi,List.any_eq_true.2 ⟨j',List.mem_range.2 h,List.any_eq_true.2 ⟨s,hs,?_⟩⟩⟩
   have:dot (d8 (gL tP l i').n (gL tP l j').n) s.n≠0:=fun e=>hw (by rw[← e];simp only[mw,dot,d8];grind)
   exact bne_iff_ne.2 this
structure OkF (F:List Pln):Prop where
 l:F.length≤1000000
 v:∀ p∈F,okp p=true
noncomputable def own (F:List Pln) (v:V3):List Pln:=F.filter fun p=>U4 p v==0
noncomputable def kv (F:List Pln) (v:V3):Bool:=vtx (own F v)
theorem Pd5 (F:List Pln) (v:V3) (hF:F.length≤1000000):∃ j,lp (ia5 ⟨F,(F.length:Int),F,v.x,v.y,v.z⟩) ⟨0,0,0,[]⟩=(phP (own F v)+1,⟨phP (own F v),((j:Nat):Int),(own F v).length,bL tP (own F v)⟩):=by
 have key:=T1 (step:=ia5 ⟨F,(F.length:Int),F,v.x,v.y,v.z⟩) (mk:=fun j (o:List Pln)=>(⟨phP o,(j:Int),o.length,bL tP o⟩:l9)) F.length (fun j o=>j≤F.length∧o=(F.take j).filter fun p=>U4 p v==0) (fun t s=>t=phP (own F v)+1∧∃ j:Nat,s=⟨phP (own F v),(j:Int),(own F v).length,bL tP (own F v)⟩) (by omega)
  (fun j o hj hi=>by
   obtain⟨_,hi⟩:=hi
   have hlen:o.length≤1000000:=by
    rw[hi]
    have h1:=List.length_filter_le (fun p=>U4 p v==0) (F.take j)
    have h2:=List.length_take_le j F
    omega
   have hn:=y7 hj (show F.length≤4611686018427387904 by omega)
   have hb:=i5 hj
   have hT:(F.take (j+1)).filter (fun p=>U4 p v==0)=o++(if (U4 (gL tP F j) v==0)=true then [gL tP F j] else []):=by
    rw[Ea3 tP hj,List.filter_append,← hi,List.filter_cons,List.filter_nil]
   have hnext : ∀ {s : l9} {o' : List Pln}, o' = (F.take (j + 1)).filter (fun p => U4 p v == 0) → s = ⟨phP o', ((j + 1 : Nat) : Int), o'.length, bL tP o'⟩ → Nx (.next s) (fun t => t = phP (own F v) + 1 ∧ ∃ j' : Nat, (⟨phP o, (j : Int), o.length, bL tP o⟩ : l9) = ⟨phP (own F v), (j' : Int), (own F v).length, bL tP (own F v)⟩)
     (fun s=>∃ o',s=(⟨phP o',((j+1:Nat):Int),o'.length,bL tP o'⟩:l9)∧(j+1≤F.length∧o'=(F.take (j+1)).filter fun p=>U4 p v==0)):=fun {s o'} ho' hs=>.nx ⟨o',hs,by omega,ho'⟩
   clear hi
   cases o with
   | nil =>
    show Nx (G3 Stp.next Stp.exit Stp.fail _ _) _ _
    simp only[G3,Int.toNat_natCast,Ub7,Ub8,hn,hb]
    rw[btD (l5 hj)]
    cases hs:U4 (gL tP F j) v==0 with
    | true=>exact hnext (o':=[gL tP F j]) (by rw[hT,hs];rfl) rfl
    | false=>exact hnext (o':=[]) (by rw[hT,hs];rfl) rfl
   | cons q o =>
    have rr:(Nat.beq (q::o).length (len (bL tP (q::o)))&&Nat.ble (((q::o).length+1)*32) room)=true:=jb7 rfl (by omega)
    have ap:∀ (O:List Pln) (p:Pln),app (bL tP O) [[i p.n.x,i p.n.y,i p.n.z,i p.b]]=bL tP (O++[p]):=fun O p=>Ua1 tP O [p]
    show Nx (G4 Stp.next Stp.exit Stp.fail _ _) _ _
    simp only[G4,Int.toNat_natCast,Ub7,Ub8,hn,hb,rr,ap]
    rw[btD (l5 hj)]
    cases hs:U4 (gL tP F j) v==0 with
    | true=>exact hnext (o':=q::o++[gL tP F j]) (by rw[hT,hs];rfl) (by rw[List.length_append];rfl)
    | false=>exact hnext (o':=q::o) (by rw[hT,hs,if_neg (by simp),List.append_nil]) rfl)
  (fun j o hj hi=>by
   obtain⟨h1,hi⟩:=hi
   have e:j=F.length:=by omega
   subst e
   have hO:o=own F v:=by rw[hi,List.take_length];rfl
   rw[← hO]
   cases o with
   | nil =>
    refine⟨1,?_,rfl,F.length,rfl⟩
    show G3 Stp.next Stp.exit Stp.fail _ _=_
    simp only[G3]
    rw[bfD (p5 (Nat.lt_irrefl _))]
   | cons q o =>
    refine⟨2,?_,rfl,F.length,rfl⟩
    show G4 Stp.next Stp.exit Stp.fail _ _=_
    simp only[G4]
    rw[bfD (p5 (Nat.lt_irrefl _))]) 0 [] ⟨Nat.zero_le _,by simp⟩
 obtain⟨t,s,h1,rfl,j,rfl⟩:=key
 exact⟨j,h1⟩
theorem bd8 (v:V3) (F:List Pln) (hF:OkF F):S5 ⟨v.x,v.y,v.z,F⟩=⟨1,!kv F v,F⟩:=by
 obtain⟨j,h⟩:=Pd5 F v hF.l
 have hv:∀ p∈own F v,okp p=true:=fun p hp=>hF.v p (List.mem_filter.1 hp).1
 have hl:(own F v).length≤1000000:=Nat.le_trans (List.length_filter_le _ _) hF.l
 unfold S5 aa9 kv
 simp only[p9,l7]
 rw[h]
 cases ho:own F v with
 | nil =>
  have e:na1 []=vtx []:=pd8 [] (fun p hp=>by cases hp) (by simp)
  have e':na2 []=true:=pd9 [] (fun p hp=>by cases hp) (by simp)
  rw[e,e']
  rfl
 | cons q o =>
  rw[ho] at hv hl
  simp only[db6,mb4,pd8 _ hv hl,pd9 _ hv hl]
  rfl
theorem Be6 {α:Type} {l:List α} {n:Nat} {c:α→Bool} (h:(l.take n).any c=true):(l.take n).findIdx c < (l.take n).length:=by
 rw[List.any_eq_true] at h
 obtain⟨p,hp,hc⟩:=h
 exact List.findIdx_lt_length_of_exists ⟨p,hp,hc⟩
theorem ve8 (l:List V3) (n:Nat) (X:List Pln) (hn:n≤l.length) (hl:l.length≤1000000000) (hX:OkF X):W5 ⟨n,bL tV l,X⟩=⟨1,if (l.take n).any (fun p=>!kv X p) then (((l.take n).findIdx (fun p=>!kv X p):Nat):Int) else -1,X⟩:=by
 have hlen:(l.take n).length=n:=by rw[List.length_take];omega
 have h:=Ra2 (step:=G5 ⟨n,(n:Int),bL tV l⟩) (mk:=fun j=>(⟨(j:Int),X⟩:o8)) (c:=fun p=>!kv X p) (u:=1) (fin:=2) tV (l.take n) (by omega)
  (fun j hj=>by
   rw[hlen] at hj
   have hj':j < l.length:=by omega
   simp only[G5,E2,Int.toNat_natCast,p9,l7,Dc6 hj',ec0 hj',bd8 _ _ hX,Dc8 tV l hj,y7 hj (show n≤4611686018427387904 by omega)]
   rw[btD (l5 hj),bt (i5 hj)]
   rfl)
  (by rw[hlen];simp only[G5,E2];rw[bfD (p5 (Nat.lt_irrefl _))]) 0 (Nat.zero_le _)
 rw[List.drop_zero,hlen] at h
 unfold W5 E9
 simp only[p9,l7]
 rw[show (⟨0,X⟩:o8)=⟨((0:Nat):Int),X⟩ from rfl,h]
 cases ha:(l.take n).any fun p=>!kv X p with
 | false=>rfl
 | true =>
  have hf:=Be6 ha
  rw[hlen] at hf
  simp only[if_true,Nat.zero_add,Int.toNat_natCast,ec0 (show (l.take n).findIdx (fun p=>!kv X p) < l.length by omega),bd8 _ _ hX,p9]
  rfl
structure ve9 (l:List V3) (n:Nat) (f:V3→Bool) (cur:List V3) (m j:Nat):Prop where
 len:cur.length=l.length
 t:cur.take m=(l.take j).filter f
 d:cur.drop j=l.drop j
 le:m≤j
 lm:m≤n
theorem bd9 (l : List V3) (n : Nat) (hnl : n ≤ l.length) (X : List Pln) (hl : l.length ≤ 1000000000) (hX : OkF X) (m j : Nat) (cur : List V3) (hd : ve9 l n (kv X) cur m j) (hjn : j ≤ n) :
  ∃ t s,lp (B0 ⟨n⟩) ⟨(m:Int),(j:Int),bL tV cur,X⟩=(t,s)∧(t=1∧∃ m' cur',s=⟨((m':Nat):Int),((n:Nat):Int),bL tV cur',X⟩∧ve9 l n (kv X) cur' m' n):=by
 refine T1 (step:=B0 ⟨n⟩) (mk:=fun j (x:Nat×List V3)=>(⟨(x.1:Int),(j:Int),bL tV x.2,X⟩:r6)) n (fun j x=>ve9 l n (kv X) x.2 x.1 j∧j≤n) (fun t s=>t=1∧∃ m' cur',s=⟨((m':Nat):Int),((n:Nat):Int),bL tV cur',X⟩∧ve9 l n (kv X) cur' m' n) (by omega) (fun j x hj hx=>?_) (fun j x hj hx=>?_) j (m,cur) ⟨hd,hjn⟩
 ·obtain⟨m,cur⟩:=x
  obtain⟨⟨h1,h2,h3,h4,h5⟩,_⟩:=hx
  simp only at h1 h2 h3 h4 h5
  have hjc:j < cur.length:=by omega
  have hmc:m < cur.length:=by omega
  have hg:gL tV cur j=gL tV l j:=dc6 tV h3
  have hWm:W ((m:Int)+1)=((m+1:Nat):Int):=by rw[U3 (by omega) (by omega)];omega
  have hb:Nat.blt m cur.length=true:=by rw[Nat.blt_eq];exact hmc
  have hrow:i7 (bL tV cur) m=tV.row (gL tV cur m):=R2 tV hmc
  have sp:∀ (v:V3) (x1 x2 x3:Int),P7 (tV.row v) 0 [i x1,i x2,i x3]=tV.row ⟨x1,x2,x3⟩:=fun _ _ _ _=>rfl
  have rl:∀ v:V3,Nat.ble (0+3) (len (tV.row v))=true:=fun _=>rfl
  simp only[B0,E3,Int.toNat_natCast,p9,l7,Dc6 hjc,ec0 hjc,bd8 _ _ hX,y7 hj (show n≤4611686018427387904 by omega),hWm]
  rw[btD (l5 hj),bt (i5 hj)]
  simp only[Nat.zero_add,hrow,Ba3,hb,sp,Ka6,i5 (show m < n by omega),hg]
  have ht:=Ea3 tV (show j < l.length by omega)
  have hd1:cur.drop (j+1)=l.drop (j+1):=Tb3 h3 1
  cases hk:kv X (gL tV l j) with
  | true =>
   refine .nx ⟨(m+1,cur.set m (gL tV l j)),rfl,⟨by rw[List.length_set];exact h1,?_,?_,by omega,by show m+1≤n;omega⟩,by omega⟩
   ·show (cur.set m (gL tV l j)).take (m+1)=_
    rw[ht,List.filter_append,List.take_succ_eq_append_getElem (by rw[List.length_set];exact hmc),List.getElem_set_self,List.take_set_of_le (Nat.le_refl _),h2,List.filter_cons,hk,if_pos rfl,List.filter_nil]
   ·show (cur.set m (gL tV l j)).drop (j+1)=_
    rw[List.drop_set_of_lt (by omega),hd1]
  | false =>
   refine .nx ⟨(m,cur),rfl,⟨h1,?_,hd1,by omega,h5⟩,by omega⟩
   show cur.take m=_
   rw[ht,List.filter_append,h2,List.filter_cons,hk,if_neg (by simp),List.filter_nil,List.append_nil]
 ·obtain⟨m,cur⟩:=x
  obtain⟨hx,hjn⟩:=hx
  have e:j=n:=by omega
  subst e
  refine⟨1,?_,rfl,m,cur,rfl,hx⟩
  simp only[B0,E3]
  rw[bfD (by omega)]
theorem Ad9 (l : List V3) (n : Nat) (hnl : n ≤ l.length) (X : List Pln) (hl : l.length ≤ 1000000000) (hX : OkF X) :
  ∃ m r,W8 ⟨n,bL tV l,X⟩=⟨1,m,bL tV r,X⟩∧m≤r.length∧r.take m=(l.take n).filter (kv X):=by
 have hlen:(l.take n).length=n:=by rw[List.length_take];omega
 unfold W8 F4
 simp only[p9,l7,ve8 l n X hnl hl hX]
 cases ha:(l.take n).any fun p=>!kv X p with
 | false =>
  refine⟨n,l,rfl,hnl,?_⟩
  symm
  rw[List.filter_eq_self]
  intro p hp
  have:=List.any_eq_false.1 ha p hp
  simpa using this
 | true =>
  have hf:=Be6 ha
  have hk:kv X (gL tV (l.take n) ((l.take n).findIdx fun p=>!kv X p))=false:=by
   have:=List.findIdx_getElem (xs:=l.take n) (p:=fun p=>!kv X p) (w:=hf)
   rw[wb8 tV hf]
   simpa using this
  have ht:=Tb2 (fun p=>!kv X p) (l.take n)
  simp only[Bool.not_not] at ht
  generalize hF:(l.take n).findIdx (fun p=>!kv X p)=F at *
  rw[hlen] at hf
  rw[Dc8 tV l hf] at hk
  rw[List.take_take,Nat.min_eq_left (by omega)] at ht
  have hW:W ((F:Int)+1)=((F+1:Nat):Int):=y7 hf (by omega)
  have hne:((F:Int)==-1)=false:=by rw[beq_eq_false_iff_ne];omega
  obtain⟨t,s,e1,rfl,m,cur,e2,e3⟩:=bd9 l n hnl X hl hX F (F+1) l ⟨rfl,by rw[Ea3 tV (show F < l.length by omega),List.filter_append,ht,List.filter_cons,hk,if_neg (by simp),List.filter_nil,List.append_nil],rfl,by omega,by omega⟩ (by omega)
  have hm:m≤n:=e3.lm
  have hin:inB (m:Int) (n+1)=true:=i5 (by omega)
  simp only[if_true,hW,hne,e1,e2,Int.toNat_natCast,hin,Nat.zero_add,Nat.sub_zero]
  refine⟨m,cur.take m++(List.replicate (n - m) ⟨0,0,0⟩++cur.drop (m+(n - m))),?_,?_,?_⟩
  ·rw[pd0,pd1,Dc7,Ua1,Ua1]
   rfl
  ·rw[List.length_append,List.length_append,List.length_take,List.length_replicate,e3.len];omega
  ·rw[List.take_append_of_le_length (by rw[List.length_take,e3.len];omega),List.take_take,Nat.min_self,e3.t]
noncomputable def ga4 (F:List Pln) (l:List V3):List V3:=(dis l).filter (kv F)
theorem cd0 (a:V3) (l:List V3) (hl:l.length≤1000000):∃ m r,sa9 (a,l)=⟨1,m,bL tV r⟩∧m≤r.length∧r.take m=dis (a::l)∧r.length≤1000000000:=by
 obtain⟨m,r,k1,k2,k3,k4⟩:=Ub6 a l hl
 have hok:okL tV (l.length+1) (fun k=>tV.row (gL tV (a::l) k))=true:=Ta9 tV (f:=fun k=>gL tV (a::l) k) fun _ _=>rfl
 have hr:=pd3 (a::l) (by simp only[List.length_cons];omega) []
 rw[List.append_nil] at hr
 unfold sa9 ba0
 simp only[Ed0,Ed1,Sc9 a l hl,hok,k1,y9,Nat.beq_refl,hr]
 exact⟨m,r,rfl,k2,k3,by omega⟩
end Go.Ev.Ce
namespace Go.Ev.Ce
open Go Go.Ev Go.Ev.L Go.Proofs Go.Sort
theorem Pd6 (l:List V3) (a c k:Nat) (s:List Pln) (p:Pln):p∈Hb0 l a c s k↔p∈s∨((C8 (gL tV l k) (gL tV l c) (gL tV l a)).2=true∧(p=(C8 (gL tV l k) (gL tV l c) (gL tV l a)).1∨p=da2 (C8 (gL tV l k) (gL tV l c) (gL tV l a)).1)):=by
 unfold Hb0
 generalize C8 (gL tV l k) (gL tV l c) (gL tV l a)=T
 cases h2:T.2 with
 | false=>simp
 | true=>simp only[if_true,fe2,true_and,or_assoc]
theorem Ke0 (l:List V3) (p:Pln):p∈G0 l↔∃ a,a < l.length∧∃ c,c < a∧∃ k,k < c∧((C8 (gL tV l k) (gL tV l c) (gL tV l a)).2=true∧(p=(C8 (gL tV l k) (gL tV l c) (gL tV l a)).1∨p=da2 (C8 (gL tV l k) (gL tV l c) (gL tV l a)).1)):=by
 have h:p∈G0 l↔p∈[]∨_:=Ya9 (fun o a p=>Ya9 (fun o c p=>Ya9 (fun o k p=>Pd6 l a c k o p) o p c) o p a) [] p l.length
 rw[h]
 simp only[List.not_mem_nil,false_or]
theorem cd1 {f:List Pln→Nat→List Pln} (h:∀ o k,o.Nodup→(f o k).Nodup) {o:List Pln} (ho:o.Nodup):∀ n,((List.range n).foldl f o).Nodup
 | 0=>ho
 | n+1=>by rw[H9];exact h _ _ (cd1 h ho n)
theorem fe4 (l:List V3):(G0 l).Nodup:=cd1 (fun o a ho=>cd1 (fun o c ho=>cd1 (fun o k ho=>by
 show (Hb0 l a c o k).Nodup
 unfold Hb0
 split
 ·exact Ec1 (Ec1 ho)
 ·exact ho) ho c) ho a) List.nodup_nil l.length
theorem we0 {l:List V3} (hl:l.all inV=true) (p:Pln):p∈fil l (G0 l)↔oc4 l p:=by
 have hin:=List.all_eq_true.1 hl
 have hb:(!bey l p)=hold p l:=rfl
 unfold fil
 rw[List.mem_filter,Ke0,hb]
 constructor
 ·rintro⟨⟨a,ha,c,hc,k,hk,h1,h2⟩,h3⟩
  have ma:=gLm ha
  have mc:=gLm (show c < l.length by omega)
  have mk:=gLm (show k < l.length by omega)
  have ht:=(pa1 h1).2
  rcases h2 with rfl | rfl
  ·exact bd1 mk mc ma ht ((jb6 ht.ok hl).1 h3)
  ·exact Dc5 mk mc ma ht ((jb6 (Tb9 ht.ok) hl).1 h3)
 ·intro h
  obtain⟨u,w,x,hu,hw,hx,h3,t1,t2,t3⟩:=h.on
  obtain⟨a,ha,c,hc,k,hk,hn,hall⟩:=ue3 hu hw hx h3
  obtain⟨i1,i2,i3⟩:=hall (fun v=>inV v=true) (hin u hu) (hin w hw) (hin x hx)
  obtain⟨e1,e2,e3⟩:=hall (fun v=>dot p.n v=p.b) t1 t2 t3
  have h2:=Za0 i3 i2 i1 (ee0 hn).2.2.1
  exact⟨⟨a,ha,c,hc,k,hk,h2,Dc4 (pa1 h2).2 h.ok e3 e2 e1⟩,(jb6 h.ok hl).2 h.hd⟩
theorem Cb6 {l r:List V3} (h:∀ v,v∈r↔v∈l) {p:Pln} (hp:oc4 l p):oc4 r p:=by
 obtain⟨⟨hd,u,w,x,hu,hw,hx,e⟩,ok⟩:=hp
 exact⟨⟨fun v hv=>hd v ((h v).1 hv),u,w,x,(h u).2 hu,(h w).2 hw,(h x).2 hx,e⟩,ok⟩
theorem Bd0 {l:List Pln} (h:l.Nodup):Pa2 (Fb3 l):=by
 have h1:=ad4 l
 have h2:(Fb3 l).Nodup:=(Cc3 l).nodup_iff.2 h
 have h3:=h1.and h2
 refine h3.imp fun {x y} ⟨k1,k2⟩=>?_
 rw[Ga5] at k1
 have k1:¬ LtP y x:=by simpa using k1
 rcases Gd5 x y with h | h | h
 ·exact h
 ·exact absurd h k2
 ·exact absurd h k1
theorem we1 {l:List V3} (hl:l.all inV=true):(dis l).all inV=true:=List.all_eq_true.2 fun v hv=>List.all_eq_true.1 hl v ((Cb4 l v).1 hv)
theorem qd0 {l:List V3} (hl:l.all inV=true):Fb3 (fil (dis l) (G0 (dis l)))=F0 l:=by
 refine Cb1 (Bd0 ((fe4 (dis l)).filter _)) (Dc2 l) fun p=>?_
 rw[(Cc3 _).mem_iff,we0 (we1 hl),xa7 hl]
 exact⟨Cb6 fun v=>(Cb4 l v).symm,Cb6 (Cb4 l)⟩
theorem Te6 {l:List V3} (hl:l.all inV=true) (h4:Sol l):F0 l≠[]:=fun e=>by
 have h:=Cb2 h4 (Hd2 hl (c:=[]) fun p hp=>by rw[← xa7 hl,e] at hp;exact hp) (x:=⟨100,0,0,1⟩) ⟨by show (0:Int) < 1;omega,fun p hp=>by cases hp⟩ (h:=⟨⟨1,0,0⟩,24⟩) fun v hv=>by
  obtain⟨⟨a1,a2⟩,_,_⟩:=(Ea2 v).1 (List.all_eq_true.1 hl v hv)
  simp only[dot]
  omega
 simp only[rmZ] at h
 omega
theorem jb8 {l:List V3} (h48:l.length≤48) (hl:l.all inV=true) (h4:Sol l):Ha7 l=0:=by
 have hin:=List.all_eq_true.1 hl
 unfold Ha7
 rw[if_neg (by omega),if_neg (by rw[← List.not_all_eq_any_not,hl];simp)]
 have h1:(ixs l.length).any (sp1 l)=true:=by
  obtain⟨a,c,k,v,ha,hc,hk,hv,hd⟩:=h4
  obtain⟨i',hi,j',hj,k',hk',hn,hall⟩:=ue3 ha hc hk (Dc3 hd)
  obtain⟨i1,i2,i3⟩:=hall (fun v=>inV v=true) (hin _ ha) (hin _ hc) (hin _ hk)
  have ht:=Za0 i3 i2 i1 (ee0 hn).2.2.1
  have mem:∀ {n m:Nat},m < n→((m:Nat):Int)∈ixs n:=fun {n m} h=>List.mem_map.2 ⟨m,List.mem_range.2 h,rfl⟩
  refine List.any_eq_true.2 ⟨_,mem hi,?_⟩
  unfold sp1
  rw[Int.toNat_natCast]
  refine List.any_eq_true.2 ⟨_,mem hj,?_⟩
  unfold sp2
  rw[Int.toNat_natCast]
  refine List.any_eq_true.2 ⟨gL tV l k',?_,ht⟩
  rw[← Dc8 tV l hk']
  exact eb9 tV (by rw[List.length_take];omega)
 have h2:Gb9 l=false:=by
  unfold Gb9
  rw[if_pos h1]
  obtain⟨hi,k1⟩:=Cb5 h1
  have k1:(ixs (iF l)).any (sp2 l (iF l))=true:=k1
  obtain⟨hj,k2⟩:=Cb5 k1
  have k2:(l.take (jF l)).any (fun v=>(C8 v (gL tV l (jF l)) (gL tV l (iF l))).2)=true:=k2
  have hj:jF l < iF l:=hj
  have hi:iF l < l.length:=hi
  have hk:=bd3 k2
  have hk2:=List.findIdx_getElem (xs:=l.take (jF l)) (p:=fun v=>(C8 v (gL tV l (jF l)) (gL tV l (iF l))).2) (w:=hk)
  rw[← wb8 tV hk,Dc8 tV l (by rw[List.length_take] at hk;omega)] at hk2
  have hok:okp (plF l)=true:=(pa1 hk2).2.ok
  obtain⟨v,hv,hne⟩:=h4.off (Sc5 hok) (plF l).b
  rw[Bool.not_eq_false',List.any_eq_true]
  refine⟨v,hv,?_⟩
  have:U4 (plF l) v≠0:=fun e=>hne ((jb5 hok (hin v hv)).1 e)
  simpa using this
 rw[h2]
 rfl
theorem we2 (l r:List Pln) (n:Nat) (hn:n=l.length):(two (r1L tP) r1I).rd (.tup [.sl 0 0 n 0,i 0],[⟨73,4,bL tP (l++r),true,false,0⟩])=some (l,0):=by
 subst hn
 have h:(r1L tP).rd [⟨73,4,bL tP (l++r),true,false,0⟩] (.sl 0 0 l.length 0)=some l:=by
  show Bool.rec (motive:=fun _=>Option (List Pln)) none (some (slR tP (bL tP (l++r)) 0 l.length)) (Bool.and true (okS tP (bL tP (l++r)) 0 l.length))=_
  rw[be8 _ _ (by rw[List.length_append];omega),be9 _ _ (by rw[List.length_append];omega),List.take_left']
  ·rfl
  ·rfl
 simp only[two,h]
 rfl
theorem Pd7 (a:V3) (l:List V3) (h48:(a::l).length≤48) (hl:(a::l).all inV=true) (h4:Sol (a::l)):Rd (two (r1L tP) r1I) (ka6 (a,l)) (fun r=>r=(F0 (a::l),0)):=by
 have hc:=jb8 h48 hl h4
 have hdl:=sc3 (a::l)
 have hll:l.length≤1000000:=by simp only[List.length_cons] at h48;omega
 obtain⟨j,e⟩:=Je9 (dis (a::l)) (by omega)
 have hf:=qd0 hl
 have hne:fil (dis (a::l)) (G0 (dis (a::l)))≠[]:=fun e=>by
  rw[e] at hf
  have h0:Fb3 []=[]:=Od3
  rw[h0] at hf
  exact Te6 hl h4 hf.symm
 have hok:okL tV (l.length+1) (fun k=>tV.row (gL tV (a::l) k))=true:=Ta9 tV (f:=fun k=>gL tV (a::l) k) fun _ _=>rfl
 have hlen:(fil (dis (a::l)) (G0 (dis (a::l)))).length≤1000000:=by
  have h1:=bd5 (dis (a::l)) (G0 (dis (a::l)))
  have h2:(G0 (dis (a::l))).length≤_:=bd6 (dis (a::l)) (by omega) _ (Nat.le_refl _)
  omega
 unfold ka6
 simp only[p9,Ua0,l7,Ed0,Ed1,hok,Ec0 (a::l) (by omega),Dc9 (a::l) (by omega),hc,Ad3 a l hll,Ad4 a l hll,e]
 generalize fil (dis (a::l)) (G0 (dis (a::l)))=O at *
 cases O with
 | nil=>exact absurd rfl hne
 | cons q o =>
  have hr:(Bool.and (Nat.ble (q::o).length room) (Bool.and (Nat.ble (q::o).length (len (bL tP (q::o)))) (okS tP (bL tP (q::o)) 0 (q::o).length)))=true:=by
   rw[mb4,Ba3,Bool.and_eq_true,Bool.and_eq_true,Nat.ble_eq,Nat.ble_eq]
   refine⟨by unfold room;omega,Nat.le_refl _,rfl⟩
  simp only[phP,hr,db6,se8,Ua1,hf]
  exact⟨_,(F0 (a::l),0),rfl,we2 _ _ _ (by rw[← hf,Bb8]),rfl⟩
theorem fe5 {l:List V3} (hl:l.all inV=true) {v:V3} (hv:v∈l):kv (F0 l) v=true↔Spn (F0 l) v:=by
 have hin:=List.all_eq_true.1 hl
 have hs:∀ p∈F0 l,(U4 p v==0)=true↔dot p.n v=p.b:=fun p hp=>by rw[beq_iff_eq];exact jb5 (de9 hp).ok (hin v hv)
 unfold kv own
 rw[ve7]
 constructor
 ·rintro⟨p,q,s,hp,hq,hs',hw⟩
  rw[List.mem_filter] at hp hq hs'
  exact⟨p,q,s,hp.1,hq.1,hs'.1,hw,(hs p hp.1).1 hp.2,(hs q hq.1).1 hq.2,(hs s hs'.1).1 hs'.2⟩
 ·rintro⟨p,q,s,hp,hq,hs',hw,e1,e2,e3⟩
  exact⟨p,q,s,List.mem_filter.2 ⟨hp,(hs p hp).2 e1⟩,List.mem_filter.2 ⟨hq,(hs q hq).2 e2⟩,List.mem_filter.2 ⟨hs',(hs s hs').2 e3⟩,hw⟩
end Go.Ev.Ce
namespace Go.Ev.Ce
open Go Go.Ev Go.Ev.L Go.Proofs
structure B8 (v:V3):Prop where
 x:Sm 8 v.x
 y:Sm 8 v.y
 z:Sm 8 v.z
structure Mp (l:List V3):Prop where
 l4:4≤l.length
 l8:l.length≤8
 bd:∀ v∈l,Sm 11 v.x∧Sm 11 v.y∧Sm 11 v.z
 nf:nf0 l=true
theorem Mp.inV {l:List V3} (h:Mp l):l.all inV=true:=List.all_eq_true.2 fun v hv=>by
 obtain⟨h1,h2,h3⟩:=h.bd v hv
 exact (Ea2 v).2 ⟨h1.mono (by omega),h2.mono (by omega),h3.mono (by omega)⟩
theorem Te7 {l:List V3} (hl:l.all Ce.inV=true) (h4:Sol l):nf0 l=true:=by
 have hin:=List.all_eq_true.1 hl
 obtain⟨a,c,k,v,ha,hc,hk,hv,hd⟩:=h4
 obtain⟨i',hi,j',hj,k',hk',hn,hall⟩:=ue3 ha hc hk (Dc3 hd)
 obtain⟨i1,i2,i3⟩:=hall (fun v=>Ce.inV v=true) (hin _ ha) (hin _ hc) (hin _ hk)
 have ht:=Za0 i1 i2 i3 hn
 refine List.any_eq_true.2 ⟨i',List.mem_range.2 hi,List.any_eq_true.2 ⟨j',List.mem_range.2 hj,List.any_eq_true.2 ⟨k',List.mem_range.2 hk',?_⟩⟩⟩
 unfold nf Od7
 rw[ht,Bool.true_and,List.any_eq_true]
 have hok:=(pa1 ht).2.ok
 obtain⟨w,hw,hne⟩:=Sol.off ⟨a,c,k,v,ha,hc,hk,hv,hd⟩ (Sc5 hok) (C8 (gL tV l i') (gL tV l j') (gL tV l k')).1.b
 refine⟨w,hw,?_⟩
 have:U4 (C8 (gL tV l i') (gL tV l j') (gL tV l k')).1 w≠0:=fun e=>hne ((jb5 hok (hin w hw)).1 e)
 simpa using this
theorem fe6 {l:List V3} (h4:4≤l.length) (h8:l.length≤8) (hb:∀ v∈l,B8 v) (hf:nf0 l=true):Mp l:=⟨h4,h8,fun v hv=>⟨(hb v hv).x.mono (by omega),(hb v hv).y.mono (by omega),(hb v hv).z.mono (by omega)⟩,hf⟩
theorem Ke1 {l:List V3} (h4:4≤l.length) (h8:l.length≤8) (hb:∀ v∈l,B8 v):Mp (((l.set 1 ⟨W ((gL tV l 0).x - 3),(gL tV l 0).y,(gL tV l 0).z⟩).set 2 ⟨(gL tV l 0).x,W ((gL tV l 0).y - 2),(gL tV l 0).z⟩).set 3 ⟨(gL tV l 0).x,(gL tV l 0).y,W ((gL tV l 0).z - 1)⟩):=by
 match l,h4,h8,hb with
 | a::b::c::d::l,h4,h8,hb =>
  have ha:=hb a List.mem_cons_self
  have g0:gL tV (a::b::c::d::l) 0=a:=rfl
  rw[g0]
  obtain⟨x1,x2⟩:=ha.x;obtain⟨y1,y2⟩:=ha.y;obtain⟨z1,z2⟩:=ha.z
  rw[U3 (n:=a.x - 3) (by omega) (by omega),U3 (n:=a.y - 2) (by omega) (by omega),U3 (n:=a.z - 1) (by omega) (by omega)]
  show Mp (a::⟨a.x - 3,a.y,a.z⟩::⟨a.x,a.y - 2,a.z⟩::⟨a.x,a.y,a.z - 1⟩::l)
  have bd:∀ v∈(a::⟨a.x - 3,a.y,a.z⟩::⟨a.x,a.y - 2,a.z⟩::⟨a.x,a.y,a.z - 1⟩::l:List V3),Sm 11 v.x∧Sm 11 v.y∧Sm 11 v.z:=fun v hv=>by
   simp only[List.mem_cons] at hv
   unfold Sm
   rcases hv with rfl | rfl | rfl | rfl | hv
   ·omega
   ·simp only;omega
   ·simp only;omega
   ·simp only;omega
   ·have:=hb v (by simp[hv])
    obtain⟨⟨k1,k2⟩,⟨k3,k4⟩,k5,k6⟩:=this
    omega
  refine⟨by simp only[List.length_cons];omega,by simp only[List.length_cons] at h8 ⊢;omega,bd,Te7 (List.all_eq_true.2 fun v hv=>?_) ?_⟩
  ·obtain⟨h1,h2,h3⟩:=bd v hv
   exact (Ea2 v).2 ⟨h1.mono (by omega),h2.mono (by omega),h3.mono (by omega)⟩
  ·refine⟨a,⟨a.x - 3,a.y,a.z⟩,⟨a.x,a.y - 2,a.z⟩,⟨a.x,a.y,a.z - 1⟩,by simp,by simp,by simp,by simp,?_⟩
   have e:dot (N3 a ⟨a.x - 3,a.y,a.z⟩ ⟨a.x,a.y - 2,a.z⟩) (A3 ⟨a.x,a.y,a.z - 1⟩ a)=-6:=by simp only[dot,N3,d8,A3];grind
   rw[e];decide
theorem fe7 (x : List Int) (N : Nat) (h4 : 4 ≤ N) (h8 : N ≤ 8) (j0 : Int) (hj0 : 0 ≤ j0 ∧ j0 ≤ 10) :
  ∃ idx out,lp (ea2 ⟨(N:Int)⟩) ⟨0,0,x,j0,0,[]⟩=(2,⟨1,(N:Int),x,idx,N,bL tV out⟩)∧out.length=N∧∀ v∈out,B8 v:=by
 have key:=T1 (step:=ea2 ⟨(N:Int)⟩) (mk:=fun j (a:Int×List V3)=>(⟨phV a.2,(j:Int),x,a.1,a.2.length,bL tV a.2⟩:p7)) N
  (fun j a=>a.2.length=j∧0≤a.1∧a.1≤10+4*j∧j≤N∧∀ v∈a.2,B8 v) (fun t s=>t=2∧∃ idx out,s=⟨1,(N:Int),x,idx,N,bL tV out⟩∧out.length=N∧∀ v∈out,B8 v) (by omega) (fun j a hj ha=>?_) (fun j a hj ha=>?_) 0 (j0,[]) ⟨rfl,hj0.1,by omega,by omega,fun v hv=>by cases hv⟩
 ·obtain⟨t,s,e1,rfl,idx,out,e2,e3⟩:=key
  exact⟨idx,out,by rw[← e2];exact e1,e3.1,e3.2⟩
 ·obtain⟨at0,out⟩:=a
  obtain⟨ho,ha1,ha2,_,hB⟩:=ha
  simp only at ho ha1 ha2 hB
  have hn:=y7 hj (show N≤4611686018427387904 by omega)
  obtain⟨v1,j1,d1,p1,q1,c1,b1⟩:=Ja9 17 x at0 ha1 (by omega) (by omega) (by omega)
  obtain⟨v2,j2,d2,p2,q2,c2,b2⟩:=Ja9 17 x j1 (by omega) (by omega) (by omega) (by omega)
  obtain⟨v3,j3,d3,p3,q3,c3,b3⟩:=Ja9 17 x j2 (by omega) (by omega) (by omega) (by omega)
  obtain⟨v4,j4,d4,_,_,c4,b4⟩:=Ja9 6 x j3 (by omega) (by omega) (by omega) (by omega)
  have s1:Sm 8 (W (v1 - 8)):=by unfold Sm;rw[U3 (by omega) (by omega)];omega
  have s2:Sm 8 (W (v2 - 8)):=by unfold Sm;rw[U3 (by omega) (by omega)];omega
  have s3:Sm 8 (W (v3 - 8)):=by unfold Sm;rw[U3 (by omega) (by omega)];omega
  have leaf : ∀ (E : Nat → Prop) (x1 x2 x3 : Int), Sm 8 x1 → Sm 8 x2 → Sm 8 x3 → Nx (.next (⟨1, ((j + 1 : Nat) : Int), x, j4, j + 1, bL tV (out ++ [⟨x1, x2, x3⟩])⟩ : p7)) E
    (fun s=>∃ a':Int×List V3,s=⟨phV a'.2,((j+1:Nat):Int),x,a'.1,a'.2.length,bL tV a'.2⟩∧a'.2.length=j+1∧0≤a'.1∧a'.1≤10+4*((j+1:Nat):Int)∧j+1≤N∧∀ v∈a'.2,B8 v):=fun E x1 x2 x3 k1 k2 k3=>by
   have hl:(out++[(⟨x1,x2,x3⟩:V3)]).length=j+1:=by simp[ho]
   exact .nx ⟨(j4,out++[⟨x1,x2,x3⟩]),by simp only[rc9,hl],hl,by show 0≤j4;omega,by show j4≤_;omega,by omega,fun v hv=>by
    rcases List.mem_append.1 hv with h | h
    ·exact hB v h
    ·rw[List.mem_singleton.1 h];exact⟨k1,k2,k3⟩⟩
  cases out with
  | nil =>
   have hj0':j=0:=by simpa using ho.symm
   subst hj0'
   show Nx (R5 Stp.next Stp.exit Stp.fail _ _) _ _
   simp only[R5,p9,l7,d1,d2,d3,d4,hn]
   rw[btD (l5 hj)]
   have f1:decide (((0:Nat):Int) > 1)=false:=rfl
   have f2:decide (((0:Nat):Int) > 0)=false:=rfl
   have f3:decide (((0:Nat):Int) > 2)=false:=rfl
   have lf:∀ (E:Nat→Prop) (x1 x2 x3:Int),Sm 8 x1→Sm 8 x2→Sm 8 x3→Nx (.next (⟨1,((0+1:Nat):Int),x,j4,1,[[i x1,i x2,i x3]]⟩:p7)) E _:=leaf
   simp only[f1,f2,f3,Ta8,Nat.beq_refl,Bool.and_true,y9]
   refine Nx.sl (fun _=>?_) (fun _=>?_)<;>refine Nx.sl (fun _=>?_) (fun _=>?_)
   all_goals first
    | exact lf _ _ _ _ (by assumption) (by assumption) (by assumption)
    | (refine Nx.sl (fun _=>?_) (fun _=>?_)<;>exact lf _ _ _ _ (by assumption) (by assumption) (by assumption))
  | cons o os =>
   have h1:1≤j:=by simp only[List.length_cons] at ho;omega
   generalize hO:o::os=O at *
   have hph:phV O=1:=by subst hO;rfl
   have w1:W ((j:Int) - 1)=((j - 1:Nat):Int):=by rw[U3 (by omega) (by omega)];omega
   have i1:inB ((j - 1:Nat):Int) j=true:=i5 (by omega)
   have r1:=se6 (l:=O) (m:=j - 1) (by omega)
   have r1':=Be3 (l:=O) (m:=j - 1) (by omega)
   have rr:=nd8 ho (by omega)
   have gx:∀ m,m < O.length→Sm 8 (toI (hdA (g8 (i7 (bL tV O) (0+m)) 0)))∧Sm 8 (toI (hdA (tlA (g8 (i7 (bL tV O) (0+m)) 0))))∧Sm 8 (toI (hdA (tlA (tlA (g8 (i7 (bL tV O) (0+m)) 0)))))∧Sm 8 (toI (hdA (g8 (i7 (bL tV O) (0+m)) 2))):=fun m hm=>by
    rw[Nat.zero_add,R2 tV hm]
    have:=hB _ (eb9 tV hm)
    exact⟨this.x,this.y,this.z,this.z⟩
   have md:∀ {A C:Int},Sm 8 A→Sm 8 C→Sm 8 (W (Int.tdiv (W (A+C)) 2)):=fun {A C} ⟨h1,h2⟩ ⟨h3,h4⟩=>by
    unfold Sm
    rw[U3 (n:=A+C) (by omega) (by omega)]
    obtain⟨m1,m2,m3⟩:=nd7 (x:=A+C) (y:=2) (by omega)
    rw[U3 (by omega) (by omega)]
    omega
   obtain⟨gx1,gy1,gz1,gw1⟩:=gx (j - 1) (by omega)
   have f2:∀ {inst:Decidable ((j:Int) > 0)},@decide ((j:Int) > 0) inst=true:=decide_eq_true (by omega)
   show Nx (sel (Nat.beq (phV O) 1) (p4 Stp.next Stp.exit Stp.fail _ _) _) _ _
   rw[hph]
   show Nx (p4 Stp.next Stp.exit Stp.fail _ _) _ _
   by_cases h2:2≤j
   ·have w2:W ((j:Int) - 2)=((j - 2:Nat):Int):=by rw[U3 (by omega) (by omega)];omega
    have i2:inB ((j - 2:Nat):Int) j=true:=i5 (by omega)
    have r2:=se6 (l:=O) (m:=j - 2) (by omega)
    obtain⟨gx2,gy2,gz2,gw2⟩:=gx (j - 2) (by omega)
    have mx:=md gx1 gx2
    have my:=md gy1 gy2
    have mz:=md gz1 gz2
    simp only[p4,p9,l7,d1,d2,d3,d4,hn,ho,w1,w2,i1,i2,Int.toNat_natCast,r1,r1',r2,rr,Tb1]
    rw[btD (l5 hj)]
    simp only[Nat.beq_refl,Bool.and_true,y9]
    repeat' (first | exact leaf _ _ _ _ (by assumption) (by assumption) (by assumption) | refine Nx.sl (fun _=>?_) (fun _=>?_))
   ·have hj1:j=1:=by omega
    subst hj1
    simp only[p4,p9,l7,d1,d2,d3,d4,hn,ho,w1,i1,Int.toNat_natCast,r1,r1',rr,Tb1]
    have f1:decide (((1:Nat):Int) > 1)=false:=rfl
    rw[btD (l5 hj)]
    simp only[f1,Ta8,Nat.beq_refl,Bool.and_true,y9]
    repeat' (first | exact leaf _ _ _ _ (by assumption) (by assumption) (by assumption) | refine Nx.sl (fun _=>?_) (fun _=>?_))
 ·obtain⟨at0,out⟩:=a
  obtain⟨ho,ha1,ha2,hjN,hB⟩:=ha
  simp only at ho ha1 ha2 hB
  have hj':j=N:=by omega
  subst hj'
  cases out with
  | nil=>simp only[List.length_nil] at ho;omega
  | cons o os =>
   refine⟨2,?_,rfl,at0,o::os,by rw[ho];rfl,ho,hB⟩
   show p4 Stp.next Stp.exit Stp.fail _ _=_
   simp only[p4]
   rw[bfD (by omega)]
theorem Pd8 (x:List Int):Rd (one (r1L tV)) (ka2 x) Mp:=by
 obtain⟨v,j,e1,a1,b1,c1,d1⟩:=Ja9 5 x 0 (by omega) (by omega) (by omega) (by omega)
 have hN:W (4+v)=(((4+v).toNat:Nat):Int):=by rw[U3 (by omega) (by omega)];omega
 obtain⟨idx,out,e2,e3,hB⟩:=fe7 x (4+v).toNat (by omega) (by omega) j (by omega)
 unfold ka2
 simp only[p9,l7,e1,hN,e2]
 have h4:4≤(4+v).toNat:=by omega
 have h8:(4+v).toNat≤8:=by omega
 generalize (4+v).toNat=N at *
 have s1:lsL tV N (fun k=>i7 (bL tV out) (0+k))=out:=by rw[← e3];exact db6 tV out
 have s2:okL tV N (fun k=>i7 (bL tV out) (0+k))=true:=by rw[← e3];exact mb4 tV out
 have gf:Ga8 out=true:=be6 out (by omega)
 rw[s1,s2,gf,Ie7 out (by omega)]
 simp only[Nat.beq_refl,Bool.and_true,y9,show Nat.beq 2 1=false from rfl,Ta8]
 refine Rd.sl (fun _=>?_) fun hnf=>ad3 e3.symm rfl (fe6 (by omega) (by omega) hB (by simpa using hnf))
 have i0:inB 0 N=true:=i5 (j:=0) (by omega)
 have i1:inB 1 N=true:=i5 (j:=1) (by omega)
 have i2:inB 2 N=true:=i5 (j:=2) (by omega)
 have i3:inB 3 N=true:=i5 (j:=3) (by omega)
 have sp:∀ (v:V3) (x1 x2 x3:Int),P7 (tV.row v) 0 [i x1,i x2,i x3]=tV.row ⟨x1,x2,x3⟩:=fun _ _ _ _=>rfl
 have rl:∀ v:V3,Nat.ble (0+3) (len (tV.row v))=true:=fun _=>rfl
 have ck:∀ v:V3,ba3 [(CK.int .i64),(CK.int .i64),(CK.int .i64)] (g8 (tV.row v) 0)=true:=fun _=>rfl
 have gr:∀ (l:List V3) (k:Nat),l.length=N→k < 4→i7 (bL tV l) k=tV.row (gL tV l k):=fun l k hl hk=>R2 tV (by omega)
 have bl:∀ (l:List V3) (k:Nat),l.length=N→k < 4→Nat.blt k (len (bL tV l))=true:=fun l k hl hk=>by rw[Ba3,Nat.blt_eq];omega
 have ls:∀ (l:List V3) (k:Nat) (v:V3),l.length=N→(l.set k v).length=N:=fun l k v hl=>by rw[List.length_set];exact hl
 rw[gr out 0 e3 (by omega),gr out 1 e3 (by omega)]
 simp only[sp,Ka6]
 rw[gr _ 2 (ls out 1 _ e3) (by omega)]
 simp only[sp,Ka6]
 rw[gr _ 3 (ls _ 2 _ (ls out 1 _ e3)) (by omega)]
 simp only[sp,Ka6,rl,ck,i0,i1,i2,i3,bl out 0 e3 (by omega),bl out 1 e3 (by omega),bl _ 2 (ls out 1 _ e3) (by omega),bl _ 3 (ls _ 2 _ (ls out 1 _ e3)) (by omega),Bool.and_true,y9]
 exact ad3 (by simp only[List.length_set];omega) rfl (Ke1 (by omega) (by omega) hB)
theorem ic4 (x:List Int):Mp (d9 x):=(Pd8 x).p
end Go.Ev.Ce
namespace Go.Ev.Ce
open Go Go.Ev Go.Ev.L Go.Proofs
theorem ec4 {l:List V3} (h:Ha7 l=0):l.length≤48∧l.all inV=true∧Sol l:=by
 unfold Ha7 at h
 split at h
 ·cases h
 rename_i h48
 split at h
 ·cases h
 rename_i hin
 split at h
 ·cases h
 rename_i hf
 have hl:l.all inV=true:=by
  rw[List.all_eq_true]
  intro v hv
  cases hi:inV v with
  | true=>rfl
  | false=>exact absurd (List.any_eq_true.2 ⟨v,hv,by rw[hi];rfl⟩) hin
 have hin2:=List.all_eq_true.1 hl
 refine⟨by omega,hl,?_⟩
 have hf:Gb9 l=false:=Bool.eq_false_iff.2 hf
 unfold Gb9 at hf
 split at hf
 ·rename_i h1
  obtain⟨hi,k1⟩:=Cb5 h1
  have k1:(ixs (iF l)).any (sp2 l (iF l))=true:=k1
  obtain⟨hj,k2⟩:=Cb5 k1
  have k2:(l.take (jF l)).any (fun v=>(C8 v (gL tV l (jF l)) (gL tV l (iF l))).2)=true:=k2
  have hj:jF l < iF l:=hj
  have hi:iF l < l.length:=hi
  have hk:=bd3 k2
  have hk2:=List.findIdx_getElem (xs:=l.take (jF l)) (p:=fun v=>(C8 v (gL tV l (jF l)) (gL tV l (iF l))).2) (w:=hk)
  rw[List.length_take] at hk
  rw[← wb8 tV (by rw[List.length_take];exact hk),Dc8 tV l (by omega)] at hk2
  have ht:=(pa1 hk2).2
  rw[Bool.not_eq_false',List.any_eq_true] at hf
  obtain⟨v,hv,hne⟩:=hf
  have hne:U4 (plF l) v≠0:=bne_iff_ne.1 hne
  have ht:Thr (gL tV l (kF l)) (gL tV l (jF l)) (gL tV l (iF l)) (plF l):=ht
  have hkl:kF l < l.length:=by
   have:kF l < min (jF l) l.length:=hk
   omega
  have hoff:dot (plF l).n v≠(plF l).b:=fun e=>hne ((jb5 ht.ok (hin2 v hv)).2 e)
  refine⟨_,_,_,v,gLm hkl,gLm (show jF l < l.length by omega),gLm hi,hv,fun h0=>hoff ?_⟩
  obtain⟨ok,⟨g,hg,e1,e2,e3⟩,o⟩:=ht
  have e:g*(dot (plF l).n v - (plF l).b)=dot (N3 (gL tV l (kF l)) (gL tV l (jF l)) (gL tV l (iF l))) (A3 v (gL tV l (kF l))):=by
   have e1:g*(plF l).n.x=(N3 (gL tV l (kF l)) (gL tV l (jF l)) (gL tV l (iF l))).x:=e1
   have e2:g*(plF l).n.y=(N3 (gL tV l (kF l)) (gL tV l (jF l)) (gL tV l (iF l))).y:=e2
   have e3:g*(plF l).n.z=(N3 (gL tV l (kF l)) (gL tV l (jF l)) (gL tV l (iF l))).z:=e3
   rw[o]
   simp only[dot]
   rw[← e1,← e2,← e3]
   simp only[A3]
   grind
  rw[h0] at e
  have:=(Int.mul_eq_zero.1 e).resolve_left (by omega)
  omega
 ·cases hf
noncomputable def Za1 (l:List V3):List Pln×Int:=if Ha7 l=0 then (F0 l,0) else ([],Ha7 l)
noncomputable def Db8 (l:List V3):List V3×Int:=if Ha7 l=0 then (ga4 (F0 l) l,0) else ([],Ha7 l)
theorem qd1 {l:List V3} (h48:l.length≤48) (hl:l.all inV=true):(F0 l).length≤1000000:=by
 have h1:=bd5 (dis l) (G0 (dis l))
 have hd:=sc3 l
 have h2:(G0 (dis l)).length≤_:=bd6 (dis l) (by omega) _ (Nat.le_refl _)
 rw[← qd0 hl,Bb8]
 omega
theorem ob3 (a:V3) (l:List V3) (hl:l.length≤900000):Rd (two (r1L tP) r1I) (ka6 (a,l)) (fun r=>r=Za1 (a::l)):=by
 by_cases h:Ha7 (a::l)=0
 ·obtain⟨h1,h2,h3⟩:=ec4 h
  unfold Za1
  rw[if_pos h]
  exact Pd7 a l h1 h2 h3
 ·have hll:(a::l).length≤1000000:=by simp only[List.length_cons];omega
  have hne:(Ha7 (a::l) != 0)=true:=bne_iff_ne.2 h
  unfold Za1 ka6
  rw[if_neg h]
  simp only[p9,Ua0,l7,Ec0 (a::l) hll,Dc9 (a::l) hll,hne,y9]
  exact⟨_,([],Ha7 (a::l)),rfl,rfl,rfl⟩
theorem yb8:Ha7 []=11:=by
 unfold Ha7 Gb9
 rfl
noncomputable def Ka1 (l:List V3):List Pln×Int:=Za1 l
noncomputable def fb9 (l:List V3):Bool:=decide (1≤l.length∧l.length≤900000)
noncomputable def Hb1:Sum:=Y1 (ta7 tV) fun l=>.guard (fb9 l) (.ret ((two (r1L tP) r1I).enc (Ka1 l),[]))
noncomputable def Hb2:Sum:=fun args blks=>match args,blks with
 | [.v (.slice none 0 0)],[]=>fb3 args blks
 | _,_=>Hb1 args blks
theorem fe8 {f:Nat} {A B:Sum} (hA:i4 prog G f A) (hB:i4 prog G f B):i4 prog G f (fun args blks=>match args,blks with
 | [.v (.slice none 0 0)],[]=>A args blks
 | _,_=>B args blks):=by
 intro args blks r out he
 simp only at he
 split at he
 ·exact hA _ _ r out he
 ·exact hB _ _ r out he
theorem fe9:Ja3 ()=Za1 []∧Ja4 ()=true:=by
 have h:va7 ()=some (.tup [.v (.slice none 0 0),i 11],[]):=by
  unfold va7
  simp only[Ec0 [] (by simp),Dc9 [] (by simp),yb8]
  rfl
 unfold Ja3 Ja4 Za1
 rw[h,yb8]
 exact⟨rfl,rfl⟩
theorem Ec3:i4 prog G 64 Hb1:=by
 refine ae4 (Bb9 Gb0 fun a r hr=>?_) (Bb9 Ya1 fun a r hr=>?_) (Bb9 xb5 fun a r hr=>?_)
 ·obtain⟨p,c⟩:=a
  obtain⟨hg,hr⟩:=DT.run_guard_some hr
  have hl:c.length≤900000:=by
   have:=(of_decide_eq_true hg).2
   simp only[List.length_cons] at this
   omega
  have hp:Ra3 (p,c)=Za1 (p::c):=(ob3 p c hl).p
  have hq:Ra4 (p,c)=true:=(ob3 p c hl).g
  rw[hp,hq]
  exact hr
 ·obtain⟨hg,hr⟩:=DT.run_guard_some hr
  exact absurd (of_decide_eq_true hg).1 (by simp)
 ·obtain⟨hg,hr⟩:=DT.run_guard_some hr
  exact absurd (of_decide_eq_true hg).1 (by simp)
theorem Ec4:i4 prog G 64 Hb2:=fe8 Ya1 Ec3
theorem Ub9 (a:V3) (l:List V3) (hl:l.length≤900000):Rd (two (r1L tV) r1I) (qa8 (a,l)) (fun r=>r=Db8 (a::l)):=by
 have hok:okL tV (l.length+1) (fun k=>tV.row (gL tV (a::l) k))=true:=Ta9 tV (f:=fun k=>gL tV (a::l) k) fun _ _=>rfl
 have hp:Ra3 (a,l)=Za1 (a::l):=(ob3 a l hl).p
 have hq:Ra4 (a,l)=true:=(ob3 a l hl).g
 unfold Db8
 unfold qa8
 simp only[p9,Ua0,l7,Ed0,Ed1,hok,hp,hq,y9]
 unfold Za1
 by_cases h:Ha7 (a::l)=0
 ·obtain⟨h1,h2,h3⟩:=ec4 h
  have hF:OkF (F0 (a::l)):=⟨qd1 h1 h2,fun p hp=>(de9 hp).ok⟩
  obtain⟨m,r,e1,e2,e3,e4⟩:=cd0 a l (by omega)
  obtain⟨m',r',k1,k2,k3⟩:=Ad9 r m e2 (F0 (a::l)) e4 hF
  rw[if_pos h,if_pos h]
  simp only[e1,k1]
  refine⟨_,(r'.take m',0),rfl,?_,by rw[k3,e3];rfl⟩
  have h:(r1L tV).rd [⟨27,3,bL tV r',true,false,0⟩] (.sl 0 0 m' 0)=some (r'.take m'):=by
   show Bool.rec (motive:=fun _=>Option (List V3)) none (some (slR tV (bL tV r') 0 m')) (Bool.and true (okS tV (bL tV r') 0 m'))=_
   rw[Sc8 _ _ k2,ec3 _ _ k2]
   rfl
  simp only[two,h]
  rfl
 ·have hne:(Ha7 (a::l) != 0)=true:=bne_iff_ne.2 h
  rw[if_neg h,if_neg h]
  simp only[hne,y9]
  exact⟨_,([],Ha7 (a::l)),rfl,rfl,rfl⟩
noncomputable def P4 (l:List V3):List V3×Int:=Db8 l
noncomputable def P5 (l:List V3):Bool:=decide (1≤l.length∧l.length≤900000)
noncomputable def qb9:Sum:=Y1 (ta7 tV) fun l=>.guard (P5 l) (.ret ((two (r1L tV) r1I).enc (P4 l),[]))
noncomputable def Oa3:Sum:=fun args blks=>match args,blks with
 | [.v (.slice none 0 0)],[]=>qb8 args blks
 | _,_=>qb9 args blks
theorem Te8:xa5 ()=Db8 []∧xa6 ()=true:=by
 have h:ma1 ()=some (.tup [.v (.slice none 0 0),i 11],[]):=by
  unfold ma1
  simp only[fe9.1,fe9.2,Za1,yb8]
  rfl
 unfold xa5 xa6 Db8
 rw[h,yb8]
 exact⟨rfl,rfl⟩
theorem ec5:i4 prog G 35 qb9:=by
 refine ae4 (Bb9 nc2 fun a r hr=>?_) (Bb9 jb1 fun a r hr=>?_) (Bb9 cc8 fun a r hr=>?_)
 ·obtain⟨p,c⟩:=a
  obtain⟨hg,hr⟩:=DT.run_guard_some hr
  have hl:c.length≤900000:=by
   have:=(of_decide_eq_true hg).2
   simp only[List.length_cons] at this
   omega
  have hp:xb3 (p,c)=Db8 (p::c):=(Ub9 p c hl).p
  have hq:xb4 (p,c)=true:=(Ub9 p c hl).g
  rw[hp,hq]
  exact hr
 ·obtain⟨hg,hr⟩:=DT.run_guard_some hr
  exact absurd (of_decide_eq_true hg).1 (by simp)
 ·obtain⟨hg,hr⟩:=DT.run_guard_some hr
  exact absurd (of_decide_eq_true hg).1 (by simp)
theorem jb9:i4 prog G 35 Oa3:=fe8 jb1 ec5
end Go.Ev.Ce
