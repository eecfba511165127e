/- Own work: a part of the proof. -/
import Derived.Test.YtlccibobknidjaaGreatEvSp2
import Derived.Test.YtlccibobknidjaaGreatEvD4
set_option linter.unusedVariables false
set_option linter.unusedSimpArgs false
set_option linter.unnecessarySimpa false
set_option linter.unusedSectionVars false
namespace Go.Ev.Ce
open Go Go.Ev Go.Ev.L Go.Proofs
theorem fe1 (P:Ga2) (g n:Int) (hn:n.natAbs≤9223372036854775808):lp (Ja6 P) ⟨g,n⟩=(1,⟨eu g n,0⟩) :=
 Vd9 (mk:=fun g n=>(⟨g,n⟩:ma8)) (fun g n h=>by simp[Ja6,Ca2,nb1,h]) (fun g=>by simp[Ja6,Ca2,nb1]) g n hn
theorem fe2 (l:List Int) (hl:l.length≤1000000000) (hb:∀ x∈l,x.natAbs≤9223372036854775808):lp (ya8 ⟨(l.length:Int)⟩) ⟨0,l,0⟩=(1,⟨l.foldl eu 0,l,l.length⟩):=by
 have := Yb8 (step := ya8 ⟨(l.length : Int)⟩) (mk := fun j a => (⟨a, l, (j : Int)⟩ : ma9)) (f := eu) (fin := 1) tI l (fun _ _ => True) hl (fun j a hj _ => ⟨by
   simp only[ya8,Ca3,Int.toNat_natCast,m0,m8,fe1 _ _ _ (hb _ (Oc8 tI hj)),p6 hj (by omega)]
   rw[bt (Rb7 hj),bt (f0 hj)]
   rfl,trivial⟩) (fun a _=>by simp[ya8,Ca3,nb1]) 0 (Nat.zero_le _) 0 trivial
 simpa using this.1
theorem rc0:∀ (l:List Int) (g:Int),(l.foldl eu g).natAbs=l.foldl (fun a x=>Nat.gcd a x.natAbs) g.natAbs
 | [],_=>rfl
 | x::l,g=>by rw[List.foldl_cons,rc0 l,List.foldl_cons,ke2];rfl
theorem Pe1 (l:List Int) (hl:l.length≤1000000000) (hb:∀ x∈l,x.natAbs≤9223372036854775807) (h0:(l.foldl eu 0).natAbs≤9223372036854775807):ob9 l=some (i ((l.foldl eu 0).natAbs:Int),[]):=by
 unfold ob9
 simp only[m0,m8,fe2 l hl (fun x hx=>Nat.le_succ_of_le (hb x hx))]
 generalize l.foldl eu 0=e at *
 have:W (0 - e)=-e:=by rw[Ia1 (by omega) (by omega)];omega
 rw[this]
 show some (i (if -e > e then -e else e),[])=_
 congr 3
 split<;>omega
theorem ld3 (x y:Int) (hx:0≤x) (hy:0≤y) (hb:y≤9223372036854775807):Ra0 x y=some (i (Int.gcd x y:Int),[]):=by
 unfold Ra0
 have:=Vd9 (step:=wa4 ⟨⟩) (mk:=fun g n=>(⟨g,n⟩:aa6)) (fun g n h=>by simp[wa4,ra5,nb1,h]) (fun g=>by simp[wa4,ra5,nb1]) x y (by omega)
 simp only[this,ke3 hx hy]
 rfl
theorem Sc3 (x y:Int) (hx:0≤x) (hy:0≤y) (hb:y≤9223372036854775807):S6 x y=(Int.gcd x y:Int):=by unfold S6;rw[ld3 x y hx hy hb];rfl
theorem Sc4 (x y:Int) (hx:0≤x) (hy:0≤y) (hb:y≤9223372036854775807):S7 x y=true:=by unfold S7;rw[ld3 x y hx hy hb];rfl
noncomputable def rm (p:Pln) (x:Pt):Int:=W (p.b*x.pw - (p.n.x*x.px+p.n.y*x.py+p.n.z*x.pz))
theorem td3 (p:Pln) (x:Pt):ua6 p x=rm p x:=by
 unfold ua6 Pa1 rm
 simp only[yb3,hc5,Oc7,qd9]
theorem Jc9 (p:Pln) (x:Pt):Na5 p x=rm p x:=by
 unfold Na5 rm
 simp only[yb3,hc5,Oc7,qd9]
 congr 1
 omega
structure Bd (p:Pln):Prop where
 x1:-4608≤p.n.x
 x2:p.n.x≤4608
 y1:-4608≤p.n.y
 y2:p.n.y≤4608
 z1:-4608≤p.n.z
 z2:p.n.z≤4608
 b1:-2097152≤p.b
 b2:p.b≤2097152
def mv (p q r:Pln):V3 :=
 ⟨(q7 q.n r.n).x*p.b+(q7 r.n p.n).x*q.b+(q7 p.n q.n).x*r.b,
  (q7 q.n r.n).y*p.b+(q7 r.n p.n).y*q.b+(q7 p.n q.n).y*r.b,
  (q7 q.n r.n).z*p.b+(q7 r.n p.n).z*q.b+(q7 p.n q.n).z*r.b⟩
def gc (v:V3) (w:Int):Int:=(Nat.gcd (Nat.gcd v.x.natAbs v.y.natAbs) (Nat.gcd v.z.natAbs w.natAbs):Nat)
def mpt (p q r:Pln):Pt×Bool :=
 if mw p q r=0 then (⟨0,0,0,0⟩,false)
 else if mw p q r < 0 then (⟨Int.tdiv (-(mv p q r).x) (gc (mv p q r) (mw p q r)),Int.tdiv (-(mv p q r).y) (gc (mv p q r) (mw p q r)),Int.tdiv (-(mv p q r).z) (gc (mv p q r) (mw p q r)),Int.tdiv (-(mw p q r)) (gc (mv p q r) (mw p q r))⟩,true)
 else (⟨Int.tdiv (mv p q r).x (gc (mv p q r) (mw p q r)),Int.tdiv (mv p q r).y (gc (mv p q r) (mw p q r)),Int.tdiv (mv p q r).z (gc (mv p q r) (mw p q r)),Int.tdiv (mw p q r) (gc (mv p q r) (mw p q r))⟩,true)
def Sm (n:Int) (x:Int):Prop:=-n≤x∧x≤n
theorem rc1 {a b:V3} (ha:Sm 4608 a.x∧Sm 4608 a.y∧Sm 4608 a.z) (hb:Sm 4608 b.x∧Sm 4608 b.y∧Sm 4608 b.z):Sm 42467328 (q7 a b).x∧Sm 42467328 (q7 a b).y∧Sm 42467328 (q7 a b).z:=by
 obtain⟨⟨a1,a2⟩,⟨a3,a4⟩,a5,a6⟩:=ha
 obtain⟨⟨b1,b2⟩,⟨b3,b4⟩,b5,b6⟩:=hb
 have h1:=mb a3 a4 b5 b6;have h2:=mb a5 a6 b3 b4;have h3:=mb a5 a6 b1 b2;have h4:=mb a1 a2 b5 b6;have h5:=mb a1 a2 b3 b4;have h6:=mb a3 a4 b1 b2
 unfold Sm q7
 simp only
 omega
theorem Bd.n {p:Pln} (h:Bd p):Sm 4608 p.n.x∧Sm 4608 p.n.y∧Sm 4608 p.n.z:=⟨⟨h.x1,h.x2⟩,⟨h.y1,h.y2⟩,h.z1,h.z2⟩
theorem ne9 {p q r:Pln} (hp:Bd p) (hq:Bd q) (hr:Bd r):Sm 600000000000 (mw p q r):=by
 obtain⟨⟨c1,c2⟩,⟨c3,c4⟩,c5,c6⟩:=rc1 hq.n hr.n
 have h1:=mb hp.x1 hp.x2 c1 c2;have h2:=mb hp.y1 hp.y2 c3 c4;have h3:=mb hp.z1 hp.z2 c5 c6
 unfold Sm mw dot
 omega
theorem oe0 {p q r:Pln} (hp:Bd p) (hq:Bd q) (hr:Bd r):Sm 300000000000000 (mv p q r).x∧Sm 300000000000000 (mv p q r).y∧Sm 300000000000000 (mv p q r).z:=by
 obtain⟨⟨c1,c2⟩,⟨c3,c4⟩,c5,c6⟩:=rc1 hq.n hr.n
 obtain⟨⟨d1,d2⟩,⟨d3,d4⟩,d5,d6⟩:=rc1 hr.n hp.n
 obtain⟨⟨e1,e2⟩,⟨e3,e4⟩,e5,e6⟩:=rc1 hp.n hq.n
 have a1:=mb c1 c2 hp.b1 hp.b2;have a2:=mb c3 c4 hp.b1 hp.b2;have a3:=mb c5 c6 hp.b1 hp.b2
 have b1:=mb d1 d2 hq.b1 hq.b2;have b2:=mb d3 d4 hq.b1 hq.b2;have b3:=mb d5 d6 hq.b1 hq.b2
 have f1:=mb e1 e2 hr.b1 hr.b2;have f2:=mb e3 e4 hr.b1 hr.b2;have f3:=mb e5 e6 hr.b1 hr.b2
 unfold Sm mv
 simp only
 omega
theorem Kc0 (a b:V3):R8 a b=⟨W (q7 a b).x,W (q7 a b).y,W (q7 a b).z⟩:=by
 unfold R8 q7
 simp only[Oc7,qd9]
theorem rc2 (a b:V3):U9 a b=⟨W (q7 a b).x,W (q7 a b).y,W (q7 a b).z⟩:=by
 unfold U9 q7
 simp only[Oc7,qd9]
theorem Pe2 (p q r:Pln):dot r.n (q7 p.n q.n)=mw p q r:=by unfold mw dot q7;grind
theorem mf5 (a b c d:Nat):[a,b,c,d].foldl Nat.gcd 0=Nat.gcd (Nat.gcd a b) (Nat.gcd c d):=by
 simp only[List.foldl_cons,List.foldl_nil,Nat.gcd_zero_left]
 rw[Nat.gcd_assoc]
theorem Sc5 {v:V3} {w:Int} (h:w≠0):0 < gc v w:=by
 unfold gc
 have:0 < Nat.gcd v.z.natAbs w.natAbs:=Nat.gcd_pos_of_pos_right _ (by omega)
 have:=Nat.gcd_pos_of_pos_right (Nat.gcd v.x.natAbs v.y.natAbs) this
 omega
theorem oe1 {v:V3} {w:Int} (h:w≠0):gc v w≤w.natAbs:=by
 unfold gc
 have h1:Nat.gcd v.z.natAbs w.natAbs≤w.natAbs:=Nat.gcd_le_right _ (by omega)
 have h2:0 < Nat.gcd v.z.natAbs w.natAbs:=Nat.gcd_pos_of_pos_right _ (by omega)
 have h3:=Nat.gcd_le_right (m:=Nat.gcd v.x.natAbs v.y.natAbs) (n:=Nat.gcd v.z.natAbs w.natAbs) h2
 omega
theorem Da2 {x:Int} (h:Sm 1000000000000000000 x):W x=x:=Ia1 (by have:=h.1;omega) (by have:=h.2;omega)
theorem Sm.mono {n m x:Int} (h:Sm n x) (hn:n≤m):Sm m x:=⟨by have:=h.1;omega,by have:=h.2;omega⟩
theorem K5 {n x g:Int} (h:Sm n x) (hg:0 < g):Sm n (Int.tdiv x g):=by
 have h1:(Int.tdiv x g).natAbs≤x.natAbs:=by rw[Int.natAbs_tdiv];exact Nat.div_le_self _ _
 have:=h.1;have:=h.2
 constructor<;>omega
theorem Rd6 {p q r:Pln} (hp:Bd p) (hq:Bd q) (hr:Bd r) (h:(mpt p q r).2=true):0 < (mpt p q r).1.pw∧Sm 300000000000000 (mpt p q r).1.px∧Sm 300000000000000 (mpt p q r).1.py∧Sm 300000000000000 (mpt p q r).1.pz∧(mpt p q r).1.pw≤600000000000:=by
 have hw:=ne9 hp hq hr
 obtain⟨v1,v2,v3⟩:=oe0 hp hq hr
 have neg:∀ {n x:Int},Sm n x→Sm n (-x):=fun h=>⟨by have:=h.2;omega,by have:=h.1;omega⟩
 have pos:∀ {x:Int},0 < x→x.natAbs=(mw p q r).natAbs→0 < Int.tdiv x (gc (mv p q r) (mw p q r)):=fun {x} hx he=>by
  have h0:mw p q r≠0:=by omega
  have h1:=Sc5 (v:=mv p q r) h0
  have h2:=oe1 (v:=mv p q r) h0
  rw[Int.tdiv_eq_ediv_of_nonneg (by omega)]
  exact Int.ediv_pos_of_pos_of_dvd hx (by omega) (by
   rw[← Int.dvd_natAbs,he]
   exact Int.natCast_dvd_natCast.2 (Nat.dvd_trans (Nat.gcd_dvd_right _ _) (Nat.gcd_dvd_right _ _)))
 unfold mpt at h ⊢
 by_cases h0:mw p q r=0
 ·rw[if_pos h0] at h;cases h
 ·rw[if_neg h0]
  have hg:=Sc5 (v:=mv p q r) h0
  by_cases h1:mw p q r < 0
  ·rw[if_pos h1]
   exact⟨pos (by omega) (by omega),K5 (neg v1) hg,K5 (neg v2) hg,K5 (neg v3) hg,(K5 (neg hw) hg).2⟩
  ·rw[if_neg h1]
   exact⟨pos (by omega) rfl,K5 v1 hg,K5 v2 hg,K5 v3 hg,(K5 hw hg).2⟩
theorem Wd5 {p q r:Pln} (hp:Bd p) (hq:Bd q) (hr:Bd r):bb0 ⟨p,q,r⟩=some (.tup [.agg (tX.row (mpt p q r).1),b (mpt p q r).2],[]):=by
 have hw:=ne9 hp hq hr
 obtain⟨v1,v2,v3⟩:=oe0 hp hq hr
 have e1:Pa1 r.n (R8 p.n q.n)=mw p q r:=by
  rw[Kc0]
  unfold Pa1
  simp only[yb3,hc5,ke0]
  show W (dot r.n (q7 p.n q.n))=_
  rw[Pe2,Da2 (hw.mono (by omega))]
 have e2:ua5 (ua5 (ua5 ⟨0,0,0⟩ (T5 (R8 q.n r.n) p.b)) (T5 (R8 r.n p.n) q.b)) (T5 (R8 p.n q.n) r.b)=mv p q r:=by
  rw[Kc0,Kc0,Kc0]
  unfold ua5 T5
  simp only[yb3,hc5,Pd6,Int.zero_add]
  show (⟨W (mv p q r).x,W (mv p q r).y,W (mv p q r).z⟩:V3)=_
  rw[Da2 (v1.mono (by omega)),Da2 (v2.mono (by omega)),Da2 (v3.mono (by omega))]
 unfold bb0
 simp only[e1,e2]
 have hb:∀ x∈[(mv p q r).x,(mv p q r).y,(mv p q r).z,mw p q r],x.natAbs≤9223372036854775807:=by
  intro x hx
  simp only[List.mem_cons,List.not_mem_nil,or_false] at hx
  unfold Sm at *
  rcases hx with rfl | rfl | rfl | rfl<;>omega
 have hf:([(mv p q r).x,(mv p q r).y,(mv p q r).z,mw p q r].foldl eu 0).natAbs=Nat.gcd (Nat.gcd (mv p q r).x.natAbs (mv p q r).y.natAbs) (Nat.gcd (mv p q r).z.natAbs (mw p q r).natAbs):=by
  rw[rc0,← mf5];rfl
 unfold mpt
 by_cases h0:mw p q r=0
 ·rw[bt (by rw[h0];rfl),if_pos h0]
  rfl
 ·have hz:(mw p q r==0)=false:=by simpa using h0
  rw[bf hz,if_neg h0]
  have hgp:=Sc5 (v:=mv p q r) h0
  have hgl:=oe1 (v:=mv p q r) h0
  have hge:=Pe1 _ (by simp) hb (by rw[hf];unfold gc at hgl;unfold Sm at hw;omega)
  have hgv:Ib7 [(mv p q r).x,(mv p q r).y,(mv p q r).z,mw p q r]=gc (mv p q r) (mw p q r):=by
   unfold Ib7;rw[hge,hf];rfl
  have hgg:Ib8 [(mv p q r).x,(mv p q r).y,(mv p q r).z,mw p q r]=true:=by
   unfold Ib8;rw[hge];rfl
  rw[hgv,bt hgg]
  generalize hG:gc (mv p q r) (mw p q r)=G at *
  have hGW:W (0 - G)=-G:=by unfold Sm at hw;rw[Ia1 (by omega) (by omega)];omega
  have hGn:(-G==0)=false:=by simp;omega
  have hGp:(G==0)=false:=by simp;omega
  by_cases h1:mw p q r < 0
  ·rw[bt (decide_eq_true h1),if_pos h1]
   simp only[hGW]
   rw[bf hGn,bf hGn,bf hGn,bf hGn]
   simp only[Int.tdiv_neg,← Int.neg_tdiv]
   have neg:∀ {n x:Int},Sm n x→Sm n (-x):=fun h=>⟨by have:=h.2;omega,by have:=h.1;omega⟩
   rw[Da2 ((K5 (neg v1) hgp).mono (by omega)),Da2 ((K5 (neg v2) hgp).mono (by omega)),Da2 ((K5 (neg v3) hgp).mono (by omega)),Da2 ((K5 (neg hw) hgp).mono (by omega))]
   rfl
  ·rw[bf (decide_eq_false h1),if_neg h1,bf hGp,bf hGp,bf hGp,bf hGp]
   rw[Da2 ((K5 v1 hgp).mono (by omega)),Da2 ((K5 v2 hgp).mono (by omega)),Da2 ((K5 v3 hgp).mono (by omega)),Da2 ((K5 hw hgp).mono (by omega))]
   rfl
theorem Pe3 {p q r:Pln} (hp:Bd p) (hq:Bd q) (hr:Bd r):bb1 ⟨p,q,r⟩=mpt p q r:=by unfold bb1;rw[Wd5 hp hq hr];rfl
theorem Pe4 {p q r:Pln} (hp:Bd p) (hq:Bd q) (hr:Bd r):bb2 ⟨p,q,r⟩=true:=by unfold bb2;rw[Wd5 hp hq hr];rfl
theorem Fd9 {p q r:Pln} (hp:Bd p) (hq:Bd q) (hr:Bd r):nb9 p q r=some (.tup [.agg (tX.row (mpt p q r).1),b (mpt p q r).2],[]):=by
 have hw:=ne9 hp hq hr
 obtain⟨v1,v2,v3⟩:=oe0 hp hq hr
 have e1:Oa6 p.n (U9 q.n r.n)=mw p q r:=by
  rw[rc2]
  unfold Oa6
  simp only[yb3,hc5,ke0]
  show W (dot p.n (q7 q.n r.n))=_
  rw[show dot p.n (q7 q.n r.n)=mw p q r from rfl,Da2 (hw.mono (by omega))]
 have e2:lb6 (lb6 (S5 (U9 q.n r.n) p.b) (S5 (U9 r.n p.n) q.b)) (S5 (U9 p.n q.n) r.b)=mv p q r:=by
  rw[rc2,rc2,rc2]
  unfold lb6 S5
  simp only[yb3,hc5,Pd6]
  show (⟨W (mv p q r).x,W (mv p q r).y,W (mv p q r).z⟩:V3)=_
  rw[Da2 (v1.mono (by omega)),Da2 (v2.mono (by omega)),Da2 (v3.mono (by omega))]
 have neg:∀ {n x:Int},Sm n x→Sm n (-x):=fun h=>⟨by have:=h.2;omega,by have:=h.1;omega⟩
 have e3:S5 (mv p q r) (-1)=⟨-(mv p q r).x,-(mv p q r).y,-(mv p q r).z⟩:=by
  unfold S5
  have:∀ x:Int,x*-1=-x:=fun x=>by omega
  simp only[this]
  rw[Da2 ((neg v1).mono (by omega)),Da2 ((neg v2).mono (by omega)),Da2 ((neg v3).mono (by omega))]
 have ab:∀ {x:Int},Sm 300000000000000 x→(if W (0 - x) > x then W (0 - x) else x)=(x.natAbs:Int):=fun {x} h=>by
  have:W (0 - x)=-x:=by rw[show 0 - x=-x by omega];exact Da2 ((neg h).mono (by omega))
  rw[this]
  split<;>omega
 unfold nb9
 simp only[e1,e2,e3]
 rw[ab v1,ab v2,ab v3,ab (neg v1),ab (neg v2),ab (neg v3)]
 simp only[Int.natAbs_neg]
 unfold mpt
 by_cases h0:mw p q r=0
 ·rw[bt (by rw[h0];rfl),if_pos h0]
  rfl
 ·have hz:(mw p q r==0)=false:=by simpa using h0
  rw[bf hz,if_neg h0]
  have hgp:=Sc5 (v:=mv p q r) h0
  have hgl:=oe1 (v:=mv p q r) h0
  have hw0:=hw
  unfold Sm at hw0
  have q1:((mv p q r).y.natAbs:Int)≤9223372036854775807:=by unfold Sm at v2;omega
  have k1:=Sc3 ((mv p q r).x.natAbs:Int) ((mv p q r).y.natAbs:Int) (by omega) (by omega) q1
  have k2:=Sc4 ((mv p q r).x.natAbs:Int) ((mv p q r).y.natAbs:Int) (by omega) (by omega) q1
  have c1:Int.gcd ((mv p q r).x.natAbs:Int) ((mv p q r).y.natAbs:Int)=Nat.gcd (mv p q r).x.natAbs (mv p q r).y.natAbs:=by simp[Int.gcd]
  have fin : ∀ w : Int, 0 < w → w.natAbs = (mw p q r).natAbs → S6 ((mv p q r).z.natAbs : Int) w = (Nat.gcd (mv p q r).z.natAbs (mw p q r).natAbs : Nat) ∧ S7 ((mv p q r).z.natAbs : Int) w = true ∧
    S6 (Nat.gcd (mv p q r).x.natAbs (mv p q r).y.natAbs:Nat) (Nat.gcd (mv p q r).z.natAbs (mw p q r).natAbs:Nat)=gc (mv p q r) (mw p q r)∧S7 (Nat.gcd (mv p q r).x.natAbs (mv p q r).y.natAbs:Nat) (Nat.gcd (mv p q r).z.natAbs (mw p q r).natAbs:Nat)=true:=by
   intro w hw1 hw2
   have l1:Nat.gcd (mv p q r).z.natAbs (mw p q r).natAbs≤(mw p q r).natAbs:=Nat.gcd_le_right _ (by omega)
   refine⟨?_,Sc4 _ _ (by omega) (by omega) (by omega),?_,Sc4 _ _ (by omega) (by omega) (by omega)⟩
   ·rw[Sc3 _ _ (by omega) (by omega) (by omega)]
    have:Int.gcd ((mv p q r).z.natAbs:Int) w=Nat.gcd (mv p q r).z.natAbs (mw p q r).natAbs:=by unfold Int.gcd;rw[hw2];simp
    rw[this]
   ·rw[Sc3 _ _ (by omega) (by omega) (by omega)]
    rfl
  by_cases h1:mw p q r < 0
  ·rw[bt (decide_eq_true h1),if_pos h1]
   have hWw:W (0 - mw p q r)=-mw p q r:=by rw[Ia1 (by omega) (by omega)];omega
   rw[hWw]
   obtain⟨f1,f2,f3,f4⟩:=fin (-mw p q r) (by omega) (by omega)
   simp only[k1,k2,c1,f1,f2,f3,f4]
   generalize gc (mv p q r) (mw p q r)=G at *
   have hGp:(G==0)=false:=by simp;omega
   simp only[hGp]
   rw[Da2 ((K5 (neg v1) hgp).mono (by omega)),Da2 ((K5 (neg v2) hgp).mono (by omega)),Da2 ((K5 (neg v3) hgp).mono (by omega)),Da2 ((K5 (neg hw) hgp).mono (by omega))]
   rfl
  ·rw[bf (decide_eq_false h1),if_neg h1]
   obtain⟨f1,f2,f3,f4⟩:=fin (mw p q r) (by omega) rfl
   simp only[k1,k2,c1,f1,f2,f3,f4]
   generalize gc (mv p q r) (mw p q r)=G at *
   have hGp:(G==0)=false:=by simp;omega
   simp only[hGp]
   rw[Da2 ((K5 v1 hgp).mono (by omega)),Da2 ((K5 v2 hgp).mono (by omega)),Da2 ((K5 v3 hgp).mono (by omega)),Da2 ((K5 hw hgp).mono (by omega))]
   rfl
theorem Be1 {p q r:Pln} (hp:Bd p) (hq:Bd q) (hr:Bd r):ob0 p q r=mpt p q r:=by unfold ob0;rw[Fd9 hp hq hr];rfl
theorem Be2 {p q r:Pln} (hp:Bd p) (hq:Bd q) (hr:Bd r):ob1 p q r=true:=by unfold ob1;rw[Fd9 hp hq hr];rfl
end Go.Ev.Ce
namespace Go.Ev.Ce
open Go Go.Ev Go.Ev.L Go.Proofs
noncomputable def inn (l:List Pln) (x:Pt):Bool:=l.all fun p=>!decide (rm p x < 0)
theorem Wd6 (l:List Pln) (x:Pt):inn l x=!l.any fun p=>decide (rm p x < 0):=by unfold inn;rw[List.not_any_eq_all_not]
theorem af2 (p:Pln) (x:Pt):eb5 ⟨p.n.x,p.n.y,p.n.z,p.b,x.px,x.py,x.pz,x.pw⟩=⟨decide (rm p x < 0)⟩:=by
 show wa7.mk (decide (ua6 p x < 0))=_
 rw[td3]
theorem Be3 (l:List Pln) (x:Pt) (hl:l.length≤1000000000):V5 ⟨l,x.px,x.py,x.pz,x.pw⟩=⟨1,if l.any (fun p=>decide (rm p x < 0)) then ((l.findIdx (fun p=>decide (rm p x < 0)):Nat):Int) else -1⟩:=by
 have h:=ib9 (step:=G1 ⟨l,(l.length:Int),x.px,x.py,x.pz,x.pw⟩) (mk:=fun j=>(⟨(j:Int)⟩:o4)) (c:=fun p=>decide (rm p x < 0)) (u:=1) (fin:=2) tP l hl
  (fun j hj=>by
   simp only[G1,D3,Int.toNat_natCast,af2,p6 hj (by omega)]
   rw[bt (Rb7 hj),bt (f0 hj)])
  (by simp only[G1,D3];rw[bf (Hb0 (Nat.lt_irrefl _))]) 0 (Nat.zero_le _)
 rw[List.drop_zero] at h
 unfold V5 E0
 simp only[m0,m8]
 rw[show (⟨0⟩:o4)=⟨((0:Nat):Int)⟩ from rfl,h]
 split
 ·simp only[Nat.zero_add];rfl
 ·rfl
theorem ld4 (l:List Pln) (x:Pt) (hl:l.length≤1000000000):Ja7 l x=some (b (inn l x),[]):=by
 unfold Ja7 da0 A7
 simp only[m0,m8,Be3 l x hl,Wd6]
 split
 ·rename_i h
  rw[h,show decide (((l.findIdx (fun p=>decide (rm p x < 0)):Nat):Int)≥0)=true from decide_eq_true (by omega)];rfl
 ·rename_i h
  rw[Bool.not_eq_true] at h
  rw[h];rfl
theorem Sc6 (l:List Pln) (x:Pt) (hl:l.length≤1000000000):Z3 l x=inn l x:=by unfold Z3;rw[ld4 l x hl];rfl
theorem Sc7 (l:List Pln) (x:Pt) (hl:l.length≤1000000000):Z4 l x=true:=by unfold Z4;rw[ld4 l x hl];rfl
theorem Ke0 (l:List Pln) (x:Pt) (hl:l.length≤1000000000):Tb1 l x=some (b (inn l x),[]):=by
 have h:=nb3 (step:=ab4 ⟨l,x.px,x.py,x.pz,x.pw⟩) (mk:=fun j=>(⟨(j:Int)⟩:ua9)) (c:=fun p=>decide (rm p x < 0)) (u:=1) (fin:=2) tP l hl
  (fun j hj=>by
   simp only[ab4,Ra1,Int.toNat_natCast,Jc9,p6 hj (by omega)]
   rw[bt (Rb7 hj),bt (f0 hj)])
  (by simp only[ab4,Ra1];rw[bf (Hb0 (Nat.lt_irrefl _))]) 0 (Nat.zero_le _)
 rw[List.drop_zero] at h
 unfold Tb1
 simp only[m0,m8,Wd6]
 rw[show (⟨0⟩:ua9)=⟨((0:Nat):Int)⟩ from rfl,h]
 split
 ·rename_i h;rw[h];rfl
 ·rename_i h;rw[Bool.not_eq_true] at h;rw[h];rfl
theorem af3 (l:List Pln) (x:Pt) (hl:l.length≤1000000000):ob3 l x=inn l x:=by unfold ob3;rw[Ke0 l x hl];rfl
theorem af4 (l:List Pln) (x:Pt) (hl:l.length≤1000000000):ob4 l x=true:=by unfold ob4;rw[Ke0 l x hl];rfl
def eqX (x q:Pt):Bool:=q.px==x.px&&(q.py==x.py&&(q.pz==x.pz&&(q.pw==x.pw&&true)))
theorem td4 (x q:Pt):eqX x q=true↔q=x:=by
 unfold eqX
 simp only[Bool.and_true,Bool.and_eq_true,beq_iff_eq]
 exact⟨fun⟨h1,h2,h3,h4⟩=>by cases q;cases x;simp_all,fun h=>by subst h;exact⟨rfl,rfl,rfl,rfl⟩⟩
def Ub3 (l:List Pt) (x:Pt):Bool:=l.any (eqX x)
theorem oe2 (l:List Pt) (x:Pt):Ub3 l x=true↔x∈l:=by
 unfold Ub3
 rw[List.any_eq_true]
 exact⟨fun⟨q,h,e⟩=>(td4 x q).1 e ▸ h,fun h=>⟨x,h,(td4 x x).2 rfl⟩⟩
theorem Gd0 (l:List Pt) (x:Pt) (hl:l.length≤1000000000):ab5 l x=some (b (Ub3 l x),[]):=by
 have h:=nb3 (step:=Ba6 ⟨l,x.px,x.py,x.pz,x.pw⟩) (mk:=fun j=>(⟨(j:Int)⟩:Z1)) (c:=eqX x) (u:=1) (fin:=2) tX l hl
  (fun j hj=>by
   simp only[Ba6,wa5,Int.toNat_natCast,p6 hj (by omega)]
   rw[bt (Rb7 hj),bt (f0 hj)]
   rfl)
  (by simp only[Ba6,wa5];rw[bf (Hb0 (Nat.lt_irrefl _))]) 0 (Nat.zero_le _)
 rw[List.drop_zero] at h
 unfold ab5
 simp only[m0,m8]
 rw[show (⟨0⟩:Z1)=⟨((0:Nat):Int)⟩ from rfl,h]
 unfold Ub3
 split
 ·rename_i h;rw[h];rfl
 ·rename_i h;rw[Bool.not_eq_true] at h;rw[h];rfl
theorem Be4 (l:List Pt) (x:Pt) (hl:l.length≤1000000000):Oa7 l x=Ub3 l x:=by unfold Oa7;rw[Gd0 l x hl];rfl
theorem Be5 (l:List Pt) (x:Pt) (hl:l.length≤1000000000):Oa8 l x=true:=by unfold Oa8;rw[Gd0 l x hl];rfl
def smb (n x:Int):Bool:=!decide (x < -n)&&!decide (x > n)
theorem rc3 (n x:Int):smb n x=true↔Sm n x:=by unfold smb Sm;simp only[Bool.and_eq_true,Bool.not_eq_true',decide_eq_false_iff_not];omega
theorem Sc8 (n:Int) (l:List Int) (hn:0≤n∧n≤1000000000) (hl:l.length≤1000000000):Ca5 n l=some (b (l.all (smb n)),[]):=by
 have hW:W (0 - n)=-n:=by rw[Ia1 (by omega) (by omega)];omega
 have h:=nb3 (step:=na0 ⟨n,l,(l.length:Int)⟩) (mk:=fun j=>(⟨(j:Int)⟩:L7)) (c:=fun x=>!smb n x) (u:=1) (fin:=2) tI l hl
  (fun j hj=>by
   simp only[na0,ia3,Int.toNat_natCast,p6 hj (by omega),hW]
   rw[bt (Rb7 hj),bt (f0 hj)]
   unfold smb
   cases decide (gL tI l j < -n)<;>cases decide (gL tI l j > n)<;>rfl)
  (by simp only[na0,ia3];rw[bf (Hb0 (Nat.lt_irrefl _))]) 0 (Nat.zero_le _)
 rw[List.drop_zero] at h
 unfold Ca5
 simp only[m0,m8]
 rw[show (⟨0⟩:L7)=⟨((0:Nat):Int)⟩ from rfl,h]
 have e:(l.any fun x=>!smb n x)=!l.all (smb n):=by rw[List.not_all_eq_any_not]
 rw[e]
 cases l.all (smb n)<;>rfl
theorem yc8 (n:Int) (l:List Int) (hn:0≤n∧n≤1000000000) (hl:l.length≤1000000000):sa3 n l=l.all (smb n):=by unfold sa3;rw[Sc8 n l hn hl];rfl
theorem yc9 (n:Int) (l:List Int) (hn:0≤n∧n≤1000000000) (hl:l.length≤1000000000):sa4 n l=true:=by unfold sa4;rw[Sc8 n l hn hl];rfl
theorem Gd1 {n:Int} (h:Sm 1000000000000000000 n):Ga3 n=(n.natAbs:Int):=by
 unfold Ga3
 obtain⟨h1,h2⟩:=h
 rw[Ia1 (by omega) (by omega)]
 split<;>omega
theorem rc4 {n:Int} (h:Sm 1000000000000000000 n):Ba7 n=some (i (n.natAbs:Int),[]):=by
 unfold Ba7
 obtain⟨h1,h2⟩:=h
 rw[Ia1 (by omega) (by omega)]
 by_cases h:n < 0
 ·rw[bt (decide_eq_true h)];congr 3;omega
 ·rw[bf (decide_eq_false h)];congr 3;omega
theorem Ub4 {n:Int} (h:Sm 1000000000000000000 n):ra6 n=(n.natAbs:Int):=by unfold ra6;rw[rc4 h];rfl
theorem Ub5 {n:Int} (h:Sm 1000000000000000000 n):ra7 n=true:=by unfold ra7;rw[rc4 h];rfl
def g3 (v:V3):Int:=(Nat.gcd (Nat.gcd v.x.natAbs v.y.natAbs) v.z.natAbs:Nat)
theorem oe3 (g n:Nat):eu (g:Int) (n:Int)=(Nat.gcd g n:Nat):=by rw[ke3 (by omega) (by omega)];rfl
theorem dd2 (P:ca3) (g n:Nat) (hn:n≤1000000000000000000):lp (Y5 P) ⟨(g:Int),(n:Int)⟩=(1,⟨(Nat.gcd g n:Nat),0⟩):=by
 have:=Cc1 (step:=Y5 P) (mk:=fun g n=>(⟨g,n⟩:N0)) (fun g n h=>by
  have h0:n≠0:=by omega
  simp[Y5,ea4,nb1,h,h0]) (fun g=>by simp[Y5,ea4,nb1]) (g:Int) (n:Int) (by omega) (by omega) (by omega)
 rw[this,oe3]
theorem Rd7 (l:List Int) (hl:l.length≤1000000000) (hb:∀ x∈l,Sm 1000000000000000000 x):xa0 l=some (i (l.foldl (fun g x=>Nat.gcd g x.natAbs) 0:Nat),[]):=by
 have h := Yb8 (step := ia4 ⟨(l.length : Int)⟩) (mk := fun j (a : Nat) => (⟨(a : Int), l, (j : Int)⟩ : I7)) (f := fun g x => Nat.gcd g x.natAbs) (fin := 2) tI l (fun _ _ => True) hl (fun j a hj _ => ⟨by
   have hm:=hb _ (Oc8 tI hj)
   have hne:(gL tI l j==(-9223372036854775808:Int))=false:=by
    have:=hm.1
    rw[beq_eq_false_iff_ne];omega
   have hs:(gL tI l j).natAbs≤1000000000000000000:=by obtain⟨h1,h2⟩:=hm;omega
   simp only[ia4,ea5,Int.toNat_natCast,m0,m8,Gd1 hm,dd2 _ _ _ hs,p6 hj (by omega)]
   rw[bt (Rb7 hj),bt (f0 hj),bf hne]
   rfl,trivial⟩) (fun a _=>by simp only[ia4,ea5];rw[bf (Hb0 (Nat.lt_irrefl _))]) 0 (Nat.zero_le _) 0 trivial
 have h:=h.1
 rw[List.drop_zero] at h
 unfold xa0
 simp only[m0,m8]
 rw[show (⟨0,l,0⟩:I7)=⟨((0:Nat):Int),l,((0:Nat):Int)⟩ from rfl,h]
 rfl
def okp (p:Pln):Bool:=[p.n.x,p.n.y,p.n.z].all (smb 4608)&&(g3 p.n==1&&[p.b].all (smb 2097152))
theorem Pe5 (p:Pln):Bd p↔[p.n.x,p.n.y,p.n.z].all (smb 4608)=true∧[p.b].all (smb 2097152)=true:=by
 simp only[List.all_cons,List.all_nil,Bool.and_true,Bool.and_eq_true,rc3,Sm]
 exact⟨fun h=>⟨⟨⟨h.x1,h.x2⟩,⟨h.y1,h.y2⟩,h.z1,h.z2⟩,h.b1,h.b2⟩,fun⟨⟨⟨a,b⟩,⟨c,d⟩,e,f⟩,g,h⟩=>⟨a,b,c,d,e,f,g,h⟩⟩
theorem td5 {p:Pln} (h:okp p=true):Bd p:=by
 unfold okp at h
 rw[Bool.and_eq_true,Bool.and_eq_true] at h
 exact (Pe5 p).2 ⟨h.1,h.2.2⟩
theorem sm3 {v:V3} (h:[v.x,v.y,v.z].all (smb 4608)=true):Sm 4608 v.x∧Sm 4608 v.y∧Sm 4608 v.z:=by
 simpa only[List.all_cons,List.all_nil,Bool.and_true,Bool.and_eq_true,rc3] using h
theorem Gd2 (p:Pln):Ja9 p=some (b (okp p),[]):=by
 unfold Ja9 okp
 have l3:[p.n.x,p.n.y,p.n.z].length≤1000000000:=by simp
 have l1:[p.b].length≤1000000000:=by simp
 simp only[yc8 4608 _ (by omega) l3,yc9 4608 _ (by omega) l3,yc8 2097152 _ (by omega) l1,yc9 2097152 _ (by omega) l1]
 cases hw:[p.n.x,p.n.y,p.n.z].all (smb 4608) with
 | false=>rfl
 | true =>
  obtain⟨h1,h2,h3⟩:=sm3 hw
  have hd:=Rd7 [p.n.x,p.n.y,p.n.z] l3 (by
   intro x hx
   simp only[List.mem_cons,List.not_mem_nil,or_false] at hx
   rcases hx with rfl | rfl | rfl
   ·exact h1.mono (by omega)
   ·exact h2.mono (by omega)
   ·exact h3.mono (by omega))
  have hg:([p.n.x,p.n.y,p.n.z].foldl (fun g x=>Nat.gcd g x.natAbs) 0:Nat)=Nat.gcd (Nat.gcd p.n.x.natAbs p.n.y.natAbs) p.n.z.natAbs:=by
   simp only[List.foldl_cons,List.foldl_nil,Nat.gcd_zero_left]
  have hp:Ma2 [p.n.x,p.n.y,p.n.z]=g3 p.n:=by unfold Ma2;rw[hd,hg];rfl
  have hgd:Ma3 [p.n.x,p.n.y,p.n.z]=true:=by unfold Ma3;rw[hd];rfl
  rw[hp,hgd]
  cases g3 p.n==1<;>rfl
theorem Be6 (p:Pln):Za0 p=okp p:=by unfold Za0;rw[Gd2 p];rfl
theorem Be7 (p:Pln):Za1 p=true:=by unfold Za1;rw[Gd2 p];rfl
theorem zc0 (P:ma6) (g n:Nat) (hn:n≤1000000000000000000):lp (ha8 P) ⟨(g:Int),(n:Int)⟩=(1,⟨(Nat.gcd g n:Nat),0⟩):=by
 have:=Cc1 (step:=ha8 P) (mk:=fun g n=>(⟨g,n⟩:T4)) (fun g n h=>by
  have h0:n≠0:=by omega
  simp[ha8,Ba8,nb1,h,h0]) (fun g=>by simp[ha8,Ba8,nb1]) (g:Int) (n:Int) (by omega) (by omega) (by omega)
 rw[this,oe3]
theorem td6 {v : V3} (h1 : Sm 1000000000000000000 v.x) (h2 : Sm 1000000000000000000 v.y) (h3 : Sm 1000000000000000000 v.z) :
  ob5 v=if g3 v=0 then some (.tup [.agg (tV.row ⟨0,0,0⟩),i 0],[]) else some (.tup [.agg (tV.row ⟨W (Int.tdiv v.x (g3 v)),W (Int.tdiv v.y (g3 v)),W (Int.tdiv v.z (g3 v))⟩),i (g3 v)],[]):=by
 have ne:∀ {x:Int},Sm 1000000000000000000 x→(x==(-9223372036854775808:Int))=false:=fun {x} h=>by
  have:=h.1
  rw[beq_eq_false_iff_ne];omega
 have bd:∀ {x:Int},Sm 1000000000000000000 x→x.natAbs≤1000000000000000000:=fun {x} h=>by obtain⟨h1,h2⟩:=h;omega
 have l1:=zc0 ⟨0,v.x,v.y,v.z,v.x,v.y,v.z⟩ 0 v.x.natAbs (bd h1)
 rw[Nat.gcd_zero_left] at l1
 have l2:=zc0 ⟨1,v.x,v.y,v.z,v.x,v.y,v.z⟩ v.x.natAbs v.y.natAbs (bd h2)
 have l3:=zc0 ⟨2,v.x,v.y,v.z,v.x,v.y,v.z⟩ (Nat.gcd v.x.natAbs v.y.natAbs) v.z.natAbs (bd h3)
 unfold ob5
 simp only[Ub4 h1,Ub4 h2,Ub4 h3,Ub5 h1,Ub5 h2,Ub5 h3]
 rw[show (⟨0,(v.x.natAbs:Int)⟩:T4)=⟨((0:Nat):Int),(v.x.natAbs:Int)⟩ from rfl]
 simp only[l1,l2,l3,ne h1,ne h2,ne h3]
 rw[show ((Nat.gcd (Nat.gcd v.x.natAbs v.y.natAbs) v.z.natAbs:Nat):Int)=g3 v from rfl]
 by_cases h:g3 v=0
 ·rw[if_pos h,show (g3 v==0)=true from by rw[h];rfl];rfl
 ·rw[if_neg h,show (g3 v==0)=false from by rw[beq_eq_false_iff_ne];exact h];rfl
theorem Sc9 {v:V3} (h1:Sm 1000000000000000000 v.x) (h2:Sm 1000000000000000000 v.y) (h3:Sm 1000000000000000000 v.z):(Na6 v).2=g3 v:=by
 unfold Na6
 rw[td6 h1 h2 h3]
 split
 ·rename_i h;rw[h];rfl
 ·rfl
theorem Pe6 {v:V3} (h1:Sm 1000000000000000000 v.x) (h2:Sm 1000000000000000000 v.y) (h3:Sm 1000000000000000000 v.z) (h:g3 v≠0):Na6 v=(⟨W (Int.tdiv v.x (g3 v)),W (Int.tdiv v.y (g3 v)),W (Int.tdiv v.z (g3 v))⟩,g3 v):=by
 unfold Na6
 rw[td6 h1 h2 h3,if_neg h]
 rfl
theorem oe4 {v:V3} (h1:Sm 1000000000000000000 v.x) (h2:Sm 1000000000000000000 v.y) (h3:Sm 1000000000000000000 v.z):ob6 v=true:=by
 unfold ob6
 rw[td6 h1 h2 h3]
 split<;>rfl
theorem ld5 (p:Pln):ab6 p=some (b (okp p),[]):=by
 unfold ab6 okp
 cases hw:[p.n.x,p.n.y,p.n.z].all (smb 4608) with
 | false =>
  simp only[List.all_cons,List.all_nil,Bool.and_true,smb] at hw
  cases h1:decide (p.n.x < -4608)<;>cases h2:decide (p.n.x > 4608)<;>cases h3:decide (p.n.y < -4608)<;>cases h4:decide (p.n.y > 4608)<;>cases h5:decide (p.n.z < -4608)<;>cases h6:decide (p.n.z > 4608)<;>simp only[h1,h2,h3,h4,h5,h6] at hw ⊢<;>first | rfl | cases hw
 | true =>
  obtain⟨h1,h2,h3⟩:=sm3 hw
  rw[bf (decide_eq_false (by have:=h1.1;omega)),bf (decide_eq_false (by have:=h1.2;omega)),bf (decide_eq_false (by have:=h2.1;omega)),bf (decide_eq_false (by have:=h2.2;omega)),bf (decide_eq_false (by have:=h3.1;omega)),bf (decide_eq_false (by have:=h3.2;omega))]
  have k1:=h1.mono (m:=1000000000000000000) (by omega)
  have k2:=h2.mono (m:=1000000000000000000) (by omega)
  have k3:=h3.mono (m:=1000000000000000000) (by omega)
  rw[bt (oe4 k1 k2 k3),Sc9 k1 k2 k3]
  cases g3 p.n==1 with
  | false=>rfl
  | true =>
   simp only[List.all_cons,List.all_nil,Bool.and_true,smb,Bool.true_and]
   rw[q9]
   by_cases ha:p.b < -2097152
   ·rw[bf (decide_eq_false (by omega)),show decide (p.b < -2097152)=true from decide_eq_true ha];rfl
   ·rw[bt (decide_eq_true (by omega)),show decide (p.b < -2097152)=false from decide_eq_false ha]
    congr 3
    by_cases hc:p.b≤2097152
    ·rw[decide_eq_true hc,decide_eq_false (by omega)];rfl
    ·rw[decide_eq_false hc,decide_eq_true (by omega)];rfl
theorem oe5 (p:Pln):ab7 p=okp p:=by unfold ab7;rw[ld5 p];rfl
theorem Gd3 (p:Pln):ab8 p=true:=by unfold ab8;rw[ld5 p];rfl
def chk (l:List Pln):Int:=if (l.length:Int) > 48 then 2 else if l.all okp then 0 else 12
theorem Gd4 (l:List Pln) (hl:l.length≤1000000000):Sa4 l=some (i (chk l),[]):=by
 have hk1:∀ p,Ca6 p=some (b (!okp p),[]):=fun p=>by unfold Ca6;rw[Be7,Be6];rfl
 have hp1:∀ p,Sa2 p=!okp p:=fun p=>by unfold Sa2;rw[hk1];rfl
 have hg1:∀ p,Sa3 p=true:=fun p=>by unfold Sa3;rw[hk1];rfl
 have h:=ib9 (step:=G2 ⟨l,(l.length:Int)⟩) (mk:=fun j=>(⟨(j:Int)⟩:o5)) (c:=fun p=>!okp p) (u:=1) (fin:=2) tP l hl
  (fun j hj=>by
   simp only[G2,D4,Int.toNat_natCast,hp1,hg1,p6 hj (by omega)]
   rw[bt (Rb7 hj),bt (f0 hj),q9])
  (by simp only[G2,D4];rw[bf (Hb0 (Nat.lt_irrefl _))]) 0 (Nat.zero_le _)
 rw[List.drop_zero] at h
 have e:(l.any fun x=>!okp x)=!l.all okp:=by rw[List.not_all_eq_any_not]
 unfold Sa4 da1 A8 la1 E1 chk
 simp only[m0,m8]
 rw[show (⟨0⟩:o5)=⟨((0:Nat):Int)⟩ from rfl,h,e]
 by_cases hn:(l.length:Int) > 48
 ·rw[bt (decide_eq_true hn),if_pos hn]
 ·rw[bf (decide_eq_false hn),if_neg hn]
  cases l.all okp with
  | true=>rfl
  | false =>
   simp only[Bool.not_false,if_true,Nat.zero_add]
   show sl true (sl (Nat.beq 1 1) (sl (decide (((l.findIdx fun p=>!okp p:Nat):Int)≥0)) _ _) _) _=_
   rw[show decide (((l.findIdx fun p=>!okp p:Nat):Int)≥0)=true from decide_eq_true (by omega)]
   rfl
theorem Wd7 (l:List Pln) (hl:l.length≤1000000000):Sa5 l=chk l:=by unfold Sa5;rw[Gd4 l hl];rfl
theorem Wd8 (l:List Pln) (hl:l.length≤1000000000):Sa6 l=true:=by unfold Sa6;rw[Gd4 l hl];rfl
theorem ld6 (l:List Pln) (hl:l.length≤1000000000):ab9 l=some (i (chk l),[]):=by
 have h:=nb3 (step:=Ba9 ⟨l⟩) (mk:=fun j=>(⟨(j:Int)⟩:Z2)) (c:=fun p=>!okp p) (u:=1) (fin:=2) tP l hl
  (fun j hj=>by
   simp only[Ba9,wa6,Int.toNat_natCast,oe5,Gd3,p6 hj (by omega)]
   rw[bt (Rb7 hj),bt (f0 hj),q9])
  (by simp only[Ba9,wa6];rw[bf (Hb0 (Nat.lt_irrefl _))]) 0 (Nat.zero_le _)
 rw[List.drop_zero] at h
 have e:(l.any fun x=>!okp x)=!l.all okp:=by rw[List.not_all_eq_any_not]
 unfold ab9 chk
 simp only[m0,m8]
 rw[show (⟨0⟩:Z2)=⟨((0:Nat):Int)⟩ from rfl,h,e]
 by_cases hn:(l.length:Int) > 48
 ·rw[bt (decide_eq_true hn),if_pos hn]
 ·rw[bf (decide_eq_false hn),if_neg hn]
  cases l.all okp<;>rfl
theorem Tc0 (l:List Pln) (hl:l.length≤1000000000):Oa9 l=chk l:=by unfold Oa9;rw[ld6 l hl];rfl
theorem Tc1 (l:List Pln) (hl:l.length≤1000000000):Pa0 l=true:=by unfold Pa0;rw[ld6 l hl];rfl
theorem Tc2 {l:List Pln}:chk l=0↔l.length≤48∧∀ p∈l,okp p=true:=by
 unfold chk
 by_cases hn:(l.length:Int) > 48
 ·rw[if_pos hn]
  exact⟨fun h=>absurd h (by decide),fun h=>by omega⟩
 ·rw[if_neg hn]
  cases h:l.all okp with
  | true=>exact⟨fun _=>⟨by omega,List.all_eq_true.1 h⟩,fun _=>rfl⟩
  | false=>exact⟨fun h=>absurd h (by decide),fun h'=>by rw[List.all_eq_true.2 h'.2] at h;cases h⟩
end Go.Ev.Ce
namespace Go.Ev.Ce
open Go Go.Ev Go.Ev.L Go.Proofs
theorem btD {p:Prop} {inst:Decidable p} (h:p) {α:Type} (t e:α):sl (@decide p inst) t e=t:=bt (decide_eq_true h) t e
theorem bfD {p:Prop} {inst:Decidable p} (h:¬ p) {α:Type} (t e:α):sl (@decide p inst) t e=e:=bf (decide_eq_false h) t e
theorem n9 {j n:Nat} (h:j < n):(j:Int) < (n:Int):=Int.ofNat_lt.2 h
theorem Q3 {j n:Nat} (h:¬ j < n):¬ (j:Int) < (n:Int):=fun h'=>h (Int.ofNat_lt.1 h')
theorem Ta3 {σ τ α : Type} {step : σ → Stp σ} {mk : Nat → τ → σ} {f : α → List α → τ → τ} {g : List α → τ → τ} {fin : τ → Nat} (l : List α) (I : Nat → τ → Prop) (hl : l.length ≤ 1000000000)
  (g0:∀ a,g [] a=a) (g1:∀ x r a,g (x::r) a=g r (f x r a))
  (h:∀ j a (hj:j < l.length),I j a→step (mk j a)=.next (mk (j+1) (f l[j] (l.drop (j+1)) a))∧I (j+1) (f l[j] (l.drop (j+1)) a))
  (hf:∀ j a,l.length≤j→I j a→step (mk j a)=.exit (fin a)) (j0:Nat) (a:τ) (hi:I j0 a) :
  lp step (mk j0 a)=(fin (g (l.drop j0) a),mk (max j0 l.length) (g (l.drop j0) a))∧I (max j0 l.length) (g (l.drop j0) a):=by
 have key:=Rb8 (step:=step) (I:=fun m s=>∃ j b,m=l.length - j∧max j l.length=max j0 l.length∧s=mk j b∧I j b∧g (l.drop j) b=g (l.drop j0) a)
  (Q:=fun u s=>u=fin (g (l.drop j0) a)∧s=mk (max j0 l.length) (g (l.drop j0) a)∧I (max j0 l.length) (g (l.drop j0) a)) (fun m s ⟨j,b,hm,hj,hs,hb,he⟩=>by
   subst hs
   by_cases hlt:j < l.length
   ·obtain⟨h1,h2⟩:=h j b hlt hb
    refine .inr ⟨_,l.length - (j+1),by omega,h1,j+1,_,rfl,by omega,rfl,h2,?_⟩
    rw[← he,List.drop_eq_getElem_cons hlt,g1]
   ·have hd:l.drop j=[]:=List.drop_eq_nil_of_le (by omega)
    rw[hd,g0] at he
    have hj':j=max j0 l.length:=by omega
    subst he
    rw[← hj']
    exact .inl ⟨_,hf j _ (by omega) hb,rfl,rfl,hb⟩) (l.length - j0) (mk j0 a) (by omega) ⟨j0,a,rfl,rfl,rfl,hi,rfl⟩
 exact⟨Prod.ext key.1 key.2.1,key.2.2⟩
noncomputable def Da3 (r:List Pln) (p q:Pln) (out:List Pt) (s:Pln):List Pt :=
 if (mpt p q s).2&&(!Ub3 out (mpt p q s).1&&inn r (mpt p q s).1) then out++[(mpt p q s).1] else out
noncomputable def gb0 (r:List Pln) (p q:Pln) (l:List Pln) (out:List Pt):List Pt:=l.foldl (Da3 r p q) out
noncomputable def Ta4 (r:List Pln) (p:Pln):List Pln→List Pt→List Pt
 | [],out=>out
 | q::l,out=>Ta4 r p l (gb0 r p q l out)
noncomputable def rc5 (r:List Pln):List Pln→List Pt→List Pt
 | [],out=>out
 | p::l,out=>rc5 r l (Ta4 r p l out)
noncomputable def cor (r:List Pln):List Pt:=rc5 r r []
def Bds (r:List Pln):Prop:=∀ p∈r,Bd p
theorem zc1 (r:List Pln) (p q:Pln) (out:List Pt) (s:Pln):(Da3 r p q out s).length≤out.length+1:=by
 unfold Da3
 split
 ·simp
 ·omega
theorem rc6 (r:List Pln) (p q:Pln):∀ (l:List Pln) (out:List Pt),(gb0 r p q l out).length≤out.length+l.length
 | [],out=>Nat.le_refl _
 | s::l,out=>by
  have h1:=zc1 r p q out s
  have h2:=rc6 r p q l (Da3 r p q out s)
  show (gb0 r p q l (Da3 r p q out s)).length≤_
  simp only[List.length_cons]
  omega
theorem Tc3 (r:List Pln) (p:Pln):∀ (l:List Pln) (out:List Pt),l.length≤200→(Ta4 r p l out).length≤out.length+200*l.length
 | [],out,_=>by simp[Ta4]
 | q::l,out,h=>by
  simp only[List.length_cons] at h ⊢
  have h1:=rc6 r p q l out
  have h2:=Tc3 r p l (gb0 r p q l out) (by omega)
  show (Ta4 r p l (gb0 r p q l out)).length≤_
  omega
theorem Gd5 (r:List Pln):∀ (l:List Pln) (out:List Pt),l.length≤200→(rc5 r l out).length≤out.length+40000*l.length
 | [],out,_=>by simp[rc5]
 | p::l,out,h=>by
  simp only[List.length_cons] at h ⊢
  have h1:=Tc3 r p l out (by omega)
  have h2:=Gd5 r l (Ta4 r p l out) (by omega)
  show (rc5 r l (Ta4 r p l out)).length≤_
  omega
theorem td7 (r:List Pln) (_:Bds r) (hr:r.length≤200):(cor r).length≤8000000:=by
 have:=Gd5 r r [] hr
 rw[List.length_nil] at this
 show (rc5 r r []).length≤_
 omega
noncomputable def ph (out:List Pt):Nat:=match out with
 | []=>0
 | _::_=>1
theorem Gd6 (x:Pt):Ub3 [] x=false:=rfl
theorem rc7 {α:Type} (t:Ty α) (l:List α) (n k:Nat):gL t (l.drop n) k=gL t l (n+k):=by simp[gL,List.getD_eq_getElem?_getD,List.getElem?_drop]
theorem Gd7 {n:Nat} {l:List Pt} (hn:n=l.length) (h:l.length≤1000000000):(Nat.beq n (len (bL tX l))&&Nat.ble ((n+1)*32) room)=true:=by
 subst hn
 rw[P5,Nat.beq_refl,Bool.true_and]
 exact fa1 (by omega)
theorem Wd9 (l:List Pt) (x:Pt):app (bL tX l) [[i x.px,i x.py,i x.pz,i x.pw]]=bL tX (l++[x]):=Na3 tX l [x]
@[reducible] noncomputable def cc3 (k:Nat) (out:List Pt):r7:=⟨ph out,(k:Int),out.length,bL tX out⟩
theorem Pe7 (l:List Pt):slR tX (bL tX l) 0 l.length=l:=gc9 tX l
theorem Be8 (r : List Pln) (hb : Bds r) (hr : r.length ≤ 200) (a c k : Nat) (ha : a < r.length) (hc : c < r.length) (out : List Pt) (ho : out.length ≤ 1000000000) (hk : k < r.length) :
  P8 ⟨r,a,c⟩ (cc3 k out)=.next (cc3 (k+1) (Da3 r r[a] r[c] out r[k])):=by
 have hin:∀ x,ob3 r x=inn r x:=fun x=>af3 r x (by omega)
 have hig:∀ x,ob4 r x=true:=fun x=>af4 r x (by omega)
 have hth:∀ x,Oa7 out x=Ub3 out x:=fun x=>Be4 out x ho
 have htg:∀ x,Oa8 out x=true:=fun x=>Be5 out x ho
 have hme:=Be1 (hb _ (List.getElem_mem ha)) (hb _ (List.getElem_mem hc)) (hb _ (List.getElem_mem hk))
 have hmg:=Be2 (hb _ (List.getElem_mem ha)) (hb _ (List.getElem_mem hc)) (hb _ (List.getElem_mem hk))
 unfold P8
 cases out with
 | nil =>
  show S8 Stp.next Stp.exit Stp.fail _ (cc3 k [])=_
  simp only[S8,cc3,Int.toNat_natCast,m0,K8,ab3 tP ha,ab3 tP hc,ab3 tP hk,hme,hmg,hin,hig,hth,htg,p6 hk (by omega)]
  rw[btD (n9 hk),bt (f0 ha),bt (f0 hc),bt (f0 hk),q9]
  unfold Da3
  rw[Gd6]
  cases (mpt r[a] r[c] r[k]).2 with
  | false=>rfl
  | true =>
   cases inn r (mpt r[a] r[c] r[k]).1 with
   | false=>rfl
   | true=>rfl
 | cons o os =>
  show S9 Stp.next Stp.exit Stp.fail _ (cc3 k (o::os))=_
  simp only[S9,cc3,Int.toNat_natCast,m0,K8,ab3 tP ha,ab3 tP hc,ab3 tP hk,hme,hmg,hin,hig,Pe7,hc3,hth,htg,p6 hk (by omega)]
  rw[btD (n9 hk),bt (f0 ha),bt (f0 hc),bt (f0 hk),q9,Gd7 rfl ho,Wd9]
  unfold Da3
  cases (mpt r[a] r[c] r[k]).2 with
  | false=>rfl
  | true =>
   cases inn r (mpt r[a] r[c] r[k]).1 with
   | false=>cases Ub3 (o::os) (mpt r[a] r[c] r[k]).1<;>rfl
   | true =>
    cases Ub3 (o::os) (mpt r[a] r[c] r[k]).1 with
    | true=>rfl
    | false =>
     show Stp.next (⟨1,((k+1:Nat):Int),(o::os).length+1,bL tX (o::os++[(mpt r[a] r[c] r[k]).1])⟩:r7)=_
     simp[ph]
theorem Pe8 (r:List Pln) (a c k:Nat) (out:List Pt) (hk:r.length≤k):P8 ⟨r,a,c⟩ (cc3 k out)=.exit (ph out+1):=by
 unfold P8
 have this:¬ ((k:Int) < (r.length:Int)):=by omega
 cases out with
 | nil =>
  show S8 Stp.next Stp.exit Stp.fail _ (cc3 k [])=_
  simp only[S8,cc3]
  rw[bfD this]
  rfl
 | cons o os =>
  show S9 Stp.next Stp.exit Stp.fail _ (cc3 k (o::os))=_
  simp only[S9,cc3]
  rw[bfD this]
  rfl
theorem Be9 (r : List Pln) (hb : Bds r) (hr : r.length ≤ 200) (a c : Nat) (ha : a < r.length) (hc : c < r.length) (k : Nat) (out : List Pt) (ho : out.length ≤ 100000000) :
  ∃ m,lp (P8 ⟨r,a,c⟩) (cc3 k out)=(ph (gb0 r r[a] r[c] (r.drop k) out)+1,cc3 m (gb0 r r[a] r[c] (r.drop k) out)) :=
 ⟨_,(Ta3 (mk:=cc3) (f:=fun s _ out=>Da3 r r[a] r[c] out s) (g:=fun l out=>gb0 r r[a] r[c] l out) (fin:=fun out=>ph out+1) r (fun j o=>o.length+k≤out.length+j) (by omega)
  (fun _=>rfl) (fun _ _ _=>rfl) (fun j o hj hi=>⟨Be8 r hb hr a c j ha hc o (by omega) hj,by have:=zc1 r r[a] r[c] o r[j];show (Da3 r r[a] r[c] o r[j]).length+k≤out.length+(j+1);omega⟩)
  (fun j o hj _=>Pe8 r a c j o hj) k out (by omega)).1⟩
@[reducible] noncomputable def cc4 (r:List Pln) (j:Nat) (out:List Pt):s9:=⟨ph out,r,(j:Int),out.length,bL tX out⟩
theorem Ce0 (r : List Pln) (hb : Bds r) (hr : r.length ≤ 200) (a j : Nat) (ha : a < r.length) (out : List Pt) (ho : out.length ≤ 100000000) (hj : j < r.length) :
  L6 ⟨a⟩ (cc4 r j out)=.next (cc4 r (j+1) (gb0 r r[a] r[j] (r.drop (j+1)) out)):=by
 obtain⟨m,hm⟩:=Be9 r hb hr a j ha hj (j+1) out ho
 unfold L6
 generalize gb0 r r[a] r[j] (r.drop (j+1)) out=res at *
 cases out with
 | nil =>
  show T0 Stp.next Stp.exit Stp.fail _ (cc4 r j [])=_
  simp only[T0,cc4,m0,m8,p6 hj (by omega)]
  rw[show (⟨0,((j+1:Nat):Int),0,[]⟩:r7)=cc3 (j+1) [] from rfl,hm,btD (n9 hj)]
  cases res<;>rfl
 | cons o os =>
  show T1 Stp.next Stp.exit Stp.fail _ (cc4 r j (o::os))=_
  simp only[T1,cc4,m0,m8,p6 hj (by omega)]
  rw[show (⟨1,((j+1:Nat):Int),(o::os).length,bL tX (o::os)⟩:r7)=cc3 (j+1) (o::os) from rfl,hm,btD (n9 hj)]
  cases res<;>rfl
theorem Pe9 (r:List Pln) (a j:Nat) (out:List Pt) (hj:r.length≤j):L6 ⟨a⟩ (cc4 r j out)=.exit (ph out+1):=by
 unfold L6
 have this:¬ ((j:Int) < (r.length:Int)):=by omega
 cases out with
 | nil =>
  show T0 Stp.next Stp.exit Stp.fail _ (cc4 r j [])=_
  simp only[T0,cc4]
  rw[bfD this]
  rfl
 | cons o os =>
  show T1 Stp.next Stp.exit Stp.fail _ (cc4 r j (o::os))=_
  simp only[T1,cc4]
  rw[bfD this]
  rfl
theorem Ce1 (r : List Pln) (hb : Bds r) (hr : r.length ≤ 200) (a : Nat) (ha : a < r.length) (j : Nat) (out : List Pt) (ho : out.length ≤ 40000 * a) :
  ∃ m,lp (L6 ⟨a⟩) (cc4 r j out)=(ph (Ta4 r r[a] (r.drop j) out)+1,cc4 r m (Ta4 r r[a] (r.drop j) out))∧(Ta4 r r[a] (r.drop j) out).length≤40000*(a+1):=by
 have hk:=Ta3 (step:=L6 ⟨a⟩) (mk:=cc4 r) (f:=fun q l out=>gb0 r r[a] q l out) (g:=fun l out=>Ta4 r r[a] l out) (fin:=fun out=>ph out+1) r (fun k o=>o.length≤40000*a+200*(k - j)∧j≤k∧k≤j+r.length) (by omega)
  (fun _=>rfl) (fun _ _ _=>rfl) (fun k o hj hi=>⟨Ce0 r hb hr a k ha o (by omega) hj,by
   have:=rc6 r r[a] r[k] (r.drop (k+1)) o
   rw[List.length_drop] at this
   show (gb0 r r[a] r[k] (r.drop (k+1)) o).length≤40000*a+200*(k+1 - j)∧j≤k+1∧k+1≤j+r.length
   omega⟩)
  (fun k o hj _=>Pe9 r a k o hj) j out (by omega)
 exact⟨_,hk.1,by have:=hk.2;omega⟩
@[reducible] noncomputable def jc0 (r:List Pln) (j:Nat) (out:List Pt):A6:=⟨ph out,r,(j:Int),out.length,bL tX out⟩
theorem Xd0 (r : List Pln) (hb : Bds r) (hr : r.length ≤ 200) (a : Nat) (ha : a < r.length) (out : List Pt) (ho : out.length ≤ 40000 * a) :
  P9 ⟨⟩ (jc0 r a out)=.next (jc0 r (a+1) (Ta4 r r[a] (r.drop (a+1)) out))∧(Ta4 r r[a] (r.drop (a+1)) out).length≤40000*(a+1):=by
 obtain⟨m,hm,hl⟩:=Ce1 r hb hr a ha (a+1) out ho
 refine⟨?_,hl⟩
 clear hl
 unfold P9
 generalize Ta4 r r[a] (r.drop (a+1)) out=res at *
 cases out with
 | nil =>
  show T2 Stp.next Stp.exit Stp.fail _ (jc0 r a [])=_
  simp only[T2,jc0,m0,m8,p6 ha (by omega)]
  rw[show (⟨0,r,((a+1:Nat):Int),0,[]⟩:s9)=cc4 r (a+1) [] from rfl,hm,btD (n9 ha)]
  cases res<;>rfl
 | cons o os =>
  show T3 Stp.next Stp.exit Stp.fail _ (jc0 r a (o::os))=_
  simp only[T3,jc0,m0,m8,p6 ha (by omega)]
  rw[show (⟨1,r,((a+1:Nat):Int),(o::os).length,bL tX (o::os)⟩:s9)=cc4 r (a+1) (o::os) from rfl,hm,btD (n9 ha)]
  cases res<;>rfl
theorem Qe0 (r:List Pln) (j:Nat) (out:List Pt) (hj:r.length≤j):P9 ⟨⟩ (jc0 r j out)=.exit (ph out+1):=by
 unfold P9
 have this:¬ ((j:Int) < (r.length:Int)):=by omega
 cases out with
 | nil =>
  show T2 Stp.next Stp.exit Stp.fail _ (jc0 r j [])=_
  simp only[T2,jc0]
  rw[bfD this]
  rfl
 | cons o os =>
  show T3 Stp.next Stp.exit Stp.fail _ (jc0 r j (o::os))=_
  simp only[T3,jc0]
  rw[bfD this]
  rfl
theorem Ce2 (r:List Pln) (hb:Bds r) (hr:r.length≤200):∃ m,lp (P9 ⟨⟩) (jc0 r 0 [])=(ph (cor r)+1,jc0 r m (cor r))∧(cor r).length≤8000000:=by
 have hk:=Ta3 (step:=P9 ⟨⟩) (mk:=jc0 r) (f:=fun q l out=>Ta4 r q l out) (g:=fun l out=>rc5 r l out) (fin:=fun out=>ph out+1) r (fun k o=>o.length≤40000*k∧k≤r.length) (by omega)
  (fun _=>rfl) (fun _ _ _=>rfl) (fun k o hj hi=>⟨(Xd0 r hb hr k hj o hi.1).1,(Xd0 r hb hr k hj o hi.1).2,hj⟩)
  (fun k o hj _=>Qe0 r k o hj) 0 [] (by simp)
 exact⟨_,hk.1,by have:=hk.2;rw[show max 0 r.length=r.length by omega] at this;have h1:=this.1;show (rc5 r r []).length≤_;rw[List.drop_zero] at h1;omega⟩
noncomputable def slX (l:List Pt):b7×List b8:=match l with
 | []=>(.v (.slice none 0 0),[])
 | _::_=>(.sl 0 0 l.length 0,[⟨54,4,bL tX l,true,false,0⟩])
theorem td8 (l:List Pt):(one (r1L tX)).rd (slX l)=some l:=by
 cases l with
 | nil=>rfl
 | cons x l =>
  show Bool.rec (motive:=fun _=>Option (List Pt)) none (some (slR tX (bL tX (x::l)) 0 (x::l).length)) (Bool.and true (okS tX (bL tX (x::l)) 0 (x::l).length))=_
  rw[gc9,hc3]
  rfl
theorem Dc0 (r:List Pln) (hb:Bds r) (hr:r.length≤200):Ja1 r=some (slX (cor r)):=by
 obtain⟨m,hm,_⟩:=Ce2 r hb hr
 unfold Ja1
 simp only[m0,m8]
 rw[show (⟨0,r,0,0,[]⟩:A6)=jc0 r 0 [] from rfl,hm]
 cases cor r<;>rfl
theorem ya9 {ρ:Type} (R:RR ρ) {x:b7×List b8} {r:ρ} (h:R.rd x=some r):L4 R (some x)=r:=by
 show Option.rec (motive:=fun _=>ρ) R.d (fun x=>x) (R.rd x)=r
 rw[h]
theorem Ka3 {ρ:Type} (R:RR ρ) {x:b7×List b8} {r:ρ} (h:R.rd x=some r):okO R (some x)=true:=by
 show Option.rec (motive:=fun _=>Bool) false (fun _=>true) (R.rd x)=true
 rw[h]
theorem Tc4 (r:List Pln) (hb:Bds r) (hr:r.length≤200):Ja2 r=cor r:=by unfold Ja2;rw[Dc0 r hb hr];exact ya9 _ (td8 _)
theorem Tc5 (r:List Pln) (hb:Bds r) (hr:r.length≤200):Ja3 r=true:=by unfold Ja3;rw[Dc0 r hb hr];exact Ka3 _ (td8 _)
noncomputable def dd3 (x:Pt):List b7:=[i x.px,i x.py,i x.pz,i x.pw,b true]
noncomputable def Mb8 (l:List Pt):List (List b7):=l.map dd3
@[reducible] noncomputable def flK:List (Nat×CK):=[(0,(.int .i64)),(1,(.int .i64)),(2,(.int .i64)),(3,(.int .i64))]
theorem Gd8 (x q:Pt):bc6 flK [i x.px,i x.py,i x.pz,i x.pw] (dd3 q)=eqX x q:=by
 show Bool.and (decide (x.px=q.px)) (Bool.and (decide (x.py=q.py)) (Bool.and (decide (x.pz=q.pz)) (Bool.and (decide (x.pw=q.pw)) true)))=_
 unfold eqX
 have h:∀ a c:Int,decide (a=c)=(c==a):=fun a c=>by rw[Bool.eq_iff_iff,decide_eq_true_eq,beq_iff_eq];exact eq_comm
 rw[h,h,h,h]
theorem Tc6 (x:Pt):∀ l,lc6 4 flK [i x.px,i x.py,i x.pz,i x.pw] (Mb8 l)=Ub3 l x
 | []=>rfl
 | q::l=>by
  have ih:=Tc6 x l
  unfold lc6 at ih ⊢
  show Option.rec (motive:=fun _=>Bool) false (fun r=>toB (hdA (e7 r 4))) (Bool.rec (motive:=fun _=>Option (List b7)) (Bc3 flK [i x.px,i x.py,i x.pz,i x.pw] (Mb8 l)) (some (dd3 q)) (bc6 flK [i x.px,i x.py,i x.pz,i x.pw] (dd3 q)))=Ub3 (q::l) x
  rw[Gd8]
  unfold Ub3 at ih ⊢
  rw[List.any_cons]
  cases eqX x q with
  | true=>rfl
  | false=>exact ih
theorem ld7 (x:Pt):∀ l,Ub3 l x=false→xb6 flK [i x.px,i x.py,i x.pz,i x.pw] (dd3 x) (Mb8 l)=Mb8 (l++[x])
 | [],_=>rfl
 | q::l,h=>by
  unfold Ub3 at h
  rw[List.any_cons,Bool.or_eq_false_iff] at h
  show Bool.rec (motive:=fun _=>List (List b7)) (dd3 q::xb6 flK [i x.px,i x.py,i x.pz,i x.pw] (dd3 x) (Mb8 l)) (dd3 x::Mb8 l) (bc6 flK [i x.px,i x.py,i x.pz,i x.pw] (dd3 q))=_
  rw[Gd8,h.1,ld7 x l h.2]
  rfl
@[reducible] noncomputable def cc5 (k:Nat) (out:List Pt):j6:=⟨ph out,(k:Int),out.length,bL tX out,Mb8 out⟩
structure C2 (P:i9) (r:List Pln) (p q:Pln) (lo:Nat):Prop where
 ns:P.Td6=(r.drop lo).length
 gs:P.ib0=fun k=>tP.row (gL tP r (lo+k))
 is:P.xd7=((r.drop lo).length:Int)
 p1:(⟨⟨P.l5,P.l6,P.l7⟩,P.K6⟩:Pln)=p
 q1:(⟨⟨P.ha5,P.ha6,P.ha7⟩,P.lb2⟩:Pln)=q
 r1:P.ua2=r
theorem td9 (s:Pln):(⟨⟨toI (hdA (tP.row s)),toI (hdA (tlA (tP.row s))),toI (hdA (tlA (tlA (tP.row s))))⟩,toI (hdA (tlA (tlA (tlA (tP.row s)))))⟩:Pln)=s:=rfl
theorem ud0 (s:Pln):((Nat.ble 4 (len (tP.row s)))&&(K7 [(CK.int .i64),(CK.int .i64),(CK.int .i64),(CK.int .i64)] (tP.row s)))=true:=rfl
theorem Ce3 {P : i9} {r : List Pln} {p q : Pln} {lo : Nat} (h : C2 P r p q lo) (hb : Bds r) (hr : r.length ≤ 200) (hp : Bd p) (hq : Bd q) (k : Nat) (out : List Pt) (ho : out.length ≤ 1000000000) (hk : k < (r.drop lo).length) :
  w7 P (cc5 k out)=.next (cc5 (k+1) (Da3 r p q out (r.drop lo)[k])):=by
 have hwi:∀ x,Z3 r x=inn r x:=fun x=>Sc6 r x (by omega)
 have hwg:∀ x,Z4 r x=true:=fun x=>Sc7 r x (by omega)
 have hs:gL tP r (lo+k)=(r.drop lo)[k]:=by rw[← rc7,ab3 tP hk]
 have hbs:Bd (r.drop lo)[k]:=hb _ (List.mem_of_mem_drop (List.getElem_mem hk))
 have hd:(r.drop lo).length≤200:=by rw[List.length_drop];omega
 have hme:=Pe3 hp hq hbs
 have hmg:=Pe4 hp hq hbs
 obtain⟨x1,x2,x3,x4,x5,x6,x7,x8,x9,x10,x11,x12,x13,x14,x15,x16,x17,x18,x19,x20,x21⟩:=P
 obtain⟨ns,gs,is,p1,q1,r1⟩:=h
 simp only at ns gs is p1 q1 r1
 have r1:=r1.symm
 subst ns gs is r1
 unfold w7
 cases out with
 | nil =>
  show z7 Stp.next Stp.exit Stp.fail _ (cc5 k [])=_
  simp only[z7,cc5,Int.toNat_natCast,m0,K8,p1,q1,hs,td9,ud0,hme,hmg,hwi,hwg,p6 hk (by omega)]
  rw[btD (n9 hk),bt (f0 hk),q9,q9]
  unfold Da3
  rw[Gd6]
  cases (mpt p q (r.drop lo)[k]).2 with
  | false=>rfl
  | true =>
   cases inn r (mpt p q (r.drop lo)[k]).1 with
   | false=>rfl
   | true=>rfl
 | cons o os =>
  show z8 Stp.next Stp.exit Stp.fail _ (cc5 k (o::os))=_
  simp only[z8,cc5,Int.toNat_natCast,m0,K8,p1,q1,hs,td9,ud0,hme,hmg,hwi,hwg,p6 hk (by omega),Tc6]
  rw[btD (n9 hk),bt (f0 hk),q9,q9,Gd7 rfl ho,Wd9]
  unfold Da3
  cases (mpt p q (r.drop lo)[k]).2 with
  | false=>rfl
  | true =>
   cases hx:Ub3 (o::os) (mpt p q (r.drop lo)[k]).1 with
   | true=>rfl
   | false =>
    cases inn r (mpt p q (r.drop lo)[k]).1 with
    | false=>rfl
    | true =>
     show Stp.next (⟨1,((k+1:Nat):Int),(o::os).length+1,bL tX (o::os++[(mpt p q (r.drop lo)[k]).1]),xb6 flK [i (mpt p q (r.drop lo)[k]).1.px,i (mpt p q (r.drop lo)[k]).1.py,i (mpt p q (r.drop lo)[k]).1.pz,i (mpt p q (r.drop lo)[k]).1.pw] (dd3 (mpt p q (r.drop lo)[k]).1) (Mb8 (o::os))⟩:j6)=_
     rw[ld7 _ _ hx]
     simp[ph]
theorem Qe1 {P:i9} {r:List Pln} {p q:Pln} {lo:Nat} (h:C2 P r p q lo) (k:Nat) (out:List Pt) (hk:(r.drop lo).length≤k):w7 P (cc5 k out)=.exit (ph out+1):=by
 obtain⟨x1,x2,x3,x4,x5,x6,x7,x8,x9,x10,x11,x12,x13,x14,x15,x16,x17,x18,x19,x20,x21⟩:=P
 obtain⟨ns,gs,is,p1,q1,r1⟩:=h
 simp only at ns gs is p1 q1 r1
 have r1:=r1.symm
 subst ns gs is r1
 unfold w7
 have this:¬ ((k:Int) < ((r.drop lo).length:Int)):=by omega
 cases out with
 | nil =>
  show z7 Stp.next Stp.exit Stp.fail _ (cc5 k [])=_
  simp only[z7,cc5]
  rw[bfD this]
  rfl
 | cons o os =>
  show z8 Stp.next Stp.exit Stp.fail _ (cc5 k (o::os))=_
  simp only[z8,cc5]
  rw[bfD this]
  rfl
theorem Ce4 {P : i9} {r : List Pln} {p q : Pln} {lo : Nat} (h : C2 P r p q lo) (hb : Bds r) (hr : r.length ≤ 200) (hp : Bd p) (hq : Bd q) (out : List Pt) (ho : out.length ≤ 100000000) :
  ∃ m,lp (w7 P) (cc5 0 out)=(ph (gb0 r p q (r.drop lo) out)+1,cc5 m (gb0 r p q (r.drop lo) out)):=by
 have hd:(r.drop lo).length≤200:=by rw[List.length_drop];omega
 exact⟨_,(Ta3 (mk:=cc5) (f:=fun s _ out=>Da3 r p q out s) (g:=fun l out=>gb0 r p q l out) (fin:=fun out=>ph out+1) (r.drop lo) (fun j o=>o.length≤out.length+j) (by omega)
  (fun _=>rfl) (fun _ _ _=>rfl) (fun j o hj hi=>⟨Ce3 h hb hr hp hq j o (by omega) hj,by have:=zc1 r p q o (r.drop lo)[j];show (Da3 r p q o (r.drop lo)[j]).length≤out.length+(j+1);omega⟩)
  (fun j o hj _=>Qe1 h j o hj) 0 out (by omega)).1⟩
@[reducible] noncomputable def cc6 (r:List Pln) (j:Nat) (out:List Pt):j9:=⟨ph out,r,(j:Int),r,r,out.length,bL tX out,Mb8 out⟩
structure C1 (P:j7) (r:List Pln) (p:Pln) (a:Nat):Prop where
 i3:P.is3=(a:Int)
 ns:P.uc8=(r.drop (a+1)).length
 gs:P.lb1=fun k=>tP.row (gL tP r (a+1+k))
 is:P.ka2=((r.drop (a+1)).length:Int)
 p1:(⟨⟨P.l5,P.l6,P.l7⟩,P.K6⟩:Pln)=p
theorem Ce5 {P : j7} {r : List Pln} {p : Pln} {a : Nat} (h : C1 P r p a) (hb : Bds r) (hr : r.length ≤ 200) (hp : Bd p) (j : Nat) (out : List Pt) (ho : out.length ≤ 100000000) (hj : j < (r.drop (a + 1)).length) :
  w8 P (cc6 r j out)=.next (cc6 r (j+1) (gb0 r p (r.drop (a+1))[j] ((r.drop (a+1)).drop (j+1)) out)):=by
 have hs:gL tP r (a+1+j)=(r.drop (a+1))[j]:=by rw[← rc7,ab3 tP hj]
 have hbs:Bd (r.drop (a+1))[j]:=hb _ (List.mem_of_mem_drop (List.getElem_mem hj))
 have hd:=hj
 rw[List.length_drop] at hd
 have hW:W (W ((a:Int)+(j:Int))+2)=((a+1+(j+1):Nat):Int):=by rw[yb3,Ia1 (by omega) (by omega)];omega
 have hdl:(r.drop (a+1)).length≤4611686018427387904:=by rw[List.length_drop];omega
 have hlo:inB ((a+1+(j+1):Nat):Int) (r.length+1)=true:=f0 (by omega)
 rw[List.drop_drop]
 generalize hq:(r.drop (a+1))[j]=q at *
 obtain⟨x1,x2,x3,x4,x5,x6,x7,x8,x9,x10⟩:=P
 obtain⟨i3,ns,gs,is,p1⟩:=h
 simp only at i3 ns gs is p1
 subst i3 ns gs is
 unfold w8
 have key:∀ (P2:i9),C2 P2 r p q (a+1+(j+1))→_:=fun P2 h2=>Ce4 h2 hb hr hp hbs out ho
 cases out with
 | nil =>
  show A0 Stp.next Stp.exit Stp.fail _ (cc6 r j [])=_
  simp only[A0,cc6,m0,m8,p6 hj hdl,hW,Int.toNat_natCast,hs,ud0,hlo]
  rw[show (⟨0,0,0,[],[]⟩:j6)=cc5 0 [] from rfl]
  generalize hP:i9.mk _ _ _ _ _ _ _ _ _ _ _ _ _ _ _ _ _ _ _ _ _=P2
  obtain⟨m,hm⟩:=key P2 (by
   subst hP
   exact⟨by simp,rfl,by simp,p1,td9 q,rfl⟩)
  rw[hm,btD (n9 hj),bt (f0 hj)]
  cases gb0 r p q (r.drop (a+1+(j+1))) []<;>rfl
 | cons o os =>
  show A1 Stp.next Stp.exit Stp.fail _ (cc6 r j (o::os))=_
  simp only[A1,cc6,m0,m8,p6 hj hdl,hW,Int.toNat_natCast,hs,ud0,hlo]
  rw[show (⟨1,0,(o::os).length,bL tX (o::os),Mb8 (o::os)⟩:j6)=cc5 0 (o::os) from rfl]
  generalize hP:i9.mk _ _ _ _ _ _ _ _ _ _ _ _ _ _ _ _ _ _ _ _ _=P2
  obtain⟨m,hm⟩:=key P2 (by
   subst hP
   exact⟨by simp,rfl,by simp,p1,td9 q,rfl⟩)
  rw[hm,btD (n9 hj),bt (f0 hj)]
  cases gb0 r p q (r.drop (a+1+(j+1))) (o::os)<;>rfl
theorem Qe2 {P:j7} {r:List Pln} {p:Pln} {a:Nat} (h:C1 P r p a) (j:Nat) (out:List Pt) (hj:(r.drop (a+1)).length≤j):w8 P (cc6 r j out)=.exit (ph out+1):=by
 obtain⟨x1,x2,x3,x4,x5,x6,x7,x8,x9,x10⟩:=P
 obtain⟨i3,ns,gs,is,p1⟩:=h
 simp only at i3 ns gs is p1
 subst i3 ns gs is
 unfold w8
 have this:¬ ((j:Int) < ((r.drop (a+1)).length:Int)):=by omega
 cases out with
 | nil =>
  show A0 Stp.next Stp.exit Stp.fail _ (cc6 r j [])=_
  simp only[A0,cc6]
  rw[bfD this]
  rfl
 | cons o os =>
  show A1 Stp.next Stp.exit Stp.fail _ (cc6 r j (o::os))=_
  simp only[A1,cc6]
  rw[bfD this]
  rfl
theorem Ce6 {P : j7} {r : List Pln} {p : Pln} {a : Nat} (h : C1 P r p a) (hb : Bds r) (hr : r.length ≤ 200) (hp : Bd p) (out : List Pt) (ho : out.length ≤ 10000000) :
  ∃ m,lp (w8 P) (cc6 r 0 out)=(ph (Ta4 r p (r.drop (a+1)) out)+1,cc6 r m (Ta4 r p (r.drop (a+1)) out)):=by
 have hd:(r.drop (a+1)).length≤200:=by rw[List.length_drop];omega
 exact⟨_,(Ta3 (mk:=cc6 r) (f:=fun q l out=>gb0 r p q l out) (g:=fun l out=>Ta4 r p l out) (fin:=fun out=>ph out+1) (r.drop (a+1)) (fun k o=>o.length≤out.length+200*k) (by omega)
  (fun _=>rfl) (fun _ _ _=>rfl) (fun k o hj hi=>⟨Ce5 h hb hr hp k o (by omega) hj,by
   have:=rc6 r p (r.drop (a+1))[k] ((r.drop (a+1)).drop (k+1)) o
   rw[List.length_drop] at this
   show (gb0 r p (r.drop (a+1))[k] ((r.drop (a+1)).drop (k+1)) o).length≤out.length+200*(k+1)
   omega⟩)
  (fun k o hj _=>Qe2 h k o hj) 0 out (by omega)).1⟩
@[reducible] noncomputable def jc1 (r:List Pln) (j:Nat) (out:List Pt):l8:=⟨ph out,r,(j:Int),r,r,out.length,bL tX out,Mb8 out⟩
theorem Ce7 {P : q8} (r : List Pln) (h : P.Va5 = (r.length : Int)) (hb : Bds r) (hr : r.length ≤ 200) (a : Nat) (ha : a < r.length) (out : List Pt) (ho : out.length ≤ 40000 * a) :
  w9 P (jc1 r a out)=.next (jc1 r (a+1) (Ta4 r r[a] (r.drop (a+1)) out)):=by
 have hbs:Bd r[a]:=hb _ (List.getElem_mem ha)
 have hlo:inB ((a+1:Nat):Int) (r.length+1)=true:=f0 (by omega)
 have key:∀ (P2:j7),C1 P2 r r[a] a→_:=fun P2 h2=>Ce6 h2 hb hr hbs out (by omega)
 obtain⟨x1⟩:=P
 simp only at h
 subst h
 unfold w9
 cases out with
 | nil =>
  show A2 Stp.next Stp.exit Stp.fail _ (jc1 r a [])=_
  simp only[A2,jc1,m0,m8,p6 ha (by omega),Int.toNat_natCast,hlo,ab3 tP ha]
  rw[show (⟨0,r,0,r,r,0,[],[]⟩:j9)=cc6 r 0 [] from rfl]
  generalize hP:j7.mk _ _ _ _ _ _ _ _ _ _=P2
  obtain⟨m,hm⟩:=key P2 (by
   subst hP
   exact⟨rfl,by simp,rfl,by simp,rfl⟩)
  rw[hm,btD (n9 ha),bt (f0 ha)]
  cases Ta4 r r[a] (r.drop (a+1)) []<;>rfl
 | cons o os =>
  show A3 Stp.next Stp.exit Stp.fail _ (jc1 r a (o::os))=_
  simp only[A3,jc1,m0,m8,p6 ha (by omega),Int.toNat_natCast,hlo,ab3 tP ha]
  rw[show (⟨1,r,0,r,r,(o::os).length,bL tX (o::os),Mb8 (o::os)⟩:j9)=cc6 r 0 (o::os) from rfl]
  generalize hP:j7.mk _ _ _ _ _ _ _ _ _ _=P2
  obtain⟨m,hm⟩:=key P2 (by
   subst hP
   exact⟨rfl,by simp,rfl,by simp,rfl⟩)
  rw[hm,btD (n9 ha),bt (f0 ha)]
  cases Ta4 r r[a] (r.drop (a+1)) (o::os)<;>rfl
theorem Qe3 {P:q8} (r:List Pln) (h:P.Va5=(r.length:Int)) (j:Nat) (out:List Pt) (hj:r.length≤j):w9 P (jc1 r j out)=.exit (ph out+1):=by
 obtain⟨x1⟩:=P
 simp only at h
 subst h
 unfold w9
 have this:¬ ((j:Int) < (r.length:Int)):=by omega
 cases out with
 | nil =>
  show A2 Stp.next Stp.exit Stp.fail _ (jc1 r j [])=_
  simp only[A2,jc1]
  rw[bfD this]
  rfl
 | cons o os =>
  show A3 Stp.next Stp.exit Stp.fail _ (jc1 r j (o::os))=_
  simp only[A3,jc1]
  rw[bfD this]
  rfl
theorem Ce8 (r:List Pln) (hb:Bds r) (hr:r.length≤200):∃ m,lp (w9 ⟨(r.length:Int)⟩) (jc1 r 0 [])=(ph (cor r)+1,jc1 r m (cor r)) :=
 ⟨_,(Ta3 (step:=w9 ⟨(r.length:Int)⟩) (mk:=jc1 r) (f:=fun q l out=>Ta4 r q l out) (g:=fun l out=>rc5 r l out) (fin:=fun out=>ph out+1) r (fun k o=>o.length≤40000*k) (by omega)
  (fun _=>rfl) (fun _ _ _=>rfl) (fun k o hj hi=>⟨Ce7 r rfl hb hr k hj o hi,by
   have h1:=Tc3 r r[k] (r.drop (k+1)) o (by rw[List.length_drop];omega)
   rw[List.length_drop] at h1
   show (Ta4 r r[k] (r.drop (k+1)) o).length≤40000*(k+1)
   omega⟩)
  (fun k o hj _=>Qe3 r rfl k o hj) 0 [] (by simp)).1⟩
theorem Tc7 (r:List Pln) (hb:Bds r) (hr:r.length≤200):X6 r=some (slX (cor r)):=by
 obtain⟨m,hm⟩:=Ce8 r hb hr
 unfold X6
 simp only[m0,m8]
 rw[show (⟨0,r,0,r,r,0,[],[]⟩:l8)=jc1 r 0 [] from rfl,hm]
 cases cor r<;>rfl
theorem ld8 (r:List Pln) (hb:Bds r) (hr:r.length≤200):X7 r=cor r:=by unfold X7;rw[Tc7 r hb hr];exact ya9 _ (td8 _)
theorem ld9 (r:List Pln) (hb:Bds r) (hr:r.length≤200):X8 r=true:=by unfold X8;rw[Tc7 r hb hr];exact Ka3 _ (td8 _)
end Go.Ev.Ce
namespace Go.Ev.Ce
open Go Go.Ev Go.Ev.L Go.Proofs
noncomputable def slP (l:List Pln):b7×List b8:=(.sl 0 0 l.length 0,[⟨50,4,bL tP l,true,false,0⟩])
theorem jc2 (l:List Pln):(one (r1L tP)).rd (slP l)=some l:=by
 show Bool.rec (motive:=fun _=>Option (List Pln)) none (some (slR tP (bL tP l) 0 l.length)) (Bool.and true (okS tP (bL tP l) 0 l.length))=_
 rw[gc9,hc3]
 rfl
theorem md0 {α:Type} (t:Ty α) (l:List α):(one (r1L t)).rd (eL t l,[])=some l:=by
 show Bool.rec (motive:=fun _=>Option (List α)) none (some (rt t l)) (Bool.and (Nat.beq t.es t.es) (okE t l))=_
 rw[m0,K8,Nat.beq_refl]
 rfl
noncomputable def ws:List Pln:=[⟨⟨1,0,0⟩,24⟩,⟨⟨-1,0,0⟩,24⟩,⟨⟨0,1,0⟩,24⟩,⟨⟨0,-1,0⟩,24⟩,⟨⟨0,0,1⟩,24⟩,⟨⟨0,0,-1⟩,24⟩]
theorem Ke1:Bds ws:=by
 intro p hp
 have:okp p=true:=by
  have h:ws.all okp=true:=by decide
  exact List.all_eq_true.1 h p hp
 exact td5 this
noncomputable def oe6 (lo hi:V3):List Pln:=[⟨⟨1,0,0⟩,hi.x⟩,⟨⟨-1,0,0⟩,W (0 - lo.x)⟩,⟨⟨0,1,0⟩,hi.y⟩,⟨⟨0,-1,0⟩,W (0 - lo.y)⟩,⟨⟨0,0,1⟩,hi.z⟩,⟨⟨0,0,-1⟩,W (0 - lo.z)⟩]
theorem oe7 (lo hi:V3):Zb5 lo hi=some (slP (oe6 lo hi)):=rfl
theorem Ke2 (lo hi:V3):Cb6 lo hi=oe6 lo hi:=by unfold Cb6;rw[oe7];exact ya9 _ (jc2 _)
theorem Ke3 (lo hi:V3):lb7 lo hi=true:=by unfold lb7;rw[oe7];exact Ka3 _ (jc2 _)
theorem Qe4:oe6 ⟨-24,-24,-24⟩ ⟨24,24,24⟩=ws:=by
 simp only[oe6,ws]
 rw[show W (0 - -24)=24 from by rw[de2];rfl]
theorem Ce9 {l:List Pln}:Nat.beq (len (bL tP l)) 0=l.isEmpty:=by rw[P5];cases l<;>rfl
theorem oe8 (c:List Pln) (hc:c.length≤1000000000):Cb7 c=some (slP (c++ws)):=by
 unfold Cb7
 simp only[nb2,Ke2,Ke3,Qe4,Ce9]
 have h6:(0+len (bL tP c))=c.length:=by rw[P5];omega
 have hw:len (bL tP ws)=6:=rfl
 rw[h6,hw]
 have e1:Nat.ble (c.length*32) room=true:=fa1 (by omega)
 have e2:Nat.ble ((c.length+6)*32) room=true:=fa1 (by omega)
 have e3:app (app [] (bL tP c)) (bL tP ws)=bL tP (c++ws):=Na3 tP c ws
 have e4:Nat.beq c.length (len (app [] (bL tP c)))=true:=by
  rw[show app [] (bL tP c)=bL tP c from rfl,P5,Nat.beq_refl]
 rw[e1,e2,e3,e4]
 cases c with
 | nil=>rfl
 | cons p c =>
  show some (b7.sl 0 0 ((p::c).length+6) 0,[(⟨50,4,bL tP (p::c++ws),true,false,0⟩:b8)])=_
  unfold slP
  rw[List.length_append]
  rfl
theorem Ke4 (c:List Pln) (hc:c.length≤1000000000):Cb8 c=c++ws:=by unfold Cb8;rw[oe8 c hc];exact ya9 _ (jc2 _)
theorem Ke5 (c:List Pln) (hc:c.length≤1000000000):Cb9 c=true:=by unfold Cb9;rw[oe8 c hc];exact Ka3 _ (jc2 _)
theorem oe9 {l:List (List Pln)} {j:Nat} (h:j < l.length):gL (tLs tP) l j=l[j]:=ab3 (tLs tP) h
theorem pe0 (ls:List (List Pln)) (hn:ls.length≤1000000000) (hl:ls.flatten.length≤1000000000):∃ m,lp (G9 ⟨ls,ls,(ls.length:Int)⟩) ⟨0,0⟩=(1,⟨(ls.flatten.length:Int),m⟩):=by
 have h:=Ta3 (step:=G9 ⟨ls,ls,(ls.length:Int)⟩) (mk:=fun j (n:Nat)=>(⟨(n:Int),(j:Int)⟩:s7)) (f:=fun l _ n=>n+l.length) (g:=fun l n=>n+l.flatten.length) (fin:=fun _=>1) ls
  (fun j n=>n+(ls.drop j).flatten.length=ls.flatten.length) hn (fun _=>rfl) (fun x r a=>by simp only[List.flatten_cons,List.length_append];omega)
  (fun j n hj hi=>by
   rw[List.drop_eq_getElem_cons hj,List.flatten_cons,List.length_append] at hi
   have hW:W ((n:Int)+(ls[j].length:Int))=((n+ls[j].length:Nat):Int):=by rw[Ia1 (by omega) (by omega)];omega
   refine⟨?_,by show n+ls[j].length+(ls.drop (j+1)).flatten.length=_;omega⟩
   simp only[G9,M7,Int.toNat_natCast,oe9 hj,hW,p6 hj (by omega)]
   rw[btD (n9 hj),bt (f0 hj),bfD (by omega)])
  (fun j n hj _=>by
   simp only[G9,M7]
   rw[bfD (by omega)]) 0 0 (by simp)
 have h:=h.1
 rw[List.drop_zero,Nat.zero_add] at h
 exact⟨_,h⟩
theorem pe1 {ls:List (List Pln)} (h:ls.flatten=[]) {j:Nat} (hj:j < ls.length):ls[j]=[]:=by
 rw[List.flatten_eq_nil_iff] at h
 exact h _ (List.getElem_mem hj)
theorem De0 (ls:List (List Pln)) (hn:ls.length≤1000000000) (hl:ls.flatten=[]):∃ s,lp (B7 ⟨ls,(ls.length:Int)⟩) ⟨0,0,0,[]⟩=(1,s):=by
 have h:=Ta3 (step:=B7 ⟨ls,(ls.length:Int)⟩) (mk:=fun j (_:Unit)=>(⟨0,(j:Int),0,[]⟩:l0)) (f:=fun _ _ n=>n) (g:=fun _ n=>n) (fin:=fun _=>1) ls
  (fun _ _=>True) hn (fun _=>rfl) (fun x r a=>rfl)
  (fun j n hj hi=>by
   refine⟨?_,trivial⟩
   show A4 Stp.next Stp.exit Stp.fail _ _=_
   simp only[A4,Int.toNat_natCast,oe9 hj,pe1 hl hj,p6 hj (by omega)]
   rw[btD (n9 hj),bt (f0 hj)]
   rfl)
  (fun j n hj _=>by
   show A4 Stp.next Stp.exit Stp.fail _ _=_
   simp only[A4]
   rw[bfD (by omega)]) 0 () trivial
 exact⟨_,h.1⟩
noncomputable def Ab0 (t:Nat) (d:List Pln):List (List b7):=app (bL tP d) (List.replicate (t - d.length) td1)
theorem pe2 (t:Nat) (d:List Pln) (h:d.length≤t):len (Ab0 t d)=t:=by
 unfold Ab0
 rw[E9,l9,List.length_append,← l9,P5,List.length_replicate]
 omega
theorem pe3 (t:Nat) (d l:List Pln) (h:d.length+l.length≤t):app (F7 (Ab0 t d) d.length) (app (bL tP l) (e7 (Ab0 t d) (d.length+len (bL tP l))))=Ab0 t (d++l):=by
 have hd:(bL tP d).length=d.length:=by rw[← l9,P5]
 unfold Ab0
 rw[P5,← Na3]
 simp only[E9,F8,F9]
 rw[List.take_left' hd,List.append_assoc]
 congr 2
 rw[List.drop_append,List.drop_eq_nil_of_le (by omega),List.nil_append,hd,List.drop_replicate,List.length_append]
 congr 1
 omega
theorem pe4 (ls:List (List Pln)) (hn:ls.length≤1000000000):∃ m,lp (B7 ⟨ls,(ls.length:Int)⟩) ⟨1,0,0,List.replicate ls.flatten.length td1⟩=(2,⟨1,m,ls.flatten.length,bL tP ls.flatten⟩):=by
 have h:=Ta3 (step:=B7 ⟨ls,(ls.length:Int)⟩) (mk:=fun j (d:List Pln)=>(⟨1,(j:Int),d.length,Ab0 ls.flatten.length d⟩:l0)) (f:=fun l _ d=>d++l) (g:=fun l d=>d++l.flatten) (fin:=fun _=>2) ls
  (fun j d=>d.length+(ls.drop j).flatten.length=ls.flatten.length) hn (fun _=>by simp) (fun x r a=>by simp)
  (fun j d hj hi=>by
   rw[List.drop_eq_getElem_cons hj,List.flatten_cons,List.length_append] at hi
   refine⟨?_,by show (d++ls[j]).length+(ls.drop (j+1)).flatten.length=_;rw[List.length_append];omega⟩
   show A5 Stp.next Stp.exit Stp.fail _ _=_
   simp only[A5,Int.toNat_natCast,oe9 hj,p6 hj (by omega),nb2]
   rw[pe3 _ _ _ (by omega),pe2 _ _ (by omega),P5,btD (n9 hj),bt (f0 hj),bt (by rw[Nat.ble_eq];omega),List.length_append])
  (fun j d hj _=>by
   show A5 Stp.next Stp.exit Stp.fail _ _=_
   simp only[A5]
   rw[bfD (by omega)]) 0 [] (by simp)
 have h:=h.1
 rw[List.drop_zero,List.nil_append] at h
 have e:Ab0 ls.flatten.length ls.flatten=bL tP ls.flatten:=by unfold Ab0;rw[Nat.sub_self,E9];simp
 rw[e] at h
 exact⟨_,h⟩
theorem Ke6 (ls:List (List Pln)) (hn:ls.length≤1000000000) (hl:ls.flatten.length≤1000000000):Db6 ls=some (slP (ls.flatten++ws)):=by
 have hc:ka7 ls=if ls.flatten=[] then ⟨1,0,[]⟩ else ⟨2,ls.flatten.length,bL tP ls.flatten⟩:=by
  unfold ka7 N2
  simp only[m0,m8]
  obtain⟨m,hm⟩:=pe0 ls hn hl
  rw[hm]
  by_cases h0:ls.flatten=[]
  ·obtain⟨s,hs⟩:=De0 ls hn h0
   rw[if_pos h0,hs]
   rw[show (⟨(ls.flatten.length:Int),m⟩:s7)=⟨0,m⟩ by rw[h0];rfl]
   rfl
  ·obtain⟨m',hm'⟩:=pe4 ls hn
   rw[if_neg h0]
   simp only[Int.toNat_natCast]
   rw[hm']
   have h1:0 < ls.flatten.length:=List.length_pos_iff.2 h0
   have e1:((ls.flatten.length:Int)==0)=false:=by rw[beq_eq_false_iff_ne];omega
   have e2:Bool.and (decide ((0:Int) < (ls.flatten.length:Int))) (Nat.ble (ls.flatten.length*32) room)=true:=by
    rw[fa1 (by omega),decide_eq_true (by omega)]
    rfl
   rw[e1,e2]
   rfl
 unfold Db6
 simp only[m0,K8,hc]
 by_cases h0:ls.flatten=[]
 ·rw[if_pos h0,h0];rfl
 ·rw[if_neg h0]
  generalize ls.flatten=c at *
  have e:∀ (d:List Pln) (p:Pln),app (bL tP d) [[i p.n.x,i p.n.y,i p.n.z,i p.b]]=bL tP (d++[p]):=fun d p=>Na3 tP d [p]
  have c1:=e c ⟨⟨1,0,0⟩,24⟩
  have c2:=e (c++[⟨⟨1,0,0⟩,24⟩]) ⟨⟨-1,0,0⟩,24⟩
  have c3:=e (c++[⟨⟨1,0,0⟩,24⟩]++[⟨⟨-1,0,0⟩,24⟩]) ⟨⟨0,1,0⟩,24⟩
  have c4:=e (c++[⟨⟨1,0,0⟩,24⟩]++[⟨⟨-1,0,0⟩,24⟩]++[⟨⟨0,1,0⟩,24⟩]) ⟨⟨0,-1,0⟩,24⟩
  have c5:=e (c++[⟨⟨1,0,0⟩,24⟩]++[⟨⟨-1,0,0⟩,24⟩]++[⟨⟨0,1,0⟩,24⟩]++[⟨⟨0,-1,0⟩,24⟩]) ⟨⟨0,0,1⟩,24⟩
  have c6:=e (c++[⟨⟨1,0,0⟩,24⟩]++[⟨⟨-1,0,0⟩,24⟩]++[⟨⟨0,1,0⟩,24⟩]++[⟨⟨0,-1,0⟩,24⟩]++[⟨⟨0,0,1⟩,24⟩]) ⟨⟨0,0,-1⟩,24⟩
  simp only at c1 c2 c3 c4 c5 c6
  simp only[c1,c2,c3,c4,c5,c6,P5,List.length_append,List.length_singleton]
  have g:∀ n:Nat,n≤1000000010→(Nat.beq n n&&Nat.ble ((n+1)*32) room)=true:=fun n h=>by rw[Nat.beq_refl,fa1 (by omega)];rfl
  rw[g _ (by omega),g _ (by omega),g _ (by omega),g _ (by omega),g _ (by omega),g _ (by omega)]
  show some (b7.sl 0 0 (c.length+1+1+1+1+1+1) 0,[(⟨50,4,bL tP _,true,false,0⟩:b8)])=_
  unfold slP
  rw[List.length_append]
  simp only[List.append_assoc]
  rfl
theorem af5 (ls:List (List Pln)) (hn:ls.length≤1000000000) (hl:ls.flatten.length≤1000000000):Xa4 ls=ls.flatten++ws:=by unfold Xa4;rw[Ke6 ls hn hl];exact ya9 _ (jc2 _)
theorem af6 (ls:List (List Pln)) (hn:ls.length≤1000000000) (hl:ls.flatten.length≤1000000000):Xa5 ls=true:=by unfold Xa5;rw[Ke6 ls hn hl];exact Ka3 _ (jc2 _)
theorem Ke7 (c:List Pln) (hc:c.length≤1000000000):Xa4 [c]=c++ws:=by
 have:[c].flatten=c:=by simp
 rw[af5 [c] (by simp) (by rw[this];exact hc),this]
theorem Ke8 (c:List Pln) (hc:c.length≤1000000000):Xa5 [c]=true:=by
 have:[c].flatten=c:=by simp
 exact af6 [c] (by simp) (by rw[this];exact hc)
theorem md1 (ls:List (List Pln)) (hn:ls.length≤1000000000) (hl:∀ c∈ls,c.length≤1000000000):Sa9 ls=some (b (ls.all fun c=>chk c==0),[]):=by
 have hv:∀ c∈ls,Sa7 c=!(chk c==0)∧Sa8 c=true:=fun c hc=>by
  have:Ca8 c=some (b (!(chk c==0)),[]):=by
   unfold Ca8
   simp only[m0,K8,Wd7 c (hl c hc),Wd8 c (hl c hc)]
   rfl
  unfold Sa7 Sa8
  rw[this]
  exact⟨rfl,rfl⟩
 have h:=ib9 (step:=G3 ⟨ls,(ls.length:Int)⟩) (mk:=fun j=>(⟨(j:Int)⟩:o6)) (c:=fun c=>!(chk c==0)) (u:=1) (fin:=2) (tLs tP) ls hn
  (fun j hj=>by
   have hm:=hv _ (Oc8 (tLs tP) hj)
   simp only[G3,D5,Int.toNat_natCast,m0,K8,hm.1,hm.2,p6 hj (by omega)]
   rw[btD (n9 hj),bt (f0 hj),q9,q9])
  (by simp only[G3,D5];rw[bfD (Q3 (Nat.lt_irrefl _))]) 0 (Nat.zero_le _)
 rw[List.drop_zero] at h
 have e:(ls.any fun c=>!(chk c==0))=!ls.all fun c=>chk c==0:=by rw[List.not_all_eq_any_not]
 unfold Sa9 da2 A9 la2 E2
 simp only[m0,m8]
 rw[show (⟨0⟩:o6)=⟨((0:Nat):Int)⟩ from rfl,h,e]
 cases ls.all fun c=>chk c==0 with
 | true=>rfl
 | false =>
  simp only[Bool.not_false,if_true,Nat.zero_add]
  show sl true (sl (Nat.beq 1 1) (some (b (!(decide (((ls.findIdx fun c=>!(chk c==0):Nat):Int)≥0))),[])) _) _=_
  rw[show decide (((ls.findIdx fun c=>!(chk c==0):Nat):Int)≥0)=true from decide_eq_true (by omega)]
  rfl
theorem Gd9 (ls:List (List Pln)) (hn:ls.length≤1000000000) (hl:∀ c∈ls,c.length≤1000000000):fa7 ls=ls.all fun c=>chk c==0:=by unfold fa7;rw[md1 ls hn hl];rfl
theorem Hd0 (ls:List (List Pln)) (hn:ls.length≤1000000000) (hl:∀ c∈ls,c.length≤1000000000):fa8 ls=true:=by unfold fa8;rw[md1 ls hn hl];rfl
theorem rc8 (c:List Pln) (hc:c.length≤1000000000):fa7 [c]=(chk c==0):=by
 rw[Gd9 [c] (by simp) (by simpa using hc)]
 simp
theorem rc9 (c:List Pln) (hc:c.length≤1000000000):fa8 [c]=true:=Hd0 [c] (by simp) (by simpa using hc)
noncomputable def pos (X:List Pt) (p:Pln):Bool:=X.any fun x=>decide (rm p x > 0)
noncomputable def dd4 (r:List Pln):Bool:=r.all (pos (cor r))
theorem pe5 (p:Pln) (X:List Pt) (hX:X.length≤1000000000):na3 ⟨p.n.x,p.n.y,p.n.z,p.b,X⟩=⟨1,!pos X p⟩:=by
 have hw:∀ x:Pt,va2 ⟨x.px,x.py,x.pz,x.pw,p.n.x,p.n.y,p.n.z,p.b⟩=⟨decide (rm p x > 0)⟩:=fun x=>by
  show T6.mk (decide (ua6 p x > 0))=_
  rw[td3]
 have h:=ib9 (step:=J0 ⟨X,(X.length:Int),p.n.x,p.n.y,p.n.z,p.b⟩) (mk:=fun j=>(⟨(j:Int)⟩:p7)) (c:=fun x=>decide (rm p x > 0)) (u:=1) (fin:=2) tX X hX
  (fun j hj=>by
   simp only[J0,G4,Int.toNat_natCast,hw,p6 hj (by omega)]
   rw[btD (n9 hj),bt (f0 hj)])
  (by simp only[J0,G4];rw[bfD (Q3 (Nat.lt_irrefl _))]) 0 (Nat.zero_le _)
 rw[List.drop_zero] at h
 unfold na3 Q1 ga0 B9 pa4 H4 pos
 simp only[m0,m8]
 rw[show (⟨0⟩:p7)=⟨((0:Nat):Int)⟩ from rfl,h]
 cases X.any fun x=>decide (rm p x > 0) with
 | false=>rfl
 | true =>
  simp only[if_true,Nat.zero_add]
  show ba0.mk 1 (!(decide (((X.findIdx fun x=>decide (rm p x > 0):Nat):Int)≥0)))=_
  rw[show decide (((X.findIdx fun x=>decide (rm p x > 0):Nat):Int)≥0)=true from decide_eq_true (by omega)]
theorem Xd1 (r:List Pln) (hb:Bds r) (hr:r.length≤200):ia9 r=some (b (dd4 r),[]):=by
 have hX:(cor r).length≤1000000000:=Nat.le_trans (td7 r hb hr) (by omega)
 have h:=ib9 (step:=G5 ⟨r,(r.length:Int)⟩) (mk:=fun j=>(⟨(j:Int),cor r⟩:o7)) (c:=fun p=>!pos (cor r) p) (u:=1) (fin:=2) tP r (by omega)
  (fun j hj=>by
   simp only[G5,D6,Int.toNat_natCast,m0,m8,pe5 _ _ hX,p6 hj (by omega)]
   rw[btD (n9 hj),bt (f0 hj)]
   rfl)
  (by simp only[G5,D6];rw[bfD (Q3 (Nat.lt_irrefl _))]) 0 (Nat.zero_le _)
 rw[List.drop_zero] at h
 have e:(r.any fun p=>!pos (cor r) p)=!r.all (pos (cor r)):=by rw[List.not_all_eq_any_not]
 unfold ia9 da4 B0 la4 E3 dd4
 simp only[m0,m8,K8,ld8 r hb hr,ld9 r hb hr]
 rw[show (⟨0,cor r⟩:o7)=⟨((0:Nat):Int),cor r⟩ from rfl,h,e]
 cases r.all (pos (cor r)) with
 | true=>rfl
 | false =>
  simp only[Bool.not_false,if_true,Nat.zero_add]
  show some (b (!(decide (((r.findIdx fun p=>!pos (cor r) p:Nat):Int)≥0))),[])=_
  rw[show decide (((r.findIdx fun p=>!pos (cor r) p:Nat):Int)≥0)=true from decide_eq_true (by omega)]
  rfl
theorem pe6 (r:List Pln) (hb:Bds r) (hr:r.length≤200):ja0 r=dd4 r:=by unfold ja0;rw[Xd1 r hb hr];rfl
theorem pe7 (r:List Pln) (hb:Bds r) (hr:r.length≤200):ja1 r=true:=by unfold ja1;rw[Xd1 r hb hr];rfl
theorem Rd8 (r:List Pln) (X:List Pt) (hr:r.length≤200) (hX:X.length≤1000000000) (a:Nat) (ha:a < r.length):∃ m,lp (ya6 ⟨r,X,(a:Int)⟩) ⟨false,0⟩=(1,⟨pos X r[a],m⟩):=by
 have h:=Yb8 (step:=ya6 ⟨r,X,(a:Int)⟩) (mk:=fun j (c:Bool)=>(⟨c,(j:Int)⟩:ma7)) (f:=fun c x=>c||decide (rm r[a] x > 0)) (fin:=1) tX X (fun _ _=>True) hX
  (fun j c hj _=>⟨by
   simp only[ya6,Ca0,Int.toNat_natCast,Jc9,p6 hj (by omega),ab3 tP ha,f0 ha,f0 hj]
   rw[btD (n9 hj)]
   cases c<;>rfl,trivial⟩)
  (fun c _=>by simp only[ya6,Ca0];rw[bfD (Q3 (Nat.lt_irrefl _))]) 0 (Nat.zero_le _) false trivial
 have h:=h.1
 rw[List.drop_zero] at h
 have e:∀ (l:List Pt) (c:Bool),l.foldl (fun c x=>c||decide (rm r[a] x > 0)) c=(c||l.any fun x=>decide (rm r[a] x > 0)):=by
  intro l
  induction l with
  | nil=>intro c;simp
  | cons x l ih=>intro c;rw[List.foldl_cons,ih,List.any_cons,Bool.or_assoc]
 rw[e,Bool.false_or] at h
 exact⟨_,h⟩
theorem Xd2 (r:List Pln) (hb:Bds r) (hr:r.length≤200):ob7 r=some (b (dd4 r),[]):=by
 have hX:(cor r).length≤1000000000:=Nat.le_trans (td7 r hb hr) (by omega)
 have h:=nb3 (step:=Ja5 ⟨⟩) (mk:=fun j=>(⟨r,cor r,(j:Int)⟩:fa2)) (c:=fun p=>!pos (cor r) p) (u:=1) (fin:=2) tP r (by omega)
  (fun j hj=>by
   obtain⟨m,hm⟩:=Rd8 r (cor r) hr hX j hj
   simp only[Ja5,Ca1,m0,m8,hm,p6 hj (by omega),ab3 tP hj]
   rw[btD (n9 hj)]
   rfl)
  (by simp only[Ja5,Ca1];rw[bfD (Q3 (Nat.lt_irrefl _))]) 0 (Nat.zero_le _)
 rw[List.drop_zero] at h
 have e:(r.any fun p=>!pos (cor r) p)=!r.all (pos (cor r)):=by rw[List.not_all_eq_any_not]
 unfold ob7 dd4
 simp only[m0,m8,K8,Tc4 r hb hr,Tc5 r hb hr]
 rw[show (⟨r,cor r,0⟩:fa2)=⟨r,cor r,((0:Nat):Int)⟩ from rfl,h,e]
 cases r.all (pos (cor r))<;>rfl
theorem Qe5 (r:List Pln) (hb:Bds r) (hr:r.length≤200):Ib0 r=dd4 r:=by unfold Ib0;rw[Xd2 r hb hr];rfl
theorem Qe6 (r:List Pln) (hb:Bds r) (hr:r.length≤200):Ib1 r=true:=by unfold Ib1;rw[Xd2 r hb hr];rfl
theorem wb8 {c:List Pln} (h:(chk c==0)=true):Bds (c++ws)∧(c++ws).length≤200:=by
 rw[beq_iff_eq,Tc2] at h
 refine⟨fun p hp=>?_,by rw[List.length_append,show ws.length=6 from rfl];omega⟩
 rcases List.mem_append.1 hp with hp | hp
 ·exact td5 (h.2 p hp)
 ·exact Ke1 p hp
noncomputable def pts (c:List Pln):List Pt:=if chk c==0 then cor (c++ws) else []
noncomputable def ful (c:List Pln):Bool:=(chk c==0)&&dd4 (c++ws)
theorem Hd1 {c:List Pln} (hc:c.length≤1000000000):∃ x,Ka2 c=some x∧(one (r1L tX)).rd x=some (pts c):=by
 unfold Ka2 pts
 simp only[m0,K8,rc8 c hc,rc9 c hc,Ke7 c hc,Ke8 c hc]
 cases h:chk c==0 with
 | false=>exact⟨_,rfl,rfl⟩
 | true =>
  obtain⟨h1,h2⟩:=wb8 h
  rw[ld8 _ h1 h2,ld9 _ h1 h2]
  exact⟨_,rfl,md0 tX _⟩
theorem pb8 {c:List Pln} (hc:c.length≤1000000000):R9 c=pts c:=by
 obtain⟨x,h1,h2⟩:=Hd1 hc
 unfold R9;rw[h1];exact ya9 _ h2
theorem pb9 {c:List Pln} (hc:c.length≤1000000000):S1 c=true:=by
 obtain⟨x,h1,h2⟩:=Hd1 hc
 unfold S1;rw[h1];exact Ka3 _ h2
theorem md2 {c:List Pln} (hc:c.length≤1000000000):∃ x,Ra4 c=some x∧(one (r1L tX)).rd x=some (pts c):=by
 unfold Ra4 pts
 simp only[m0,K8,Tc0 c hc,Tc1 c hc,Ke4 c hc,Ke5 c hc]
 have e:(chk c != 0)=!(chk c==0):=rfl
 rw[e]
 cases h:chk c==0 with
 | false=>exact⟨_,rfl,rfl⟩
 | true =>
  obtain⟨h1,h2⟩:=wb8 h
  rw[Tc4 _ h1 h2,Tc5 _ h1 h2]
  exact⟨_,rfl,md0 tX _⟩
theorem fe3 {c:List Pln} (hc:c.length≤1000000000):jb0 c=pts c:=by
 obtain⟨x,h1,h2⟩:=md2 hc
 unfold jb0;rw[h1];exact ya9 _ h2
theorem fe4 {c:List Pln} (hc:c.length≤1000000000):jb1 c=true:=by
 obtain⟨x,h1,h2⟩:=md2 hc
 unfold jb1;rw[h1];exact Ka3 _ h2
theorem Xd3 {c:List Pln} (hc:c.length≤1000000000):cb3 c=some (b (ful c),[]):=by
 unfold cb3 ful
 simp only[m0,K8,rc8 c hc,rc9 c hc,Ke7 c hc,Ke8 c hc]
 cases h:chk c==0 with
 | false=>rfl
 | true =>
  obtain⟨h1,h2⟩:=wb8 h
  rw[pe6 _ h1 h2,pe7 _ h1 h2]
  rfl
theorem Ub6 {c:List Pln} (hc:c.length≤1000000000):ba2 c=ful c:=by unfold ba2;rw[Xd3 hc];rfl
theorem Ub7 {c:List Pln} (hc:c.length≤1000000000):ba3 c=true:=by unfold ba3;rw[Xd3 hc];rfl
theorem Hd2 {c:List Pln} (hc:c.length≤1000000000):ob8 c=some (b (ful c),[]):=by
 unfold ob8 ful
 simp only[m0,K8,Tc0 c hc,Tc1 c hc,Ke4 c hc,Ke5 c hc]
 cases h:chk c==0 with
 | false=>rfl
 | true =>
  obtain⟨h1,h2⟩:=wb8 h
  rw[Qe5 _ h1 h2,Qe6 _ h1 h2]
  rfl
theorem De1 {c:List Pln} (hc:c.length≤1000000000):Wa8 c=ful c:=by unfold Wa8;rw[Hd2 hc];rfl
theorem Xd4 {c:List Pln} (hc:c.length≤1000000000):Na7 c=true:=by unfold Na7;rw[Hd2 hc];rfl
end Go.Ev.Ce
section
namespace Go.Ev.Ce
open Go Go.Ev Go.Ev.L Go.Proofs
set_option maxRecDepth 100000
structure Ma4 where
 is1:Int
 e8:List Int
 b9:Int
noncomputable def zc2:List (Nat×Sum):=[(47,Db1)]
theorem sc0:i6 prog G zc2:=⟨Ib2,trivial⟩
structure Ma5 where
 alt:Nat
 is0:Int
 b9:Int
noncomputable def ma2 {α:Type} (kk:Ma5→α) (x:Ma4):α:=let t1:=(ya7 (gL tI x.e8 (W ((W (x.b9+1)) - 1)).toNat) x.is1);(sl (decide (x.b9≥(↑(List.length x.e8):Int))) (kk ⟨1,0,x.b9⟩) (sl (inB (W ((W (x.b9+1)) - 1)) (List.length x.e8)) (sl (ra8 (gL tI x.e8 (W ((W (x.b9+1)) - 1)).toNat) x.is1) (kk ⟨1,t1,(W (x.b9+1))⟩) (kk ⟨0,0,0⟩)) (kk ⟨0,0,0⟩)))
noncomputable def l4 (x:Ma4):Ma5:=ma2 (fun r=>r) x
noncomputable def Xa8 (x:Ma4) (r:Ma5):DT (b7×List b8):=(.ite (Nat.beq r.alt 1) (.ret ((i r.is0),[⟨0,2,[[(eL tI x.e8),(i r.b9)]],true,false,0⟩])) .fail)
theorem Gc8 {α β:Type} (F:α→β) (kk:Ma5→α) (x:Ma4):F (ma2 kk x)=ma2 (fun r=>F (kk r)) x:=by unfold ma2;(repeat' apply k9 (f:=F))<;>rfl
noncomputable def ma3:Sum:=Qa9 ⟨[(.s (.o (.ptr 0 0 0 0))),(.s (.o (.int .i64)))],[⟨0,2,true,(some [[(.c 1 (nL tI)),(.o (.int .i64))]])⟩],fun a H=>(⟨(toI (slT a 1)),(rL tI (slT (rwT (elT H 0) 0) 0)),(toI (slT (rwT (elT H 0) 0) 1))⟩,())⟩ (fun x=>Xa8 x (l4 x))
theorem ta0:g9 prog G 98 ma3:=K4 (enc:=fun x=>⟨[(.ptr 0 0 0 0),(i x.is1)],[⟨0,2,[[(eL tI x.e8),(i x.b9)]],true,false,0⟩]⟩) (fun a H=>by kernel_rfl) (bd b98 sc0) fun x=>s6 (Eq.trans (b:=ma2 (fun r=>(Xa8 x r).run) x) (by kernel_rfl) (Gc8 (fun r=>(Xa8 x r).run) (fun r=>r) x).symm)
structure Zb7 where
 is1:Int
 e8:List Int
 b9:Int
noncomputable def Rd9:List (Nat×Sum):=[(98,ma3)]
theorem Hd3:i6 prog G Rd9:=⟨ta0,trivial⟩
structure Zb8 where
 alt:Nat
 oa6:Int
 oa7:Int
 oa8:Int
 e8:List Int
 b9:Int
noncomputable def lb8 {α:Type} (kk:Zb8→α) (x:Zb7):α:=let t1:=(l4 ⟨(W ((W (2*x.is1))+1)),(rt tI x.e8),x.b9⟩);let t2:=(l4 ⟨(W ((W (2*x.is1))+1)),(rt tI (rt tI x.e8)),t1.b9⟩);let t3:=(l4 ⟨(W ((W (2*x.is1))+1)),(rt tI (rt tI (rt tI x.e8))),t2.b9⟩);(sl ((cnE tI x.e8)&&true) (sl (Nat.beq t1.alt 1) (sl ((cnE tI (rt tI x.e8))&&true) (sl (Nat.beq t2.alt 1) (sl ((cnE tI (rt tI (rt tI x.e8)))&&true) (sl (Nat.beq t3.alt 1) (kk ⟨1,(W (t1.is0 - x.is1)),(W (t2.is0 - x.is1)),(W (t3.is0 - x.is1)),(rt tI (rt tI (rt tI x.e8))),t3.b9⟩) (kk ⟨0,0,0,0,[],0⟩)) (kk ⟨0,0,0,0,[],0⟩)) (kk ⟨0,0,0,0,[],0⟩)) (kk ⟨0,0,0,0,[],0⟩)) (kk ⟨0,0,0,0,[],0⟩)) (kk ⟨0,0,0,0,[],0⟩))
noncomputable def Ga5 (x:Zb7):Zb8:=lb8 (fun r=>r) x
noncomputable def jc3 (x:Zb7) (r:Zb8):DT (b7×List b8):=(.ite (Nat.beq r.alt 1) (.ret ((.agg [(i r.oa6),(i r.oa7),(i r.oa8)]),[⟨0,2,[[(eL tI r.e8),(i r.b9)]],true,false,0⟩])) .fail)
theorem fe5 {α β:Type} (F:α→β) (kk:Zb8→α) (x:Zb7):F (lb8 kk x)=lb8 (fun r=>F (kk r)) x:=by unfold lb8;(repeat' apply k9 (f:=F))<;>rfl
noncomputable def Zb9:Sum:=Qa9 ⟨[(.s (.o (.ptr 0 0 0 0))),(.s (.o (.int .i64)))],[⟨0,2,true,(some [[(.c 1 (nL tI)),(.o (.int .i64))]])⟩],fun a H=>(⟨(toI (slT a 1)),(rL tI (slT (rwT (elT H 0) 0) 0)),(toI (slT (rwT (elT H 0) 0) 1))⟩,())⟩ (fun x=>jc3 x (Ga5 x))
theorem jc4:g9 prog G 97 Zb9:=K4 (enc:=fun x=>⟨[(.ptr 0 0 0 0),(i x.is1)],[⟨0,2,[[(eL tI x.e8),(i x.b9)]],true,false,0⟩]⟩) (fun a H=>by kernel_rfl) (bd b97 Hd3) fun x=>s6 (Eq.trans (b:=lb8 (fun r=>(jc3 x r).run) x) (by kernel_rfl) (fe5 (fun r=>(jc3 x r).run) (fun r=>r) x).symm)
noncomputable def Sd0:List (Nat×Sum):=[]
theorem Hd4:i6 prog G Sd0:=trivial
noncomputable def Pa3 (x:V3) (y:V3):V3:=(⟨(W (x.x - y.x)),(W (x.y - y.y)),(W (x.z - y.z))⟩:V3)
noncomputable def zc3:Sum:=pa2 (S4 tV) (S4 tV) (fun x y=>.ret ((one r1V).enc (Pa3 x y),[]))
theorem Tc8:g9 prog G 187 zc3:=Ga0 (bd lf2 Hd4) fun x y=>s6 (by kernel_rfl)
noncomputable def fe6:List (Nat×Sum):=[(166,Ga1)]
theorem Sd1:i6 prog G fe6:=⟨Ra3,trivial⟩
noncomputable def Ub8 (x:V3):Option (b7×List b8):=(sl (decide (x.x < (-24))) (some ((b false),[])) (sl (decide (x.x > 24)) (some ((b false),[])) (sl (decide (x.y < (-24))) (some ((b false),[])) (sl (decide (x.y > 24)) (some ((b false),[])) (sl (decide (x.z < (-24))) (some ((b false),[])) (sl (decide (x.z > 24)) (some ((b false),[])) (some ((b true),[]))))))))
noncomputable def Ta5 (x:V3):Bool:=L4 (one r1B) (Ub8 x)
noncomputable def Ta6 (x:V3):Bool:=okO (one r1B) (Ub8 x)
noncomputable def Ub9:Sum:=S3 (S4 tV) (fun x=>.guard (Ta6 x) (.ret ((one r1B).enc (Ta5 x),[])))
theorem ac0:g9 prog G 109 Ub9:=Aa9 (bd hf7 Sd1) (one r1B) (o:=Ub8) fun x=>s6 (by kernel_rfl)
noncomputable def Tc9:List (Nat×Sum):=[(109,Ub9),(187,zc3),(186,Tb0),(167,ic2),(130,Zb4)]
theorem Gc9:i6 prog G Tc9:=⟨ac0,Tc8,oc8,Cc6,hc9,trivial⟩
noncomputable def Ka4 (x:V3) (y:V3) (z:V3):Option (b7×List b8):=let t1:=(Ta5 x);let t2:=(Ta5 y);let t3:=(Ta5 z);let t4:=(Pa3 y x);let t5:=(Pa3 z x);let t6:=(U9 t4 t5);let t7:=(Na6 t6);let t8:=(Oa6 t7.1 x);(sl (Ta6 x) (sl (!t1) (some ((.tup [(.agg [(i 0),(i 0),(i 0),(i 0)]),(b false)]),[])) (sl (Ta6 y) (sl (!t2) (some ((.tup [(.agg [(i 0),(i 0),(i 0),(i 0)]),(b false)]),[])) (sl (Ta6 z) (sl (!t3) (some ((.tup [(.agg [(i 0),(i 0),(i 0),(i 0)]),(b false)]),[])) (sl (ob6 t6) (sl (t7.2==0) (some ((.tup [(.agg [(i 0),(i 0),(i 0),(i 0)]),(b false)]),[])) (some ((.tup [(.agg [(i t7.1.x),(i t7.1.y),(i t7.1.z),(i t8)]),(b true)]),[]))) none)) none)) none)) none)
noncomputable def pa6 (x:V3) (y:V3) (z:V3):Pln×Bool:=L4 (two r1P r1B) (Ka4 x y z)
noncomputable def pa7 (x:V3) (y:V3) (z:V3):Bool:=okO (two r1P r1B) (Ka4 x y z)
noncomputable def Za2:Sum:=Zc9 (S4 tV) (S4 tV) (S4 tV) (fun x y z=>.guard (pa7 x y z) (.ret ((two r1P r1B).enc (pa6 x y z),[])))
theorem qb0:g9 prog G 115 Za2:=Ne3 (bd if1 Gc9) (two r1P r1B) (o:=Ka4) fun x y z=>s6 (by kernel_rfl)
noncomputable def Hd5:List (Nat×Sum):=[(98,ma3),(97,Zb9),(115,Za2),(47,Db1)]
theorem ud1:i6 prog G Hd5:=⟨ta0,jc4,qb0,Ib2,trivial⟩
noncomputable def qb1 (x:List Int):Option (b7×List b8):=let t1:=(l4 ⟨8,(rt tI x),0⟩);let t2:=(l4 ⟨17,(rt tI (rt tI x)),t1.b9⟩);let t3:=(Ga5 ⟨8,(rt tI (rt tI (rt tI x))),t2.b9⟩);let t4:=(Ga5 ⟨8,(rt tI t3.e8),t3.b9⟩);let t5:=(Ga5 ⟨8,(rt tI t4.e8),t4.b9⟩);let t6:=(pa6 (⟨t3.oa6,t3.oa7,t3.oa8⟩:V3) (⟨t4.oa6,t4.oa7,t4.oa8⟩:V3) (⟨t5.oa6,t5.oa7,t5.oa8⟩:V3));let t7:=(ya7 (W (t2.is0 - 8)) 3);(sl ((cnE tI x)&&true) (sl (Nat.beq t1.alt 1) (sl ((cnE tI (rt tI x))&&true) (sl (Nat.beq t2.alt 1) (sl ((cnE tI (rt tI (rt tI x)))&&true) (sl (Nat.beq t3.alt 1) (sl ((cnE tI t3.e8)&&true) (sl (Nat.beq t4.alt 1) (sl ((cnE tI t4.e8)&&true) (sl (Nat.beq t5.alt 1) (sl (pa7 (⟨t3.oa6,t3.oa7,t3.oa8⟩:V3) (⟨t4.oa6,t4.oa7,t4.oa8⟩:V3) (⟨t5.oa6,t5.oa7,t5.oa8⟩:V3)) (sl (decide (t1.is0 > 1)) (sl t6.2 (some ((.agg [(i t6.1.n.x),(i t6.1.n.y),(i t6.1.n.z),(i t6.1.b)]),[])) (sl (ra8 (W (t2.is0 - 8)) 3) (sl (t7==1) (some ((.agg [(i 0),(i (W (1 - (W (2*(Int.tmod t1.is0 2)))))),(i 0),(i (W (t2.is0 - 8)))]),[])) (sl (t7==2) (some ((.agg [(i 0),(i 0),(i (W (1 - (W (2*(Int.tmod t1.is0 2)))))),(i (W (t2.is0 - 8)))]),[])) (some ((.agg [(i (W (1 - (W (2*(Int.tmod t1.is0 2)))))),(i 0),(i 0),(i (W (t2.is0 - 8)))]),[])))) none)) (sl (ra8 (W (t2.is0 - 8)) 3) (sl (t7==1) (some ((.agg [(i 0),(i (W (1 - (W (2*(Int.tmod t1.is0 2)))))),(i 0),(i (W (t2.is0 - 8)))]),[])) (sl (t7==2) (some ((.agg [(i 0),(i 0),(i (W (1 - (W (2*(Int.tmod t1.is0 2)))))),(i (W (t2.is0 - 8)))]),[])) (some ((.agg [(i (W (1 - (W (2*(Int.tmod t1.is0 2)))))),(i 0),(i 0),(i (W (t2.is0 - 8)))]),[])))) none)) none) none) none) none) none) none) none) none) none) none) none)
noncomputable def Uc0 (x:List Int):Pln:=L4 (one r1P) (qb1 x)
noncomputable def Jb4 (x:List Int):Bool:=okO (one r1P) (qb1 x)
noncomputable def Uc1:Sum:=S3 (X5 tI) (fun x=>.guard (Jb4 x) (.ret ((one r1P).enc (Uc0 x),[])))
theorem Hd6:g9 prog G 35 Uc1:=Aa9 (bd b35 ud1) (one r1P) (o:=qb1) fun x=>s6 (by kernel_rfl)
noncomputable def Hd7:List (Nat×Sum):=[(187,zc3)]
theorem ud2:i6 prog G Hd7:=⟨Tc8,trivial⟩
noncomputable def Jb5 (x:Pln):Pln:=let t1:=(Pa3 (⟨0,0,0⟩:V3) x.n);(⟨t1,(W (0 - x.b))⟩:Pln)
noncomputable def jc5:Sum:=S3 (S4 tP) (fun x=>.ret ((one r1P).enc (Jb5 x),[]))
theorem Dc1:g9 prog G 119 jc5:=Gb8 (bd if3 ud2) fun x=>s6 (by kernel_rfl)
noncomputable def Hd8:List (Nat×Sum):=[(86,Tb4),(109,Ub9),(130,Zb4)]
theorem ud3:i6 prog G Hd8:=⟨pc8,ac0,hc9,trivial⟩
noncomputable def qb2 (x:Pln) (y:V3):Option (b7×List b8):=let t1:=(ab7 x);let t2:=(Ta5 y);let t3:=(Oa6 x.n y);(sl (ab8 x) (sl (!t1) (some ((i 0),[])) (sl (Ta6 y) (sl (!t2) (some ((i 0),[])) (sl (decide ((W (t3 - x.b)) < 0)) (some ((i (-1)),[])) (sl (decide ((W (t3 - x.b)) > 0)) (some ((i 1),[])) (some ((i 0),[]))))) none)) none)
noncomputable def Jb6 (x:Pln) (y:V3):Int:=L4 (one r1I) (qb2 x y)
noncomputable def Jb7 (x:Pln) (y:V3):Bool:=okO (one r1I) (qb2 x y)
noncomputable def jc6:Sum:=pa2 (S4 tP) (S4 tV) (fun x y=>.guard (Jb7 x y) (.ret ((one r1I).enc (Jb6 x y),[])))
theorem Dc2:g9 prog G 194 jc6:=ib8 (bd lf3 ud3) (one r1I) (o:=qb2) fun x y=>s6 (by kernel_rfl)
noncomputable def Vb0:List (Nat×Sum):=[]
theorem Hc0:i6 prog G Vb0:=trivial
structure xa4 where
 f9:Int
 b9:Int
 g7:Int
 d9:Int
 l5:Int
 l6:Int
 l7:Int
 K6:Int
structure O9 where
 is7:Int
noncomputable def zc4 (p:xa4) (s:O9):St:=⟨(ra 5 ((.ptr 0 0 0 0)::((.ptr 1 0 0 0)::((i s.is7)::(ra 42 []))))),[⟨0,4,[[(i p.f9),(i p.b9),(i p.g7),(i p.d9)]],true,false,0⟩,⟨0,4,[[(i p.l5),(i p.l6),(i p.l7),(i p.K6)]],true,false,0⟩]⟩
noncomputable def T8 {α:Type} (k:O9→α) (e:Nat→α) (z:α) (p:xa4) (s:O9):α:=(sl (decide (s.is7 < 4)) (sl (inB s.is7 4) (sl ((Nat.ble ((0+(s.is7.toNat*1))+1) 4)&&(K7 [(CK.int .i64)] (e7 [(i p.f9),(i p.b9),(i p.g7),(i p.d9)] (0+(s.is7.toNat*1))))) (sl (inB s.is7 4) (sl ((Nat.ble ((0+(s.is7.toNat*1))+1) 4)&&(K7 [(CK.int .i64)] (e7 [(i p.l5),(i p.l6),(i p.l7),(i p.K6)] (0+(s.is7.toNat*1))))) (sl (decide ((toI (hdA (e7 [(i p.f9),(i p.b9),(i p.g7),(i p.d9)] (0+(s.is7.toNat*1))))) < (toI (hdA (e7 [(i p.l5),(i p.l6),(i p.l7),(i p.K6)] (0+(s.is7.toNat*1))))))) (e 1) (sl (inB s.is7 4) (sl ((Nat.ble ((0+(s.is7.toNat*1))+1) 4)&&(K7 [(CK.int .i64)] (e7 [(i p.f9),(i p.b9),(i p.g7),(i p.d9)] (0+(s.is7.toNat*1))))) (sl (inB s.is7 4) (sl ((Nat.ble ((0+(s.is7.toNat*1))+1) 4)&&(K7 [(CK.int .i64)] (e7 [(i p.l5),(i p.l6),(i p.l7),(i p.K6)] (0+(s.is7.toNat*1))))) (sl (decide ((toI (hdA (e7 [(i p.f9),(i p.b9),(i p.g7),(i p.d9)] (0+(s.is7.toNat*1))))) > (toI (hdA (e7 [(i p.l5),(i p.l6),(i p.l7),(i p.K6)] (0+(s.is7.toNat*1))))))) (e 2) (k ⟨(W (s.is7+1))⟩)) z) z) z) z)) z) z) z) z) (e 3))
noncomputable def H5 (p:xa4) (s:O9):Stp O9:=T8 .next .exit .fail p s
noncomputable def gb1:Lo xa4 O9:=⟨En Vb0,0,Ie8,[1,1,1,0,1,4,4],[5,6,7],.p,[⟨(ru2 5 ((.s (.o (.ptr 0 0 0 0)))::((.s (.o (.ptr 1 0 0 0)))::((.s (.o (.int .i64)))::(ru2 42 []))))),[⟨0,4,true,(some [[(.o (.int .i64)),(.o (.int .i64)),(.o (.int .i64)),(.o (.int .i64))]])⟩,⟨0,4,true,(some [[(.o (.int .i64)),(.o (.int .i64)),(.o (.int .i64)),(.o (.int .i64))]])⟩],fun a H=>(⟨(toI (slT (rwT (elT H 0) 0) 0)),(toI (slT (rwT (elT H 0) 0) 1)),(toI (slT (rwT (elT H 0) 0) 2)),(toI (slT (rwT (elT H 0) 0) 3)),(toI (slT (rwT (elT H 1) 0) 0)),(toI (slT (rwT (elT H 1) 0) 1)),(toI (slT (rwT (elT H 1) 0) 2)),(toI (slT (rwT (elT H 1) 0) 3))⟩,⟨(toI (slT a 7))⟩)⟩],H5,[(none,fun p s=>⟨[(i (-1))],[]⟩),(none,fun p s=>⟨[(i 1)],[]⟩),(some 0,fun p s=>⟨(ra 5 ((.ptr 0 0 0 0)::((.ptr 1 0 0 0)::((i s.is7)::(ra 24 ((i s.is7)::((b (decide (s.is7 < 4)))::(ra 16 [])))))))),[⟨0,4,[[(i p.f9),(i p.b9),(i p.g7),(i p.d9)]],true,false,0⟩,⟨0,4,[[(i p.l5),(i p.l6),(i p.l7),(i p.K6)]],true,false,0⟩]⟩)],zc4⟩
theorem zc5:gb1.Ok:=Lo.ok [] (by kernel_rfl) .nil rfl (.cons (fun a H=>by kernel_rfl) .nil) fun p s=>(.of @T8 (fun F _ _ _ _ _=>by unfold T8;(repeat' apply k9 (f:=F))<;>rfl) (by kernel_rfl))
noncomputable def pa8 (x:Pln) (y:Pln):Option (b7×List b8):=let t1:=(lp (H5 (⟨x.n.x,x.n.y,x.n.z,x.b,y.n.x,y.n.y,y.n.z,y.b⟩:xa4)) (⟨0⟩:O9));(sl (Nat.beq t1.1 1) (some ((i (-1)),[])) (sl (Nat.beq t1.1 2) (some ((i 1),[])) (sl (Nat.beq t1.1 3) (some ((i 0),[])) none)))
noncomputable def Z7 (x:Pln) (y:Pln):Int:=L4 (one r1I) (pa8 x y)
noncomputable def Za3 (x:Pln) (y:Pln):Bool:=okO (one r1I) (pa8 x y)
noncomputable def Ab1:Sum:=pa2 (S4 tP) (S4 tP) (fun x y=>.guard (Za3 x y) (.ret ((one r1I).enc (Z7 x y),[])))
theorem Vb1:g9 prog G 180 Ab1:=ib8 (bd kf6 Hc0) (one r1I) (o:=pa8) fun x y=>ua4 (.s .p (.s .p (.s .p (.s (.s .p (.b (.u gb1.ls))) .p)))) [gb1.pr] (by kernel_rfl) (.cons zc5 .nil) (by kernel_rfl)
noncomputable def Sd2:List (Nat×Sum):=[(47,Db1)]
theorem Hd9:i6 prog G Sd2:=⟨Ib2,trivial⟩
noncomputable def Db9 (x:Pln) (y:V3):Option (b7×List b8):=let t1:=(ya7 y.z 9);let t2:=(ya7 y.x 5);(sl (ra8 y.z 9) (sl (inB t1 9) (sl ((Nat.ble 1 (len (f7 [[(i y.y)],[(i 0)],[(i 4608)],[(i 4609)],[(i (-4609))],[(i (W (2*x.n.x)))],[(i 2097152)],[(i 2097153)],[(i (-2097152))]] (0+t1.toNat))))&&(K7 [(CK.int .i64)] (f7 [[(i y.y)],[(i 0)],[(i 4608)],[(i 4609)],[(i (-4609))],[(i (W (2*x.n.x)))],[(i 2097152)],[(i 2097153)],[(i (-2097152))]] (0+t1.toNat)))) (sl (ra8 y.x 5) (sl (t2==0) (some ((.agg [(i (toI (hdA (f7 [[(i y.y)],[(i 0)],[(i 4608)],[(i 4609)],[(i (-4609))],[(i (W (2*x.n.x)))],[(i 2097152)],[(i 2097153)],[(i (-2097152))]] (0+t1.toNat))))),(i x.n.y),(i x.n.z),(i x.b)]),[])) (sl (t2==1) (some ((.agg [(i x.n.x),(i (toI (hdA (f7 [[(i y.y)],[(i 0)],[(i 4608)],[(i 4609)],[(i (-4609))],[(i (W (2*x.n.x)))],[(i 2097152)],[(i 2097153)],[(i (-2097152))]] (0+t1.toNat))))),(i x.n.z),(i x.b)]),[])) (sl (t2==2) (some ((.agg [(i x.n.x),(i x.n.y),(i (toI (hdA (f7 [[(i y.y)],[(i 0)],[(i 4608)],[(i 4609)],[(i (-4609))],[(i (W (2*x.n.x)))],[(i 2097152)],[(i 2097153)],[(i (-2097152))]] (0+t1.toNat))))),(i x.b)]),[])) (sl (t2==3) (some ((.agg [(i x.n.x),(i x.n.y),(i x.n.z),(i (toI (hdA (f7 [[(i y.y)],[(i 0)],[(i 4608)],[(i 4609)],[(i (-4609))],[(i (W (2*x.n.x)))],[(i 2097152)],[(i 2097153)],[(i (-2097152))]] (0+t1.toNat)))))]),[])) (sl (t2==4) (some ((.agg [(i (W (2*x.n.x))),(i (W (2*x.n.y))),(i (W (2*x.n.z))),(i x.b)]),[])) (some ((.agg [(i x.n.x),(i x.n.y),(i x.n.z),(i x.b)]),[]))))))) none) none) none) none)
noncomputable def md3 (x:Pln) (y:V3):Pln:=L4 (one r1P) (Db9 x y)
noncomputable def zc6 (x:Pln) (y:V3):Bool:=okO (one r1P) (Db9 x y)
noncomputable def md4:Sum:=pa2 (S4 tP) (S4 tV) (fun x y=>.guard (zc6 x y) (.ret ((one r1P).enc (md3 x y),[])))
theorem Sd3:g9 prog G 118 md4:=ib8 (bd if2 Hd9) (one r1P) (o:=Db9) fun x y=>s6 (by kernel_rfl)
end Go.Ev.Ce
end
section
namespace Go.Ev.Ce
open Go Go.Ev Go.Ev.L Go.Proofs
set_option maxRecDepth 100000
noncomputable def cb4:List (Nat×Sum):=[(115,Za2),(194,jc6)]
theorem ud4:i6 prog G cb4:=⟨qb0,Dc2,trivial⟩
structure va4 where
 i5:List V3
 is3:Int
 is4:Int
 is5:Int
 bs7:Bool
 f9:Int
 b9:Int
 g7:Int
 d9:Int
structure na4 where
 is8:Int
noncomputable def dd5 (p:va4) (s:na4):St:=⟨((eL tV p.i5)::(.unk::(.unk::((i p.is3)::((i p.is4)::((i p.is5)::((.ptr 0 0 0 0)::((b p.bs7)::((i s.is8)::(ra 48 [])))))))))),[⟨0,4,[[(i p.f9),(i p.b9),(i p.g7),(i p.d9)]],true,false,0⟩]⟩
noncomputable def Da4 {α:Type} (k:na4→α) (e:Nat→α) (z:α) (p:va4) (s:na4):α:=let t1:=(Jb6 (⟨(⟨p.f9,p.b9,p.g7⟩:V3),p.d9⟩:Pln) (gL tV p.i5 s.is8.toNat));(sl (decide (s.is8 < (↑(List.length p.i5):Int))) (sl p.bs7 (sl (inB s.is8 (List.length p.i5)) (sl (Jb7 (⟨(⟨p.f9,p.b9,p.g7⟩:V3),p.d9⟩:Pln) (gL tV p.i5 s.is8.toNat)) (sl (t1 != 0) (e 1) (k ⟨(W (s.is8+1))⟩)) z) z) (e 2)) (e 3))
noncomputable def za0 (p:va4) (s:na4):Stp na4:=Da4 .next .exit .fail p s
noncomputable def Jb8:Lo va4 na4:=⟨En cb4,0,Ed3,[1,0,1,4,4,1,0,4,1,4,4,1,0,4,1,4,4,1,0,4,1,1,4,4],[0,3,4,5,6,7,8],.p,[⟨((.s (.c 3 (nL tV)))::((.s (.o .unk))::((.s (.o .unk))::((.s (.o (.int .i64)))::((.s (.o (.int .i64)))::((.s (.o (.int .i64)))::((.s (.o (.ptr 0 0 0 0)))::((.s (.o .bool))::((.s (.o (.int .i64)))::(ru2 48 [])))))))))),[⟨0,4,true,(some [[(.o (.int .i64)),(.o (.int .i64)),(.o (.int .i64)),(.o (.int .i64))]])⟩],fun a H=>(⟨(rL tV (slT a 0)),(toI (slT a 3)),(toI (slT a 4)),(toI (slT a 5)),(toB (slT a 7)),(toI (slT (rwT (elT H 0) 0) 0)),(toI (slT (rwT (elT H 0) 0) 1)),(toI (slT (rwT (elT H 0) 0) 2)),(toI (slT (rwT (elT H 0) 0) 3))⟩,⟨(toI (slT a 8))⟩)⟩],za0,[(none,fun p s=>⟨[(b false)],[]⟩),(some 6,fun p s=>⟨((eL tV p.i5)::(.unk::(.unk::((i p.is3)::((i p.is4)::((i p.is5)::((.ptr 0 0 0 0)::((b p.bs7)::((i s.is8)::(ra 32 ((i s.is8)::((eL tV p.i5)::((i (↑(List.length p.i5):Int))::((b (decide (s.is8 < (↑(List.length p.i5):Int))))::((b true)::((b p.bs7)::((b p.bs7)::(ra 9 [])))))))))))))))))),[⟨0,4,[[(i p.f9),(i p.b9),(i p.g7),(i p.d9)]],true,false,0⟩]⟩),(some 6,fun p s=>⟨((eL tV p.i5)::(.unk::(.unk::((i p.is3)::((i p.is4)::((i p.is5)::((.ptr 0 0 0 0)::((b p.bs7)::((i s.is8)::(ra 32 ((i s.is8)::((eL tV p.i5)::((i (↑(List.length p.i5):Int))::((b (decide (s.is8 < (↑(List.length p.i5):Int))))::((b false)::(u::((b false)::(ra 9 [])))))))))))))))))),[⟨0,4,[[(i p.f9),(i p.b9),(i p.g7),(i p.d9)]],true,false,0⟩]⟩)],dd5⟩
theorem dd6:Jb8.Ok:=Lo.ok [] (by kernel_rfl) .nil rfl (.cons (fun a H=>by kernel_rfl) .nil) fun p s=>(.of @Da4 (fun F _ _ _ _ _=>by unfold Da4;(repeat' apply k9 (f:=F))<;>rfl) (by kernel_rfl))
structure Ta7 where
 is3:Int
 is4:Int
structure na5 where
 i5:List V3
 is5:Int
noncomputable def dd7 (p:Ta7) (s:na5):St:=⟨((eL tV s.i5)::(.unk::(.unk::((i p.is3)::((i p.is4)::((i s.is5)::(ra 51 []))))))),[]⟩
noncomputable def Da5 {α:Type} (k:na5→α) (e:Nat→α) (z:α) (p:Ta7) (s:na5):α:=let t1:=(pa6 (gL tV s.i5 p.is3.toNat) (gL tV s.i5 p.is4.toNat) (gL tV s.i5 s.is5.toNat));let t2:=(lp (za0 (⟨(rt tV s.i5),p.is3,p.is4,s.is5,t1.2,t1.1.n.x,t1.1.n.y,t1.1.n.z,t1.1.b⟩:va4)) (⟨0⟩:na4));(sl (decide (s.is5 < p.is4)) (sl (inB p.is3 (List.length s.i5)) (sl (inB p.is4 (List.length s.i5)) (sl (inB s.is5 (List.length s.i5)) (sl (pa7 (gL tV s.i5 p.is3.toNat) (gL tV s.i5 p.is4.toNat) (gL tV s.i5 s.is5.toNat)) (sl ((cnE tV s.i5)&&true) (sl (Nat.beq t2.1 1) (e 1) (sl (Nat.beq t2.1 2) (k ⟨(rt tV s.i5),(W (s.is5+1))⟩) (sl (Nat.beq t2.1 3) (k ⟨(rt tV s.i5),(W (s.is5+1))⟩) z))) z) z) z) z) z) (e 2))
noncomputable def za1 (p:Ta7) (s:na5):Stp na5:=Da5 .next .exit .fail p s
noncomputable def Jb9:Lo Ta7 na5:=⟨En cb4,0,Ed3,[1,0,1,4,4,1,0,4,1,4,4,1,0,4,1,4,4],[0,3,4,5],(.s .p (.s (.b (.s .p (.s .p (.b (.u Jb8.ls))))) .p)),[⟨((.s (.c 3 (nL tV)))::((.s (.o .unk))::((.s (.o .unk))::((.s (.o (.int .i64)))::((.s (.o (.int .i64)))::((.s (.o (.int .i64)))::(ru2 51 []))))))),[],fun a H=>(⟨(toI (slT a 3)),(toI (slT a 4))⟩,⟨(rL tV (slT a 0)),(toI (slT a 5))⟩)⟩],za1,[(none,fun p s=>⟨[(b false)],[]⟩),(some 4,fun p s=>⟨((eL tV s.i5)::(.unk::(.unk::((i p.is3)::((i p.is4)::((i s.is5)::(ra 14 ((i s.is5)::((i p.is4)::((b (decide (s.is5 < p.is4)))::(ra 34 []))))))))))),[]⟩)],dd7⟩
theorem dd8:Jb9.Ok:=Lo.ok [Jb8.pr] (by kernel_rfl) (.cons dd6 .nil) rfl (.cons (fun a H=>by kernel_rfl) .nil) fun p s=>(.of @Da5 (fun F _ _ _ _ _=>by unfold Da5;(repeat' apply k9 (f:=F))<;>rfl) (by kernel_rfl))
structure Ta8 where
 is3:Int
structure na6 where
 i5:List V3
 is4:Int
noncomputable def dd9 (p:Ta8) (s:na6):St:=⟨((eL tV s.i5)::(.unk::(.unk::((i p.is3)::((i s.is4)::(ra 52 [])))))),[]⟩
noncomputable def Da6 {α:Type} (k:na6→α) (e:Nat→α) (z:α) (p:Ta8) (s:na6):α:=let t1:=(lp (za1 (⟨p.is3,s.is4⟩:Ta7)) (⟨(rt tV s.i5),0⟩:na5));(sl (decide (s.is4 < p.is3)) (sl ((cnE tV s.i5)&&true) (sl (Nat.beq t1.1 1) (e 1) (sl (Nat.beq t1.1 2) (k ⟨t1.2.i5,(W (s.is4+1))⟩) z)) z) (e 2))
noncomputable def za2 (p:Ta8) (s:na6):Stp na6:=Da6 .next .exit .fail p s
noncomputable def Kb0:Lo Ta8 na6:=⟨En cb4,0,Ed3,[1,0,1,4,4,1,0,4,1,4,4],[0,3,4],(.s .p (.s (.b (.s .p (.b (.u Jb9.ls)))) .p)),[⟨((.s (.c 3 (nL tV)))::((.s (.o .unk))::((.s (.o .unk))::((.s (.o (.int .i64)))::((.s (.o (.int .i64)))::(ru2 52 [])))))),[],fun a H=>(⟨(toI (slT a 3))⟩,⟨(rL tV (slT a 0)),(toI (slT a 4))⟩)⟩],za2,[(none,fun p s=>⟨[(b false)],[]⟩),(some 2,fun p s=>⟨((eL tV s.i5)::(.unk::(.unk::((i p.is3)::((i s.is4)::(ra 10 ((i s.is4)::((i p.is3)::((b (decide (s.is4 < p.is3)))::(ra 39 [])))))))))),[]⟩)],dd9⟩
theorem ed0:Kb0.Ok:=Lo.ok [Jb9.pr] (by kernel_rfl) (.cons dd8 .nil) rfl (.cons (fun a H=>by kernel_rfl) .nil) fun p s=>(.of @Da6 (fun F _ _ _ _ _=>by unfold Da6;(repeat' apply k9 (f:=F))<;>rfl) (by kernel_rfl))
structure Ta9 where
structure na7 where
 i5:List V3
 is3:Int
noncomputable def ed1 (p:Ta9) (s:na7):St:=⟨((eL tV s.i5)::(.unk::(.unk::((i s.is3)::(ra 53 []))))),[]⟩
noncomputable def Da7 {α:Type} (k:na7→α) (e:Nat→α) (z:α) (p:Ta9) (s:na7):α:=let t1:=(lp (za2 (⟨s.is3⟩:Ta8)) (⟨(rt tV s.i5),0⟩:na6));(sl (decide (s.is3 < (↑(List.length s.i5):Int))) (sl ((cnE tV s.i5)&&true) (sl (Nat.beq t1.1 1) (e 1) (sl (Nat.beq t1.1 2) (k ⟨t1.2.i5,(W (s.is3+1))⟩) z)) z) (e 2))
noncomputable def za3 (p:Ta9) (s:na7):Stp na7:=Da7 .next .exit .fail p s
noncomputable def Kb1:Lo Ta9 na7:=⟨En cb4,0,Ed3,[1,0,1,4,4],[0,3],(.s .p (.s (.b (.s .p (.b (.u Kb0.ls)))) .p)),[⟨((.s (.c 3 (nL tV)))::((.s (.o .unk))::((.s (.o .unk))::((.s (.o (.int .i64)))::(ru2 53 []))))),[],fun a H=>(⟨⟩,⟨(rL tV (slT a 0)),(toI (slT a 3))⟩)⟩],za3,[(none,fun p s=>⟨[(b false)],[]⟩),(some 0,fun p s=>⟨((eL tV s.i5)::(.unk::(.unk::((i s.is3)::(ra 5 ((i s.is3)::((eL tV s.i5)::((i (↑(List.length s.i5):Int))::((b (decide (s.is3 < (↑(List.length s.i5):Int))))::(ra 44 [])))))))))),[]⟩)],ed1⟩
theorem ed2:Kb1.Ok:=Lo.ok [Kb0.pr] (by kernel_rfl) (.cons ed0 .nil) rfl (.cons (fun a H=>by kernel_rfl) .nil) fun p s=>(.of @Da7 (fun F _ _ _ _ _=>by unfold Da7;(repeat' apply k9 (f:=F))<;>rfl) (by kernel_rfl))
noncomputable def qb3 (x:List V3):Option (b7×List b8):=let t1:=(lp (za3 (⟨⟩:Ta9)) (⟨(rt tV x),0⟩:na7));(sl ((cnE tV x)&&true) (sl (Nat.beq t1.1 1) (some ((b false),[])) (sl (Nat.beq t1.1 2) (some ((b true),[])) none)) none)
noncomputable def qb4 (x:List V3):Bool:=L4 (one r1B) (qb3 x)
noncomputable def Xa9 (x:List V3):Bool:=okO (one r1B) (qb3 x)
noncomputable def jc7:Sum:=S3 (X5 tV) (fun x=>.guard (Xa9 x) (.ret ((one r1B).enc (qb4 x),[])))
theorem Dc3:g9 prog G 124 jc7:=Aa9 (bd if4 ud4) (one r1B) (o:=qb3) fun x=>ua4 (.s .p (.s (.s .p (.b (.u Kb1.ls))) .p)) [Kb1.pr] (by kernel_rfl) (.cons ed2 .nil) (by kernel_rfl)
noncomputable def sc1:List (Nat×Sum):=[(109,Ub9),(124,jc7)]
theorem ed3:i6 prog G sc1:=⟨ac0,Dc3,trivial⟩
structure Ka5 where
 i5:List V3
structure Z8 where
 is3:Int
noncomputable def Uc2 (p:Ka5) (s:Z8):St:=⟨((eL tV p.i5)::(.unk::(.unk::((i s.is3)::(ra 17 []))))),[]⟩
noncomputable def xa5 {α:Type} (k:Z8→α) (e:Nat→α) (z:α) (p:Ka5) (s:Z8):α:=let t1:=(Ta5 (gL tV p.i5 s.is3.toNat));(sl (decide (s.is3 < (↑(List.length p.i5):Int))) (sl (inB s.is3 (List.length p.i5)) (sl (Ta6 (gL tV p.i5 s.is3.toNat)) (sl (!t1) (e 1) (k ⟨(W (s.is3+1))⟩)) z) z) (e 2))
noncomputable def Da8 (p:Ka5) (s:Z8):Stp Z8:=xa5 .next .exit .fail p s
noncomputable def Ab2:Lo Ka5 Z8:=⟨En sc1,0,Ie9,[1,1,0,1,4,4],[0,3],.p,[⟨((.s (.c 3 (nL tV)))::((.s (.o .unk))::((.s (.o .unk))::((.s (.o (.int .i64)))::(ru2 17 []))))),[],fun a H=>(⟨(rL tV (slT a 0))⟩,⟨(toI (slT a 3))⟩)⟩],Da8,[(none,fun p s=>⟨[(i 3)],[]⟩),(some 0,fun p s=>⟨((eL tV p.i5)::(.unk::(.unk::((i s.is3)::(ra 3 ((i s.is3)::((eL tV p.i5)::((i (↑(List.length p.i5):Int))::((b (decide (s.is3 < (↑(List.length p.i5):Int))))::(ra 10 [])))))))))),[]⟩)],Uc2⟩
theorem Uc3:Ab2.Ok:=Lo.ok [] (by kernel_rfl) .nil rfl (.cons (fun a H=>by kernel_rfl) .nil) fun p s=>(.of @xa5 (fun F _ _ _ _ _=>by unfold xa5;(repeat' apply k9 (f:=F))<;>rfl) (by kernel_rfl))
noncomputable def cb5 (x:List V3):Option (b7×List b8):=let t1:=(lp (Da8 (⟨(rt tV x)⟩:Ka5)) (⟨0⟩:Z8));let t2:=(qb4 (rt tV (rt tV x)));(sl (decide ((↑(List.length x):Int) > 48)) (some ((i 2),[])) (sl ((cnE tV x)&&true) (sl (Nat.beq t1.1 1) (some ((i 3),[])) (sl (Nat.beq t1.1 2) (sl (okE tV (rt tV x)) (sl (Xa9 (rt tV (rt tV x))) (sl t2 (some ((i 11),[])) (some ((i 0),[]))) none) none) none)) none))
noncomputable def Vb2 (x:List V3):Int:=L4 (one r1I) (cb5 x)
noncomputable def Vb3 (x:List V3):Bool:=okO (one r1I) (cb5 x)
noncomputable def Dc4:Sum:=S3 (X5 tV) (fun x=>.guard (Vb3 x) (.ret ((one r1I).enc (Vb2 x),[])))
theorem ud5:g9 prog G 182 Dc4:=Aa9 (bd kf8 ed3) (one r1I) (o:=cb5) fun x=>ua4 (.s .p (.s .p (.s (.s .p (.b (.u Ab2.ls))) .p))) [Ab2.pr] (by kernel_rfl) (.cons Uc3 .nil) (by kernel_rfl)
noncomputable def sc2:List (Nat×Sum):=[(194,jc6)]
theorem ed4:i6 prog G sc2:=⟨Dc2,trivial⟩
structure Ka6 where
 vc0:List V3
 f9:Int
 b9:Int
 g7:Int
 d9:Int
structure Z9 where
 is5:Int
noncomputable def Uc4 (p:Ka6) (s:Z9):St:=⟨(.unk::((eL tV p.vc0)::((.ptr 0 0 0 0)::(.unk::(.unk::((i s.is5)::(ra 13 []))))))),[⟨0,4,[[(i p.f9),(i p.b9),(i p.g7),(i p.d9)]],true,false,0⟩]⟩
noncomputable def xa6 {α:Type} (k:Z9→α) (e:Nat→α) (z:α) (p:Ka6) (s:Z9):α:=let t1:=(Jb6 (⟨(⟨p.f9,p.b9,p.g7⟩:V3),p.d9⟩:Pln) (gL tV p.vc0 s.is5.toNat));(sl (decide (s.is5 < (↑(List.length p.vc0):Int))) (sl (inB s.is5 (List.length p.vc0)) (sl (Jb7 (⟨(⟨p.f9,p.b9,p.g7⟩:V3),p.d9⟩:Pln) (gL tV p.vc0 s.is5.toNat)) (sl (decide (t1 > 0)) (e 1) (k ⟨(W (s.is5+1))⟩)) z) z) (e 2))
noncomputable def Da9 (p:Ka6) (s:Z9):Stp Z9:=xa6 .next .exit .fail p s
noncomputable def Ab3:Lo Ka6 Z9:=⟨En sc2,0,Je0,[1,0,1,4,4],[1,2,5],.p,[⟨((.s (.o .unk))::((.s (.c 3 (nL tV)))::((.s (.o (.ptr 0 0 0 0)))::((.s (.o .unk))::((.s (.o .unk))::((.s (.o (.int .i64)))::(ru2 13 []))))))),[⟨0,4,true,(some [[(.o (.int .i64)),(.o (.int .i64)),(.o (.int .i64)),(.o (.int .i64))]])⟩],fun a H=>(⟨(rL tV (slT a 1)),(toI (slT (rwT (elT H 0) 0) 0)),(toI (slT (rwT (elT H 0) 0) 1)),(toI (slT (rwT (elT H 0) 0) 2)),(toI (slT (rwT (elT H 0) 0) 3))⟩,⟨(toI (slT a 5))⟩)⟩],Da9,[(none,fun p s=>⟨[(b false)],[]⟩),(some 0,fun p s=>⟨(.unk::((eL tV p.vc0)::((.ptr 0 0 0 0)::(.unk::(.unk::((i s.is5)::((i s.is5)::((eL tV p.vc0)::((i (↑(List.length p.vc0):Int))::((b (decide (s.is5 < (↑(List.length p.vc0):Int))))::(ra 9 []))))))))))),[⟨0,4,[[(i p.f9),(i p.b9),(i p.g7),(i p.d9)]],true,false,0⟩]⟩)],Uc4⟩
theorem Uc5:Ab3.Ok:=Lo.ok [] (by kernel_rfl) .nil rfl (.cons (fun a H=>by kernel_rfl) .nil) fun p s=>(.of @xa6 (fun F _ _ _ _ _=>by unfold xa6;(repeat' apply k9 (f:=F))<;>rfl) (by kernel_rfl))
noncomputable def cb6 (x:Pln) (y:List V3):Option (b7×List b8):=let t1:=(lp (Da9 (⟨(rt tV y),x.n.x,x.n.y,x.n.z,x.b⟩:Ka6)) (⟨0⟩:Z9));(sl ((cnE tV y)&&true) (sl (Nat.beq t1.1 1) (some ((b false),[])) (sl (Nat.beq t1.1 2) (some ((b true),[])) none)) none)
noncomputable def cb7 (x:Pln) (y:List V3):Bool:=L4 (one r1B) (cb6 x y)
noncomputable def na8 (x:Pln) (y:List V3):Bool:=okO (one r1B) (cb6 x y)
noncomputable def Dc5:Sum:=pa2 (S4 tP) (X5 tV) (fun x y=>.guard (na8 x y) (.ret ((one r1B).enc (cb7 x y),[])))
theorem ud6:g9 prog G 183 Dc5:=ib8 (bd kf9 ed4) (one r1B) (o:=cb6) fun x y=>ua4 (.s .p (.s (.s .p (.b (.u Ab3.ls))) .p)) [Ab3.pr] (by kernel_rfl) (.cons Uc5 .nil) (by kernel_rfl)
noncomputable def Uc6:List (Nat×Sum):=[(180,Ab1)]
theorem Id0:i6 prog G Uc6:=⟨Vb1,trivial⟩
structure cb8 where
 c7:List Pln
 f9:Int
 b9:Int
 g7:Int
 d9:Int
structure na9 where
 is5:Int
noncomputable def ud7 (p:cb8) (s:na9):St:=⟨((eL tP p.c7)::(.unk::(.unk::((.ptr 0 0 0 0)::(.unk::((i s.is5)::(ra 42 []))))))),[⟨0,4,[[(i p.f9),(i p.b9),(i p.g7),(i p.d9)]],true,false,0⟩]⟩
noncomputable def Ka7 {α:Type} (k:na9→α) (e:Nat→α) (z:α) (p:cb8) (s:na9):α:=let t1:=(Z7 (gL tP p.c7 s.is5.toNat) (⟨(⟨p.f9,p.b9,p.g7⟩:V3),p.d9⟩:Pln));(sl (decide (s.is5 < (↑(List.length p.c7):Int))) (sl (inB s.is5 (List.length p.c7)) (sl (Za3 (gL tP p.c7 s.is5.toNat) (⟨(⟨p.f9,p.b9,p.g7⟩:V3),p.d9⟩:Pln)) (sl (decide (t1 < 0)) (k ⟨(W (s.is5+1))⟩) (e 1)) z) z) (e 2))
noncomputable def Ga6 (p:cb8) (s:na9):Stp na9:=Ka7 .next .exit .fail p s
noncomputable def Vb4:Lo cb8 na9:=⟨En Uc6,0,Je1,[1,1,0,4,4],[0,3,5],.p,[⟨((.s (.c 4 (nL tP)))::((.s (.o .unk))::((.s (.o .unk))::((.s (.o (.ptr 0 0 0 0)))::((.s (.o .unk))::((.s (.o (.int .i64)))::(ru2 42 []))))))),[⟨0,4,true,(some [[(.o (.int .i64)),(.o (.int .i64)),(.o (.int .i64)),(.o (.int .i64))]])⟩],fun a H=>(⟨(rL tP (slT a 0)),(toI (slT (rwT (elT H 0) 0) 0)),(toI (slT (rwT (elT H 0) 0) 1)),(toI (slT (rwT (elT H 0) 0) 2)),(toI (slT (rwT (elT H 0) 0) 3))⟩,⟨(toI (slT a 5))⟩)⟩],Ga6,[(some 0,fun p s=>let t1:=(Z7 (gL tP p.c7 s.is5.toNat) (⟨(⟨p.f9,p.b9,p.g7⟩:V3),p.d9⟩:Pln));⟨((eL tP p.c7)::(.unk::(.unk::((.ptr 0 0 0 0)::(.unk::((i s.is5)::(.unk::((i s.is5)::((eL tP p.c7)::((i (↑(List.length p.c7):Int))::((b (decide (s.is5 < (↑(List.length p.c7):Int))))::((b true)::((eL tP p.c7)::((i s.is5)::((.tptr [(i (gL tP p.c7 s.is5.toNat).n.x),(i (gL tP p.c7 s.is5.toNat).n.y),(i (gL tP p.c7 s.is5.toNat).n.z),(i (gL tP p.c7 s.is5.toNat).b)])::((.agg [(i (gL tP p.c7 s.is5.toNat).n.x),(i (gL tP p.c7 s.is5.toNat).n.y),(i (gL tP p.c7 s.is5.toNat).n.z),(i (gL tP p.c7 s.is5.toNat).b)])::((.agg [(i p.f9),(i p.b9),(i p.g7),(i p.d9)])::((i t1)::((b (decide (t1 < 0)))::((b (decide (t1 < 0)))::(ra 28 []))))))))))))))))))))),[⟨0,4,[[(i p.f9),(i p.b9),(i p.g7),(i p.d9)]],true,false,0⟩]⟩),(some 0,fun p s=>⟨((eL tP p.c7)::(.unk::(.unk::((.ptr 0 0 0 0)::(.unk::((i s.is5)::(.unk::((i s.is5)::((eL tP p.c7)::((i (↑(List.length p.c7):Int))::((b (decide (s.is5 < (↑(List.length p.c7):Int))))::((b false)::(u::(u::(u::(u::(u::(u::(u::((b false)::(ra 28 []))))))))))))))))))))),[⟨0,4,[[(i p.f9),(i p.b9),(i p.g7),(i p.d9)]],true,false,0⟩]⟩)],ud7⟩
theorem ud8:Vb4.Ok:=Lo.ok [] (by kernel_rfl) .nil rfl (.cons (fun a H=>by kernel_rfl) .nil) fun p s=>(.of @Ka7 (fun F _ _ _ _ _=>by unfold Ka7;(repeat' apply k9 (f:=F))<;>rfl) (by kernel_rfl))
noncomputable def Eb0 (x:List Pln) (y:Pln):Option (b7×List b8):=let t1:=(lp (Ga6 (⟨(rt tP x),y.n.x,y.n.y,y.n.z,y.b⟩:cb8)) (⟨0⟩:na9));let a0:=(o0 (fun k=>(fun k=>(tP).row (gL tP (rt tP x) k)) (0+k)) (List.range (t1.2.is5.toNat - 0)));let a1:=(o0 (fun k=>(fun k=>(tP).row (gL tP (rt tP x) k)) (t1.2.is5.toNat+k)) (List.range ((List.length (rt tP x)) - t1.2.is5.toNat)));let a2:=(inB t1.2.is5 ((List.length (rt tP x))+1));let a3:=(Nat.beq (0+(len a0)) (len (app [] a0))&&Nat.ble (((0+(len a0))+1)*32) room);let a4:=(((0+(len a0))+1)+(len a1));let a5:=(gL tP (rt tP x) t1.2.is5.toNat);let a6:=(Nat.beq 1 1&&Nat.ble ((1+(len a1))*32) room);let a7:=(Nat.beq 0 0&&Nat.ble ((0+(len a0))*32) room);(sl ((cnE tP x)&&true) (sl (Nat.beq t1.1 1) (sl (decide (t1.2.is5 < (↑(List.length (rt tP x)):Int))) (sl (inB t1.2.is5 (List.length (rt tP x))) (sl ((a5.n.x==y.n.x)&&((a5.n.y==y.n.y)&&((a5.n.z==y.n.z)&&((a5.b==y.b)&&true)))) (some ((eL tP (rt tP x)),[])) (sl a2 (sl (Nat.beq (len a0) 0) (sl a2 (sl (Nat.beq (len a1) 0) (some ((.sl 0 0 1 0),[⟨50,4,[[(i y.n.x),(i y.n.y),(i y.n.z),(i y.b)]],true,false,0⟩])) (sl a6 (some ((.sl 0 0 (1+(len a1)) 0),[⟨50,4,(app [[(i y.n.x),(i y.n.y),(i y.n.z),(i y.b)]] a1),true,false,0⟩])) none)) none) (sl a7 (sl a3 (sl a2 (sl (Nat.beq (len a1) 0) (some ((.sl 0 0 ((0+(len a0))+1) 0),[⟨50,4,(app (app [] a0) [[(i y.n.x),(i y.n.y),(i y.n.z),(i y.b)]]),true,false,0⟩])) (sl (Nat.beq ((0+(len a0))+1) (len (app (app [] a0) [[(i y.n.x),(i y.n.y),(i y.n.z),(i y.b)]]))&&Nat.ble (a4*32) room) (some ((.sl 0 0 a4 0),[⟨50,4,(app (app (app [] a0) [[(i y.n.x),(i y.n.y),(i y.n.z),(i y.b)]]) a1),true,false,0⟩])) none)) none) none) none)) none)) none) (sl a2 (sl (Nat.beq (len a0) 0) (sl a2 (sl (Nat.beq (len a1) 0) (some ((.sl 0 0 1 0),[⟨50,4,[[(i y.n.x),(i y.n.y),(i y.n.z),(i y.b)]],true,false,0⟩])) (sl a6 (some ((.sl 0 0 (1+(len a1)) 0),[⟨50,4,(app [[(i y.n.x),(i y.n.y),(i y.n.z),(i y.b)]] a1),true,false,0⟩])) none)) none) (sl a7 (sl a3 (sl a2 (sl (Nat.beq (len a1) 0) (some ((.sl 0 0 ((0+(len a0))+1) 0),[⟨50,4,(app (app [] a0) [[(i y.n.x),(i y.n.y),(i y.n.z),(i y.b)]]),true,false,0⟩])) (sl (Nat.beq ((0+(len a0))+1) (len (app (app [] a0) [[(i y.n.x),(i y.n.y),(i y.n.z),(i y.b)]]))&&Nat.ble (a4*32) room) (some ((.sl 0 0 a4 0),[⟨50,4,(app (app (app [] a0) [[(i y.n.x),(i y.n.y),(i y.n.z),(i y.b)]]) a1),true,false,0⟩])) none)) none) none) none)) none)) (sl (Nat.beq t1.1 2) (sl (decide (t1.2.is5 < (↑(List.length (rt tP x)):Int))) (sl (inB t1.2.is5 (List.length (rt tP x))) (sl ((a5.n.x==y.n.x)&&((a5.n.y==y.n.y)&&((a5.n.z==y.n.z)&&((a5.b==y.b)&&true)))) (some ((eL tP (rt tP x)),[])) (sl a2 (sl (Nat.beq (len a0) 0) (sl a2 (sl (Nat.beq (len a1) 0) (some ((.sl 0 0 1 0),[⟨50,4,[[(i y.n.x),(i y.n.y),(i y.n.z),(i y.b)]],true,false,0⟩])) (sl a6 (some ((.sl 0 0 (1+(len a1)) 0),[⟨50,4,(app [[(i y.n.x),(i y.n.y),(i y.n.z),(i y.b)]] a1),true,false,0⟩])) none)) none) (sl a7 (sl a3 (sl a2 (sl (Nat.beq (len a1) 0) (some ((.sl 0 0 ((0+(len a0))+1) 0),[⟨50,4,(app (app [] a0) [[(i y.n.x),(i y.n.y),(i y.n.z),(i y.b)]]),true,false,0⟩])) (sl (Nat.beq ((0+(len a0))+1) (len (app (app [] a0) [[(i y.n.x),(i y.n.y),(i y.n.z),(i y.b)]]))&&Nat.ble (a4*32) room) (some ((.sl 0 0 a4 0),[⟨50,4,(app (app (app [] a0) [[(i y.n.x),(i y.n.y),(i y.n.z),(i y.b)]]) a1),true,false,0⟩])) none)) none) none) none)) none)) none) (sl a2 (sl (Nat.beq (len a0) 0) (sl a2 (sl (Nat.beq (len a1) 0) (some ((.sl 0 0 1 0),[⟨50,4,[[(i y.n.x),(i y.n.y),(i y.n.z),(i y.b)]],true,false,0⟩])) (sl a6 (some ((.sl 0 0 (1+(len a1)) 0),[⟨50,4,(app [[(i y.n.x),(i y.n.y),(i y.n.z),(i y.b)]] a1),true,false,0⟩])) none)) none) (sl a7 (sl a3 (sl a2 (sl (Nat.beq (len a1) 0) (some ((.sl 0 0 ((0+(len a0))+1) 0),[⟨50,4,(app (app [] a0) [[(i y.n.x),(i y.n.y),(i y.n.z),(i y.b)]]),true,false,0⟩])) (sl (Nat.beq ((0+(len a0))+1) (len (app (app [] a0) [[(i y.n.x),(i y.n.y),(i y.n.z),(i y.b)]]))&&Nat.ble (a4*32) room) (some ((.sl 0 0 a4 0),[⟨50,4,(app (app (app [] a0) [[(i y.n.x),(i y.n.y),(i y.n.z),(i y.b)]]) a1),true,false,0⟩])) none)) none) none) none)) none)) none)) none)
noncomputable def L8 (x:List Pln) (y:Pln):List Pln:=L4 (one (r1L tP)) (Eb0 x y)
noncomputable def za4 (x:List Pln) (y:Pln):Bool:=okO (one (r1L tP)) (Eb0 x y)
noncomputable def md5:Sum:=pa2 (X5 tP) (S4 tP) (fun x y=>.guard (za4 x y) (.ret ((one (r1L tP)).enc (L8 x y),[])))
theorem Sd4:g9 prog G 184 md5:=ib8 (bd lf0 Id0) (one (r1L tP)) (o:=Eb0) fun x y=>ua4 (.s .p (.s .p (.s (.b (.u Vb4.ls)) .p))) [Vb4.pr] (by kernel_rfl) (.cons ud8 .nil) (by kernel_rfl)
noncomputable def kb1:List (Nat×Sum):=[(182,Dc4),(115,Za2),(183,Dc5),(184,md5),(119,jc5)]
theorem ed5:i6 prog G kb1:=⟨ud5,qb0,ud6,Sd4,Dc1,trivial⟩
structure aa0 where
 i5:List V3
 is6:Int
 is7:Int
structure H6 where
 ph:Nat
 is8:Int
 ka3:List Pln
noncomputable def Hc1 (p:aa0) (s:H6):St:=⟨((eL tV p.i5)::(ra 4 ((.v (.slice none 0 0))::((i p.is6)::((i p.is7)::((i s.is8)::(ra 56 []))))))),[]⟩
noncomputable def Hc2 (p:aa0) (s:H6):St:=⟨((eL tV p.i5)::(ra 4 ((eL tP s.ka3)::((i p.is6)::((i p.is7)::((i s.is8)::(ra 56 []))))))),[]⟩
noncomputable def Uc7 (p:aa0) (s:H6):St:=(sel (Nat.beq s.ph 1) (Hc2 p s) (Hc1 p s))
noncomputable def da5 {α:Type} (k:H6→α) (e:Nat→α) (z:α) (p:aa0) (s:H6):α:=let t1:=(pa6 (gL tV p.i5 p.is6.toNat) (gL tV p.i5 p.is7.toNat) (gL tV p.i5 s.is8.toNat));let t2:=(cb7 t1.1 (rt tV p.i5));let t3:=(L8 [] t1.1);let t4:=(Jb5 t1.1);let t5:=(cb7 t4 (rt tV p.i5));let t6:=(L8 (rt tP t3) t4);let t7:=(L8 [] t4);(sl (decide (s.is8 < p.is7)) (sl (inB p.is6 (List.length p.i5)) (sl (inB p.is7 (List.length p.i5)) (sl (inB s.is8 (List.length p.i5)) (sl (pa7 (gL tV p.i5 p.is6.toNat) (gL tV p.i5 p.is7.toNat) (gL tV p.i5 s.is8.toNat)) (sl (!t1.2) (k ⟨0,(W (s.is8+1)),[]⟩) (sl (okE tV p.i5) (sl (na8 t1.1 (rt tV p.i5)) (sl t2 (sl (za4 [] t1.1) (sl (okE tV p.i5) (sl (na8 t4 (rt tV p.i5)) (sl t5 (sl (okE tP t3) (sl (za4 (rt tP t3) t4) (k ⟨1,(W (s.is8+1)),t6⟩) z) z) (k ⟨1,(W (s.is8+1)),t3⟩)) z) z) z) (sl (okE tV p.i5) (sl (na8 t4 (rt tV p.i5)) (sl t5 (sl (za4 [] t4) (k ⟨1,(W (s.is8+1)),t7⟩) z) (k ⟨0,(W (s.is8+1)),[]⟩)) z) z)) z) z)) z) z) z) z) (e 1))
noncomputable def da6 {α:Type} (k:H6→α) (e:Nat→α) (z:α) (p:aa0) (s:H6):α:=let t1:=(pa6 (gL tV p.i5 p.is6.toNat) (gL tV p.i5 p.is7.toNat) (gL tV p.i5 s.is8.toNat));let t2:=(cb7 t1.1 (rt tV p.i5));let t3:=(L8 (rt tP s.ka3) t1.1);let t4:=(Jb5 t1.1);let t5:=(cb7 t4 (rt tV p.i5));let t6:=(L8 (rt tP t3) t4);let t7:=(L8 (rt tP s.ka3) t4);(sl (decide (s.is8 < p.is7)) (sl (inB p.is6 (List.length p.i5)) (sl (inB p.is7 (List.length p.i5)) (sl (inB s.is8 (List.length p.i5)) (sl (pa7 (gL tV p.i5 p.is6.toNat) (gL tV p.i5 p.is7.toNat) (gL tV p.i5 s.is8.toNat)) (sl (!t1.2) (k ⟨1,(W (s.is8+1)),s.ka3⟩) (sl (okE tV p.i5) (sl (na8 t1.1 (rt tV p.i5)) (sl t2 (sl (okE tP s.ka3) (sl (za4 (rt tP s.ka3) t1.1) (sl (okE tV p.i5) (sl (na8 t4 (rt tV p.i5)) (sl t5 (sl (okE tP t3) (sl (za4 (rt tP t3) t4) (k ⟨1,(W (s.is8+1)),t6⟩) z) z) (k ⟨1,(W (s.is8+1)),t3⟩)) z) z) z) z) (sl (okE tV p.i5) (sl (na8 t4 (rt tV p.i5)) (sl t5 (sl (okE tP s.ka3) (sl (za4 (rt tP s.ka3) t4) (k ⟨1,(W (s.is8+1)),t7⟩) z) z) (k ⟨1,(W (s.is8+1)),s.ka3⟩)) z) z)) z) z)) z) z) z) z) (e 2))
noncomputable def Ea0 (p:aa0) (s:H6):Stp H6:=(sel (Nat.beq s.ph 1) (da6 .next .exit .fail p s) (da5 .next .exit .fail p s))
noncomputable def Ab4:Lo aa0 H6:=⟨En kb1,0,Wd4,[1,1,1,1,0,1,4,4,1,0,4,1,4,4,1,0,4,1,4,4],[0,5,6,7,8],.p,[⟨((.s (.c 3 (nL tV)))::(ru2 4 ((.s (.o .nil))::((.s (.o (.int .i64)))::((.s (.o (.int .i64)))::((.s (.o (.int .i64)))::(ru2 56 []))))))),[],fun a H=>(⟨(rL tV (slT a 0)),(toI (slT a 6)),(toI (slT a 7))⟩,⟨0,(toI (slT a 8)),[]⟩)⟩,⟨((.s (.c 3 (nL tV)))::(ru2 4 ((.s (.c 4 (nL tP)))::((.s (.o (.int .i64)))::((.s (.o (.int .i64)))::((.s (.o (.int .i64)))::(ru2 56 []))))))),[],fun a H=>(⟨(rL tV (slT a 0)),(toI (slT a 6)),(toI (slT a 7))⟩,⟨1,(toI (slT a 8)),(rL tP (slT a 5))⟩)⟩],Ea0,[(some 4,fun p s=>⟨((eL tV p.i5)::(ra 4 ((.v (.slice none 0 0))::((i p.is6)::((i p.is7)::((i s.is8)::(ra 18 ((i s.is8)::((i p.is7)::((b (decide (s.is8 < p.is7)))::(ra 35 []))))))))))),[]⟩),(some 4,fun p s=>⟨((eL tV p.i5)::(ra 4 ((eL tP s.ka3)::((i p.is6)::((i p.is7)::((i s.is8)::(ra 18 ((i s.is8)::((i p.is7)::((b (decide (s.is8 < p.is7)))::(ra 35 []))))))))))),[]⟩)],Uc7⟩
theorem Uc8:Ab4.Ok:=Lo.ok [] (by kernel_rfl) .nil rfl (.cons (fun a H=>by kernel_rfl) (.cons (fun a H=>by kernel_rfl) .nil)) fun p s=>(.sel (Nat.beq s.ph 1) (.of @da6 (fun F _ _ _ _ _=>by unfold da6;(repeat' apply k9 (f:=F))<;>rfl) (by kernel_rfl)) (.of @da5 (fun F _ _ _ _ _=>by unfold da5;(repeat' apply k9 (f:=F))<;>rfl) (by kernel_rfl)))
structure aa1 where
 is6:Int
structure H7 where
 ph:Nat
 i5:List V3
 is7:Int
 ka3:List Pln
noncomputable def Hc3 (p:aa1) (s:H7):St:=⟨((eL tV s.i5)::(ra 4 ((.v (.slice none 0 0))::((i p.is6)::((i s.is7)::(ra 57 [])))))),[]⟩
noncomputable def Hc4 (p:aa1) (s:H7):St:=⟨((eL tV s.i5)::(ra 4 ((eL tP s.ka3)::((i p.is6)::((i s.is7)::(ra 57 [])))))),[]⟩
noncomputable def Uc9 (p:aa1) (s:H7):St:=(sel (Nat.beq s.ph 1) (Hc4 p s) (Hc3 p s))
noncomputable def da7 {α:Type} (k:H7→α) (e:Nat→α) (z:α) (p:aa1) (s:H7):α:=let t1:=(lp (Ea0 (⟨(rt tV s.i5),p.is6,s.is7⟩:aa0)) (⟨0,0,[]⟩:H6));(sl (decide (s.is7 < p.is6)) (sl ((cnE tV s.i5)&&true) (sl (Nat.beq t1.1 1) (k ⟨0,(rt tV s.i5),(W (s.is7+1)),[]⟩) (sl (Nat.beq t1.1 2) (k ⟨1,(rt tV s.i5),(W (s.is7+1)),t1.2.ka3⟩) z)) z) (e 1))
noncomputable def da8 {α:Type} (k:H7→α) (e:Nat→α) (z:α) (p:aa1) (s:H7):α:=let t1:=(lp (Ea0 (⟨(rt tV s.i5),p.is6,s.is7⟩:aa0)) (⟨1,0,(rt tP s.ka3)⟩:H6));(sl (decide (s.is7 < p.is6)) (sl ((cnE tV s.i5)&&((cnE tP s.ka3)&&true)) (sl (Nat.beq t1.1 1) (k ⟨0,(rt tV s.i5),(W (s.is7+1)),[]⟩) (sl (Nat.beq t1.1 2) (k ⟨1,(rt tV s.i5),(W (s.is7+1)),t1.2.ka3⟩) z)) z) (e 2))
noncomputable def Ea1 (p:aa1) (s:H7):Stp H7:=(sel (Nat.beq s.ph 1) (da8 .next .exit .fail p s) (da7 .next .exit .fail p s))
noncomputable def Ab5:Lo aa1 H7:=⟨En kb1,0,Wd4,[1,1,1,1,0,1,4,4,1,0,4,1,4,4],[0,5,6,7],(.s .p (.s (.b (.s .p (.b (.u Ab4.ls)))) .p)),[⟨((.s (.c 3 (nL tV)))::(ru2 4 ((.s (.o .nil))::((.s (.o (.int .i64)))::((.s (.o (.int .i64)))::(ru2 57 [])))))),[],fun a H=>(⟨(toI (slT a 6))⟩,⟨0,(rL tV (slT a 0)),(toI (slT a 7)),[]⟩)⟩,⟨((.s (.c 3 (nL tV)))::(ru2 4 ((.s (.c 4 (nL tP)))::((.s (.o (.int .i64)))::((.s (.o (.int .i64)))::(ru2 57 [])))))),[],fun a H=>(⟨(toI (slT a 6))⟩,⟨1,(rL tV (slT a 0)),(toI (slT a 7)),(rL tP (slT a 5))⟩)⟩],Ea1,[(some 2,fun p s=>⟨((eL tV s.i5)::(ra 4 ((.v (.slice none 0 0))::((i p.is6)::((i s.is7)::(ra 14 ((i s.is7)::((i p.is6)::((b (decide (s.is7 < p.is6)))::(ra 40 [])))))))))),[]⟩),(some 2,fun p s=>⟨((eL tV s.i5)::(ra 4 ((eL tP s.ka3)::((i p.is6)::((i s.is7)::(ra 14 ((i s.is7)::((i p.is6)::((b (decide (s.is7 < p.is6)))::(ra 40 [])))))))))),[]⟩)],Uc9⟩
theorem Vc0:Ab5.Ok:=Lo.ok [Ab4.pr] (by kernel_rfl) (.cons Uc8 .nil) rfl (.cons (fun a H=>by kernel_rfl) (.cons (fun a H=>by kernel_rfl) .nil)) fun p s=>(.sel (Nat.beq s.ph 1) (.of @da8 (fun F _ _ _ _ _=>by unfold da8;(repeat' apply k9 (f:=F))<;>rfl) (by kernel_rfl)) (.of @da7 (fun F _ _ _ _ _=>by unfold da7;(repeat' apply k9 (f:=F))<;>rfl) (by kernel_rfl)))
structure ha9 where
structure L3 where
 ph:Nat
 i5:List V3
 is6:Int
 ka3:List Pln
noncomputable def Hc5 (p:ha9) (s:L3):St:=⟨((eL tV s.i5)::(ra 4 ((.v (.slice none 0 0))::((i s.is6)::(ra 58 []))))),[]⟩
noncomputable def Hc6 (p:ha9) (s:L3):St:=⟨((eL tV s.i5)::(ra 4 ((eL tP s.ka3)::((i s.is6)::(ra 58 []))))),[]⟩
noncomputable def Vc1 (p:ha9) (s:L3):St:=(sel (Nat.beq s.ph 1) (Hc6 p s) (Hc5 p s))
noncomputable def da9 {α:Type} (k:L3→α) (e:Nat→α) (z:α) (p:ha9) (s:L3):α:=let t1:=(lp (Ea1 (⟨s.is6⟩:aa1)) (⟨0,(rt tV s.i5),0,[]⟩:H7));(sl (decide (s.is6 < (↑(List.length s.i5):Int))) (sl ((cnE tV s.i5)&&true) (sl (Nat.beq t1.1 1) (k ⟨0,t1.2.i5,(W (s.is6+1)),[]⟩) (sl (Nat.beq t1.1 2) (k ⟨1,t1.2.i5,(W (s.is6+1)),t1.2.ka3⟩) z)) z) (e 1))
noncomputable def ea0 {α:Type} (k:L3→α) (e:Nat→α) (z:α) (p:ha9) (s:L3):α:=let t1:=(lp (Ea1 (⟨s.is6⟩:aa1)) (⟨1,(rt tV s.i5),0,(rt tP s.ka3)⟩:H7));(sl (decide (s.is6 < (↑(List.length s.i5):Int))) (sl ((cnE tV s.i5)&&((cnE tP s.ka3)&&true)) (sl (Nat.beq t1.1 1) (k ⟨0,t1.2.i5,(W (s.is6+1)),[]⟩) (sl (Nat.beq t1.1 2) (k ⟨1,t1.2.i5,(W (s.is6+1)),t1.2.ka3⟩) z)) z) (e 2))
noncomputable def Ua0 (p:ha9) (s:L3):Stp L3:=(sel (Nat.beq s.ph 1) (ea0 .next .exit .fail p s) (da9 .next .exit .fail p s))
noncomputable def Ab6:Lo ha9 L3:=⟨En kb1,0,Wd4,[1,1,1,1,0,1,4,4],[0,5,6],(.s .p (.s (.b (.s .p (.b (.u Ab5.ls)))) .p)),[⟨((.s (.c 3 (nL tV)))::(ru2 4 ((.s (.o .nil))::((.s (.o (.int .i64)))::(ru2 58 []))))),[],fun a H=>(⟨⟩,⟨0,(rL tV (slT a 0)),(toI (slT a 6)),[]⟩)⟩,⟨((.s (.c 3 (nL tV)))::(ru2 4 ((.s (.c 4 (nL tP)))::((.s (.o (.int .i64)))::(ru2 58 []))))),[],fun a H=>(⟨⟩,⟨1,(rL tV (slT a 0)),(toI (slT a 6)),(rL tP (slT a 5))⟩)⟩],Ua0,[(some 0,fun p s=>⟨((eL tV s.i5)::(ra 4 ((.v (.slice none 0 0))::((i s.is6)::(ra 9 ((i s.is6)::((eL tV s.i5)::((i (↑(List.length s.i5):Int))::((b (decide (s.is6 < (↑(List.length s.i5):Int))))::(ra 45 [])))))))))),[]⟩),(some 0,fun p s=>⟨((eL tV s.i5)::(ra 4 ((eL tP s.ka3)::((i s.is6)::(ra 9 ((i s.is6)::((eL tV s.i5)::((i (↑(List.length s.i5):Int))::((b (decide (s.is6 < (↑(List.length s.i5):Int))))::(ra 45 [])))))))))),[]⟩)],Vc1⟩
theorem Vc2:Ab6.Ok:=Lo.ok [Ab5.pr] (by kernel_rfl) (.cons Vc0 .nil) rfl (.cons (fun a H=>by kernel_rfl) (.cons (fun a H=>by kernel_rfl) .nil)) fun p s=>(.sel (Nat.beq s.ph 1) (.of @ea0 (fun F _ _ _ _ _=>by unfold ea0;(repeat' apply k9 (f:=F))<;>rfl) (by kernel_rfl)) (.of @da9 (fun F _ _ _ _ _=>by unfold da9;(repeat' apply k9 (f:=F))<;>rfl) (by kernel_rfl)))
noncomputable def cb9 (x:List V3):Option (b7×List b8):=let t1:=(Vb2 (rt tV x));let t2:=(lp (Ua0 (⟨⟩:ha9)) (⟨0,(rt tV x),0,[]⟩:L3));(sl (okE tV x) (sl (Vb3 (rt tV x)) (sl (t1 != 0) (some ((.tup [(.v (.slice none 0 0)),(i t1)]),[])) (sl ((cnE tV x)&&true) (sl (Nat.beq t2.1 1) (some ((.tup [(.v (.slice none 0 0)),(i 0)]),[])) (sl (Nat.beq t2.1 2) (some ((.tup [(eL tP t2.2.ka3),(i 0)]),[])) none)) none)) none) none)
noncomputable def wb9 (x:List V3):List Pln×Int:=L4 (two (r1L tP) r1I) (cb9 x)
noncomputable def Pa4 (x:List V3):Bool:=okO (two (r1L tP) r1I) (cb9 x)
noncomputable def Dc6:Sum:=S3 (X5 tV) (fun x=>.guard (Pa4 x) (.ret ((two (r1L tP) r1I).enc (wb9 x),[])))
theorem ud9:g9 prog G 112 Dc6:=Aa9 (bd hf9 ed5) (two (r1L tP) r1I) (o:=cb9) fun x=>ua4 (.s .p (.s .p (.s .p (.s .p (.s (.s .p (.b (.u Ab6.ls))) .p))))) [Ab6.pr] (by kernel_rfl) (.cons Vc2 .nil) (by kernel_rfl)
noncomputable def ec7:List (Nat×Sum):=[(98,ma3),(124,jc7)]
theorem Vc3:i6 prog G ec7:=⟨ta0,Dc3,trivial⟩
structure ba5 where
 is4:Int
structure B5 where
 ph:Nat
 is6:Int
 e8:List Int
 b9:Int
 ns5:Nat
 eh1:List (List b7)
noncomputable def zc7 (p:ba5) (s:B5):St:=⟨(ra 3 ((.ptr 0 0 0 0)::((i p.is4)::((.v (.slice none 0 0))::((i s.is6)::(ra 127 [])))))),[⟨0,2,[[(eL tI s.e8),(i s.b9)]],true,false,0⟩]⟩
noncomputable def zc8 (p:ba5) (s:B5):St:=⟨(ra 3 ((.ptr 0 0 0 0)::((i p.is4)::((.sl 1 0 s.ns5 0)::((i s.is6)::(ra 127 [])))))),[⟨0,2,[[(eL tI s.e8),(i s.b9)]],true,false,0⟩,⟨36,3,s.eh1,true,false,0⟩]⟩
noncomputable def Hc7 (p:ba5) (s:B5):St:=(sel (Nat.beq s.ph 1) (zc8 p s) (zc7 p s))
noncomputable def ta1 {α:Type} (k:B5→α) (e:Nat→α) (z:α) (p:ba5) (s:B5):α:=let t1:=(l4 ⟨17,(rt tI s.e8),s.b9⟩);let t2:=(l4 ⟨17,(rt tI (rt tI s.e8)),t1.b9⟩);let t3:=(l4 ⟨17,(rt tI (rt tI (rt tI s.e8))),t2.b9⟩);let t4:=(l4 ⟨6,(rt tI (rt tI (rt tI (rt tI s.e8)))),t3.b9⟩);(sl (decide (s.is6 < p.is4)) (sl ((cnE tI s.e8)&&true) (sl (Nat.beq t1.alt 1) (sl ((cnE tI (rt tI s.e8))&&true) (sl (Nat.beq t2.alt 1) (sl ((cnE tI (rt tI (rt tI s.e8)))&&true) (sl (Nat.beq t3.alt 1) (sl ((cnE tI (rt tI (rt tI (rt tI s.e8))))&&true) (sl (Nat.beq t4.alt 1) (sl (t4.is0==1) (sl (decide (s.is6 > 1)) z (sl (t4.is0==2) (sl (decide (s.is6 > 0)) z (sl (t4.is0==3) (sl (decide (s.is6 > 2)) z (k ⟨1,(W (s.is6+1)),(rt tI (rt tI (rt tI (rt tI s.e8)))),t4.b9,1,[[(i (W (t1.is0 - 8))),(i (W (t2.is0 - 8))),(i (W (t3.is0 - 8)))]]⟩)) (k ⟨1,(W (s.is6+1)),(rt tI (rt tI (rt tI (rt tI s.e8)))),t4.b9,1,[[(i (W (t1.is0 - 8))),(i (W (t2.is0 - 8))),(i (W (t3.is0 - 8)))]]⟩))) (sl (t4.is0==3) (sl (decide (s.is6 > 2)) z (k ⟨1,(W (s.is6+1)),(rt tI (rt tI (rt tI (rt tI s.e8)))),t4.b9,1,[[(i (W (t1.is0 - 8))),(i (W (t2.is0 - 8))),(i (W (t3.is0 - 8)))]]⟩)) (k ⟨1,(W (s.is6+1)),(rt tI (rt tI (rt tI (rt tI s.e8)))),t4.b9,1,[[(i (W (t1.is0 - 8))),(i (W (t2.is0 - 8))),(i (W (t3.is0 - 8)))]]⟩)))) (sl (t4.is0==2) (sl (decide (s.is6 > 0)) z (sl (t4.is0==3) (sl (decide (s.is6 > 2)) z (k ⟨1,(W (s.is6+1)),(rt tI (rt tI (rt tI (rt tI s.e8)))),t4.b9,1,[[(i (W (t1.is0 - 8))),(i (W (t2.is0 - 8))),(i (W (t3.is0 - 8)))]]⟩)) (k ⟨1,(W (s.is6+1)),(rt tI (rt tI (rt tI (rt tI s.e8)))),t4.b9,1,[[(i (W (t1.is0 - 8))),(i (W (t2.is0 - 8))),(i (W (t3.is0 - 8)))]]⟩))) (sl (t4.is0==3) (sl (decide (s.is6 > 2)) z (k ⟨1,(W (s.is6+1)),(rt tI (rt tI (rt tI (rt tI s.e8)))),t4.b9,1,[[(i (W (t1.is0 - 8))),(i (W (t2.is0 - 8))),(i (W (t3.is0 - 8)))]]⟩)) (k ⟨1,(W (s.is6+1)),(rt tI (rt tI (rt tI (rt tI s.e8)))),t4.b9,1,[[(i (W (t1.is0 - 8))),(i (W (t2.is0 - 8))),(i (W (t3.is0 - 8)))]]⟩)))) z) z) z) z) z) z) z) z) (e 1))
noncomputable def L9 {α:Type} (k:B5→α) (e:Nat→α) (z:α) (p:ba5) (s:B5):α:=let t1:=(l4 ⟨17,(rt tI s.e8),s.b9⟩);let a0:=(f7 s.eh1 (0+(W (s.is6 - 1)).toNat));let a1:=(Nat.beq s.ns5 (len s.eh1)&&Nat.ble ((s.ns5+1)*24) room);let a3:=(e7 (f7 s.eh1 (0+(W (s.is6 - 2)).toNat)) 0);let a4:=((Nat.blt (0+(W (s.is6 - 1)).toNat) (len s.eh1))&&(Nat.ble (2+1) (len a0)));let a5:=(i (W (Int.tdiv (W ((toI (hdA (tlA (e7 a0 0))))+(toI (hdA (tlA a3))))) 2)));let a6:=(i (W (Int.tdiv (W ((toI (hdA (e7 a0 0)))+(toI (hdA a3)))) 2)));let a7:=(app s.eh1 [[a6,a5,(i (W (Int.tdiv (W ((toI (hdA (tlA (tlA (e7 a0 0)))))+(toI (hdA (tlA (tlA a3)))))) 2)))]]);let a8:=(inB (W (s.is6 - 1)) s.ns5);let a9:=(i (toI (hdA (tlA (e7 a0 0)))));let a10:=((Nat.blt (0+(W (s.is6 - 1)).toNat) (len s.eh1))&&(Nat.ble (0+3) (len a0)));let a11:=(i (toI (hdA (e7 a0 0))));let a12:=(app s.eh1 [[a11,a9,(i (toI (hdA (tlA (tlA (e7 a0 0))))))]]);let a13:=(i (toI (hdA (e7 a0 2))));let a14:=(rt tI (rt tI s.e8));let t2:=(l4 ⟨17,a14,t1.b9⟩);let t3:=(l4 ⟨17,(rt tI a14),t2.b9⟩);let a2:=(rt tI (rt tI a14));let t4:=(l4 ⟨6,a2,t3.b9⟩);(sl (decide (s.is6 < p.is4)) (sl ((cnE tI s.e8)&&true) (sl (Nat.beq t1.alt 1) (sl ((cnE tI (rt tI s.e8))&&true) (sl (Nat.beq t2.alt 1) (sl ((cnE tI a14)&&true) (sl (Nat.beq t3.alt 1) (sl ((cnE tI (rt tI a14))&&true) (sl (Nat.beq t4.alt 1) (sl (t4.is0==1) (sl (decide (s.is6 > 1)) (sl a8 (sl (a10&&(K7 [(CK.int .i64),(CK.int .i64),(CK.int .i64)] (e7 a0 0))) (sl (inB (W (s.is6 - 2)) s.ns5) (sl (((Nat.blt (0+(W (s.is6 - 2)).toNat) (len s.eh1))&&(Nat.ble (0+3) (len (f7 s.eh1 (0+(W (s.is6 - 2)).toNat)))))&&(K7 [(CK.int .i64),(CK.int .i64),(CK.int .i64)] a3)) (sl (t4.is0==2) (sl (decide (s.is6 > 0)) (sl a8 (sl (a10&&(K7 [(CK.int .i64),(CK.int .i64),(CK.int .i64)] (e7 a0 0))) (sl (t4.is0==3) (sl (decide (s.is6 > 2)) (sl a8 (sl (a4&&(K7 [(CK.int .i64)] (e7 a0 2))) (sl a1 (k ⟨1,(W (s.is6+1)),a2,t4.b9,(s.ns5+1),(app s.eh1 [[a11,a9,a13]])⟩) z) z) z) (sl a1 (k ⟨1,(W (s.is6+1)),a2,t4.b9,(s.ns5+1),a12⟩) z)) (sl a1 (k ⟨1,(W (s.is6+1)),a2,t4.b9,(s.ns5+1),a12⟩) z)) z) z) (sl (t4.is0==3) (sl (decide (s.is6 > 2)) (sl a8 (sl (a4&&(K7 [(CK.int .i64)] (e7 a0 2))) (sl a1 (k ⟨1,(W (s.is6+1)),a2,t4.b9,(s.ns5+1),(app s.eh1 [[a6,a5,a13]])⟩) z) z) z) (sl a1 (k ⟨1,(W (s.is6+1)),a2,t4.b9,(s.ns5+1),a7⟩) z)) (sl a1 (k ⟨1,(W (s.is6+1)),a2,t4.b9,(s.ns5+1),a7⟩) z))) (sl (t4.is0==3) (sl (decide (s.is6 > 2)) (sl a8 (sl (a4&&(K7 [(CK.int .i64)] (e7 a0 2))) (sl a1 (k ⟨1,(W (s.is6+1)),a2,t4.b9,(s.ns5+1),(app s.eh1 [[a6,a5,a13]])⟩) z) z) z) (sl a1 (k ⟨1,(W (s.is6+1)),a2,t4.b9,(s.ns5+1),a7⟩) z)) (sl a1 (k ⟨1,(W (s.is6+1)),a2,t4.b9,(s.ns5+1),a7⟩) z))) z) z) z) z) (sl (t4.is0==2) (sl (decide (s.is6 > 0)) (sl a8 (sl (a10&&(K7 [(CK.int .i64),(CK.int .i64),(CK.int .i64)] (e7 a0 0))) (sl (t4.is0==3) (sl (decide (s.is6 > 2)) (sl a8 (sl (a4&&(K7 [(CK.int .i64)] (e7 a0 2))) (sl a1 (k ⟨1,(W (s.is6+1)),a2,t4.b9,(s.ns5+1),(app s.eh1 [[a11,a9,a13]])⟩) z) z) z) (sl a1 (k ⟨1,(W (s.is6+1)),a2,t4.b9,(s.ns5+1),a12⟩) z)) (sl a1 (k ⟨1,(W (s.is6+1)),a2,t4.b9,(s.ns5+1),a12⟩) z)) z) z) (sl (t4.is0==3) (sl (decide (s.is6 > 2)) (sl a8 (sl (a4&&(K7 [(CK.int .i64)] (e7 a0 2))) (sl a1 (k ⟨1,(W (s.is6+1)),a2,t4.b9,(s.ns5+1),(app s.eh1 [[(i (W (t1.is0 - 8))),(i (W (t2.is0 - 8))),a13]])⟩) z) z) z) (sl a1 (k ⟨1,(W (s.is6+1)),a2,t4.b9,(s.ns5+1),(app s.eh1 [[(i (W (t1.is0 - 8))),(i (W (t2.is0 - 8))),(i (W (t3.is0 - 8)))]])⟩) z)) (sl a1 (k ⟨1,(W (s.is6+1)),a2,t4.b9,(s.ns5+1),(app s.eh1 [[(i (W (t1.is0 - 8))),(i (W (t2.is0 - 8))),(i (W (t3.is0 - 8)))]])⟩) z))) (sl (t4.is0==3) (sl (decide (s.is6 > 2)) (sl a8 (sl (a4&&(K7 [(CK.int .i64)] (e7 a0 2))) (sl a1 (k ⟨1,(W (s.is6+1)),a2,t4.b9,(s.ns5+1),(app s.eh1 [[(i (W (t1.is0 - 8))),(i (W (t2.is0 - 8))),a13]])⟩) z) z) z) (sl a1 (k ⟨1,(W (s.is6+1)),a2,t4.b9,(s.ns5+1),(app s.eh1 [[(i (W (t1.is0 - 8))),(i (W (t2.is0 - 8))),(i (W (t3.is0 - 8)))]])⟩) z)) (sl a1 (k ⟨1,(W (s.is6+1)),a2,t4.b9,(s.ns5+1),(app s.eh1 [[(i (W (t1.is0 - 8))),(i (W (t2.is0 - 8))),(i (W (t3.is0 - 8)))]])⟩) z)))) (sl (t4.is0==2) (sl (decide (s.is6 > 0)) (sl a8 (sl (a10&&(K7 [(CK.int .i64),(CK.int .i64),(CK.int .i64)] (e7 a0 0))) (sl (t4.is0==3) (sl (decide (s.is6 > 2)) (sl a8 (sl (a4&&(K7 [(CK.int .i64)] (e7 a0 2))) (sl a1 (k ⟨1,(W (s.is6+1)),a2,t4.b9,(s.ns5+1),(app s.eh1 [[a11,a9,a13]])⟩) z) z) z) (sl a1 (k ⟨1,(W (s.is6+1)),a2,t4.b9,(s.ns5+1),a12⟩) z)) (sl a1 (k ⟨1,(W (s.is6+1)),a2,t4.b9,(s.ns5+1),a12⟩) z)) z) z) (sl (t4.is0==3) (sl (decide (s.is6 > 2)) (sl a8 (sl (a4&&(K7 [(CK.int .i64)] (e7 a0 2))) (sl a1 (k ⟨1,(W (s.is6+1)),a2,t4.b9,(s.ns5+1),(app s.eh1 [[(i (W (t1.is0 - 8))),(i (W (t2.is0 - 8))),a13]])⟩) z) z) z) (sl a1 (k ⟨1,(W (s.is6+1)),a2,t4.b9,(s.ns5+1),(app s.eh1 [[(i (W (t1.is0 - 8))),(i (W (t2.is0 - 8))),(i (W (t3.is0 - 8)))]])⟩) z)) (sl a1 (k ⟨1,(W (s.is6+1)),a2,t4.b9,(s.ns5+1),(app s.eh1 [[(i (W (t1.is0 - 8))),(i (W (t2.is0 - 8))),(i (W (t3.is0 - 8)))]])⟩) z))) (sl (t4.is0==3) (sl (decide (s.is6 > 2)) (sl a8 (sl (a4&&(K7 [(CK.int .i64)] (e7 a0 2))) (sl a1 (k ⟨1,(W (s.is6+1)),a2,t4.b9,(s.ns5+1),(app s.eh1 [[(i (W (t1.is0 - 8))),(i (W (t2.is0 - 8))),a13]])⟩) z) z) z) (sl a1 (k ⟨1,(W (s.is6+1)),a2,t4.b9,(s.ns5+1),(app s.eh1 [[(i (W (t1.is0 - 8))),(i (W (t2.is0 - 8))),(i (W (t3.is0 - 8)))]])⟩) z)) (sl a1 (k ⟨1,(W (s.is6+1)),a2,t4.b9,(s.ns5+1),(app s.eh1 [[(i (W (t1.is0 - 8))),(i (W (t2.is0 - 8))),(i (W (t3.is0 - 8)))]])⟩) z)))) z) z) z) z) z) z) z) z) (e 2))
noncomputable def Ma6 (p:ba5) (s:B5):Stp B5:=(sel (Nat.beq s.ph 1) (L9 .next .exit .fail p s) (ta1 .next .exit .fail p s))
noncomputable def qb5:Lo ba5 B5:=⟨En ec7,0,We3,[1,1,1,1,0,1,4,4],[3,4,5,6],.p,[⟨(ru2 3 ((.s (.o (.ptr 0 0 0 0)))::((.s (.o (.int .i64)))::((.s (.o .nil))::((.s (.o (.int .i64)))::(ru2 127 [])))))),[⟨0,2,true,(some [[(.c 1 (nL tI)),(.o (.int .i64))]])⟩],fun a H=>(⟨(toI (slT a 4))⟩,⟨0,(toI (slT a 6)),(rL tI (slT (rwT (elT H 0) 0) 0)),(toI (slT (rwT (elT H 0) 0) 1)),0,[]⟩)⟩,⟨(ru2 3 ((.s (.o (.ptr 0 0 0 0)))::((.s (.o (.int .i64)))::((.s (.o (.sl 1 0 (some 0) none)))::((.s (.o (.int .i64)))::(ru2 127 [])))))),[⟨0,2,true,(some [[(.c 1 (nL tI)),(.o (.int .i64))]])⟩,⟨36,3,true,none⟩],fun a H=>(⟨(toI (slT a 4))⟩,⟨1,(toI (slT a 6)),(rL tI (slT (rwT (elT H 0) 0) 0)),(toI (slT (rwT (elT H 0) 0) 1)),(slN (slT a 5)),(elT H 1)⟩)⟩],Ma6,[(some 0,fun p s=>⟨(ra 3 ((.ptr 0 0 0 0)::((i p.is4)::((.v (.slice none 0 0))::((i s.is6)::(ra 11 ((i s.is6)::((i p.is4)::((b (decide (s.is6 < p.is4)))::(ra 113 [])))))))))),[⟨0,2,[[(eL tI s.e8),(i s.b9)]],true,false,0⟩]⟩),(some 0,fun p s=>⟨(ra 3 ((.ptr 0 0 0 0)::((i p.is4)::((.sl 1 0 s.ns5 0)::((i s.is6)::(ra 11 ((i s.is6)::((i p.is4)::((b (decide (s.is6 < p.is4)))::(ra 113 [])))))))))),[⟨0,2,[[(eL tI s.e8),(i s.b9)]],true,false,0⟩,⟨36,3,s.eh1,true,false,0⟩]⟩)],Hc7⟩
theorem Hc8:qb5.Ok:=Lo.ok [] (by kernel_rfl) .nil rfl (.cons (fun a H=>by kernel_rfl) (.cons (fun a H=>by kernel_rfl) .nil)) fun p s=>(.sel (Nat.beq s.ph 1) (.of @L9 (fun F _ _ _ _ _=>by unfold L9;(repeat' apply k9 (f:=F))<;>rfl) (by kernel_rfl)) (.of @ta1 (fun F _ _ _ _ _=>by unfold ta1;(repeat' apply k9 (f:=F))<;>rfl) (by kernel_rfl)))
noncomputable def Ua1 (x:List Int):Option (b7×List b8):=let t1:=(l4 ⟨5,(rt tI x),0⟩);let t2:=(lp (Ma6 (⟨(W (4+t1.is0))⟩:ba5)) (⟨0,0,(rt tI (rt tI x)),t1.b9,0,[]⟩:B5));let t3:=(qb4 []);let t4:=(qb4 (lsL tV t2.2.ns5 (fun k=>f7 t2.2.eh1 (0+k))));let a0:=(e7 (f7 t2.2.eh1 0) 0);let a1:=(i (toI (hdA (tlA (tlA a0)))));let a2:=(i (W ((toI (hdA a0)) - 3)));let a3:=(setAt t2.2.eh1 1 (N3 (f7 t2.2.eh1 1) 0 [a2,(i (toI (hdA (tlA a0)))),a1]));let a4:=(i (W ((toI (hdA (tlA a0))) - 2)));(sl ((cnE tI x)&&true) (sl (Nat.beq t1.alt 1) (sl ((cnE tI (rt tI x))&&true) (sl (Nat.beq t2.1 1) (sl (Xa9 []) (sl t3 none (some ((.v (.slice none 0 0)),[]))) none) (sl (Nat.beq t2.1 2) (sl (okL tV t2.2.ns5 (fun k=>f7 t2.2.eh1 (0+k))) (sl (Xa9 (lsL tV t2.2.ns5 (fun k=>f7 t2.2.eh1 (0+k)))) (sl t4 (sl (inB 0 t2.2.ns5) (sl (((Nat.blt 0 (len t2.2.eh1))&&(Nat.ble (0+3) (len (f7 t2.2.eh1 0))))&&(K7 [(CK.int .i64),(CK.int .i64),(CK.int .i64)] a0)) (sl (inB 1 t2.2.ns5) (sl ((Nat.blt 1 (len t2.2.eh1))&&(Nat.ble (0+3) (len (f7 t2.2.eh1 1)))) (sl (inB 2 t2.2.ns5) (sl ((Nat.blt 2 (len a3))&&(Nat.ble (0+3) (len (f7 a3 2)))) (sl (inB 3 t2.2.ns5) (sl ((Nat.blt 3 (len (setAt a3 2 (N3 (f7 a3 2) 0 [(i (toI (hdA a0))),a4,a1]))))&&(Nat.ble (0+3) (len (f7 (setAt a3 2 (N3 (f7 a3 2) 0 [(i (toI (hdA a0))),a4,a1])) 3)))) (some ((.sl 0 0 t2.2.ns5 0),[⟨36,3,(setAt (setAt a3 2 (N3 (f7 a3 2) 0 [(i (toI (hdA a0))),a4,a1])) 3 (N3 (f7 (setAt a3 2 (N3 (f7 a3 2) 0 [(i (toI (hdA a0))),a4,a1])) 3) 0 [(i (toI (hdA a0))),(i (toI (hdA (tlA a0)))),(i (W ((toI (hdA (tlA (tlA a0)))) - 1)))])),true,false,0⟩])) none) none) none) none) none) none) none) none) (some ((.sl 0 0 t2.2.ns5 0),[⟨36,3,t2.2.eh1,true,false,0⟩]))) none) none) none)) none) none) none)
noncomputable def va5 (x:List Int):List V3:=L4 (one (r1L tV)) (Ua1 x)
noncomputable def Ua2 (x:List Int):Bool:=okO (one (r1L tV)) (Ua1 x)
noncomputable def sc3:Sum:=S3 (X5 tI) (fun x=>.guard (Ua2 x) (.ret ((one (r1L tV)).enc (va5 x),[])))
theorem ed6:g9 prog G 46 sc3:=Aa9 (bd b46 Vc3) (one (r1L tV)) (o:=Ua1) fun x=>ua4 (.s .p (.s .p (.s .p (.s .p (.s (.s .p (.b (.u qb5.ls))) .p))))) [qb5.pr] (by kernel_rfl) (.cons Hc8 .nil) (by kernel_rfl)
end Go.Ev.Ce
end
section
namespace Go.Ev.Ce
open Go Go.Ev Go.Ev.L Go.Proofs
set_option maxRecDepth 100000
noncomputable def Id1:List (Nat×Sum):=[(98,ma3),(97,Zb9),(111,yc0),(35,Uc1),(21,ic3),(46,sc3),(112,Dc6)]
theorem vd0:i6 prog G Id1:=⟨ta0,jc4,Qc7,Hd6,Cc7,ed6,ud9,trivial⟩
noncomputable def qb6 (x:List Int):Option (b7×List b8):=let t1:=(l4 ⟨4,(rt tI x),0⟩);let t2:=(Ga5 ⟨6,(rt tI (rt tI x)),t1.b9⟩);let t3:=(l4 ⟨6,(rt tI t2.e8),t2.b9⟩);let t4:=(l4 ⟨6,(rt tI (rt tI t2.e8)),t3.b9⟩);let t5:=(l4 ⟨6,(rt tI (rt tI (rt tI t2.e8))),t4.b9⟩);let t6:=(Cb6 (⟨t2.oa6,t2.oa7,t2.oa8⟩:V3) (⟨(W ((W (t2.oa6+1))+t3.is0)),(W ((W (t2.oa7+1))+t4.is0)),(W ((W (t2.oa8+1))+t5.is0))⟩:V3));let a0:=(if 7 < (↑(List.length x):Int) then 7 else (↑(List.length x):Int));let a1:=(o0 (fun k=>(tP).row (gL tP t6 k)) (List.range (List.length t6)));let a2:=(fun k=>(fun k=>(tI).row (gL tI x k)) (a0.toNat+k));let a3:=((List.length x) - a0.toNat);let t7:=(Uc0 (lsL tI a3 a2));let t8:=(Wa8 [t7]);let t9:=(va5 (lsL tI a3 a2));let t10:=(wb9 (rt tV t9));let t11:=(Wa8 (slR tP (app (app [] a1) [[(i t7.n.x),(i t7.n.y),(i t7.n.z),(i t7.b)]]) 0 ((0+(len a1))+1)));(sl ((cnE tI x)&&true) (sl (Nat.beq t1.alt 1) (sl ((cnE tI (rt tI x))&&true) (sl (Nat.beq t2.alt 1) (sl ((cnE tI t2.e8)&&true) (sl (Nat.beq t3.alt 1) (sl ((cnE tI (rt tI t2.e8))&&true) (sl (Nat.beq t4.alt 1) (sl ((cnE tI (rt tI (rt tI t2.e8)))&&true) (sl (Nat.beq t5.alt 1) (sl (lb7 (⟨t2.oa6,t2.oa7,t2.oa8⟩:V3) (⟨(W ((W (t2.oa6+1))+t3.is0)),(W ((W (t2.oa7+1))+t4.is0)),(W ((W (t2.oa8+1))+t5.is0))⟩:V3)) (sl (inB a0 ((List.length x)+1)) (sl (t1.is0==2) (sl (Nat.beq (len a1) 0) (sl (okL tI a3 a2) (sl (Jb4 (lsL tI a3 a2)) (sl (Na7 [t7]) (sl t8 (some ((.sl 0 0 1 0),[⟨50,4,[[(i t7.n.x),(i t7.n.y),(i t7.n.z),(i t7.b)]],true,false,0⟩])) (sl (t1.is0==3) (sl (okL tI a3 a2) (sl (Ua2 (lsL tI a3 a2)) (sl (okE tV t9) (sl (Pa4 (rt tV t9)) (sl (t10.2==0) (some ((eL tP t10.1),[])) (some ((eL tP t6),[]))) none) none) none) none) (some ((eL tP t6),[])))) none) none) none) (sl (Nat.beq 0 0&&Nat.ble ((0+(len a1))*32) room) (sl (okL tI a3 a2) (sl (Jb4 (lsL tI a3 a2)) (sl (Nat.beq (0+(len a1)) (len (app [] a1))&&Nat.ble (((0+(len a1))+1)*32) room) (sl (okS tP (app (app [] a1) [[(i t7.n.x),(i t7.n.y),(i t7.n.z),(i t7.b)]]) 0 ((0+(len a1))+1)) (sl (Na7 (slR tP (app (app [] a1) [[(i t7.n.x),(i t7.n.y),(i t7.n.z),(i t7.b)]]) 0 ((0+(len a1))+1))) (sl t11 (some ((.sl 0 0 ((0+(len a1))+1) 0),[⟨50,4,(app (app [] a1) [[(i t7.n.x),(i t7.n.y),(i t7.n.z),(i t7.b)]]),true,false,0⟩])) (sl (t1.is0==3) (sl (okL tI a3 a2) (sl (Ua2 (lsL tI a3 a2)) (sl (okE tV t9) (sl (Pa4 (rt tV t9)) (sl (t10.2==0) (some ((eL tP t10.1),[])) (some ((eL tP t6),[]))) none) none) none) none) (some ((eL tP t6),[])))) none) none) none) none) none) none)) (sl (t1.is0==3) (sl (okL tI a3 a2) (sl (Ua2 (lsL tI a3 a2)) (sl (okE tV t9) (sl (Pa4 (rt tV t9)) (sl (t10.2==0) (some ((eL tP t10.1),[])) (some ((eL tP t6),[]))) none) none) none) none) (some ((eL tP t6),[])))) none) none) none) none) none) none) none) none) none) none) none) none)
noncomputable def ja2 (x:List Int):List Pln:=L4 (one (r1L tP)) (qb6 x)
noncomputable def jc8 (x:List Int):Bool:=okO (one (r1L tP)) (qb6 x)
noncomputable def Vc4:Sum:=S3 (X5 tI) (fun x=>.guard (jc8 x) (.ret ((one (r1L tP)).enc (ja2 x),[])))
theorem Id2:g9 prog G 30 Vc4:=Aa9 (bd b30 vd0) (one (r1L tP)) (o:=qb6) fun x=>s6 (by kernel_rfl)
noncomputable def vd1:List (Nat×Sum):=[]
theorem ed7:i6 prog G vd1:=trivial
noncomputable def db0 (x:List Pln):Option (b7×List b8):=(sl (inB (if 8 < (↑(List.length x):Int) then 8 else (↑(List.length x):Int)) ((List.length x)+1)) (some ((.tree 4 ((if 8 < (↑(List.length x):Int) then 8 else (↑(List.length x):Int)).toNat - 0) (fun k=>(fun k=>(tP).row (gL tP x k)) (0+k))),[])) none)
noncomputable def xb0 (x:List Pln):List Pln:=L4 (one (r1L tP)) (db0 x)
noncomputable def Vb5 (x:List Pln):Bool:=okO (one (r1L tP)) (db0 x)
noncomputable def Dc7:Sum:=S3 (X5 tP) (fun x=>.guard (Vb5 x) (.ret ((one (r1L tP)).enc (xb0 x),[])))
theorem vd2:g9 prog G 82 Dc7:=Aa9 (bd b82 ed7) (one (r1L tP)) (o:=db0) fun x=>s6 (by kernel_rfl)
noncomputable def xb1:List (Nat×Sum):=[]
theorem jc9:i6 prog G xb1:=trivial
structure ja3 where
 C5:List Pt
 Zc2:List Pt
structure F4 where
 is5:Int
noncomputable def cc7 (p:ja3) (s:F4):St:=⟨((eL tX p.C5)::((eL tX p.Zc2)::(ra 3 ((i s.is5)::(ra 20 []))))),[]⟩
noncomputable def ba6 {α:Type} (k:F4→α) (e:Nat→α) (z:α) (p:ja3) (s:F4):α:=(sl (decide (s.is5 < (↑(List.length p.C5):Int))) (sl (inB s.is5 (List.length p.C5)) (sl (inB s.is5 (List.length p.Zc2)) (sl (!(((gL tX p.C5 s.is5.toNat).px==(gL tX p.Zc2 s.is5.toNat).px)&&(((gL tX p.C5 s.is5.toNat).py==(gL tX p.Zc2 s.is5.toNat).py)&&(((gL tX p.C5 s.is5.toNat).pz==(gL tX p.Zc2 s.is5.toNat).pz)&&(((gL tX p.C5 s.is5.toNat).pw==(gL tX p.Zc2 s.is5.toNat).pw)&&true))))) (e 1) (k ⟨(W (s.is5+1))⟩)) z) z) (e 2))
noncomputable def ea6 (p:ja3) (s:F4):Stp F4:=ba6 .next .exit .fail p s
noncomputable def Na9:Lo ja3 F4:=⟨En xb1,0,Ve8,[1,1,0,1,4,4],[0,1,5],.p,[⟨((.s (.c 4 (nL tX)))::((.s (.c 4 (nL tX)))::(ru2 3 ((.s (.o (.int .i64)))::(ru2 20 []))))),[],fun a H=>(⟨(rL tX (slT a 0)),(rL tX (slT a 1))⟩,⟨(toI (slT a 5))⟩)⟩],ea6,[(none,fun p s=>⟨[(b false)],[]⟩),(some 0,fun p s=>⟨((eL tX p.C5)::((eL tX p.Zc2)::(ra 3 ((i s.is5)::(ra 5 ((i s.is5)::((eL tX p.C5)::((i (↑(List.length p.C5):Int))::((b (decide (s.is5 < (↑(List.length p.C5):Int))))::(ra 11 [])))))))))),[]⟩)],cc7⟩
theorem cc8:Na9.Ok:=Lo.ok [] (by kernel_rfl) .nil rfl (.cons (fun a H=>by kernel_rfl) .nil) fun p s=>(.of @ba6 (fun F _ _ _ _ _=>by unfold ba6;(repeat' apply k9 (f:=F))<;>rfl) (by kernel_rfl))
noncomputable def ta2 (x:List Pt) (y:List Pt):Option (b7×List b8):=let t1:=(lp (ea6 (⟨(rt tX x),(rt tX y)⟩:ja3)) (⟨0⟩:F4));(sl ((↑(List.length x):Int) != (↑(List.length y):Int)) (some ((b false),[])) (sl ((cnE tX x)&&((cnE tX y)&&true)) (sl (Nat.beq t1.1 1) (some ((b false),[])) (sl (Nat.beq t1.1 2) (some ((b true),[])) none)) none))
noncomputable def ta3 (x:List Pt) (y:List Pt):Bool:=L4 (one r1B) (ta2 x y)
noncomputable def ta4 (x:List Pt) (y:List Pt):Bool:=okO (one r1B) (ta2 x y)
noncomputable def Eb1:Sum:=pa2 (X5 tX) (X5 tX) (fun x y=>.guard (ta4 x y) (.ret ((one r1B).enc (ta3 x y),[])))
theorem sc4:g9 prog G 17 Eb1:=ib8 (bd b17 jc9) (one r1B) (o:=ta2) fun x y=>ua4 (.s .p (.s .p (.s (.s .p (.b (.u Na9.ls))) .p))) [Na9.pr] (by kernel_rfl) (.cons cc8 .nil) (by kernel_rfl)
noncomputable def Dc8:List (Nat×Sum):=[]
theorem vd3:i6 prog G Dc8:=trivial
structure Ua3 where
 c7:List Pln
 Ec6:List Pln
structure ga4 where
 is5:Int
noncomputable def ed8 (p:Ua3) (s:ga4):St:=⟨((eL tP p.c7)::((eL tP p.Ec6)::(ra 3 ((i s.is5)::(ra 20 []))))),[]⟩
noncomputable def Ea2 {α:Type} (k:ga4→α) (e:Nat→α) (z:α) (p:Ua3) (s:ga4):α:=(sl (decide (s.is5 < (↑(List.length p.c7):Int))) (sl (inB s.is5 (List.length p.c7)) (sl (inB s.is5 (List.length p.Ec6)) (sl (!(((gL tP p.c7 s.is5.toNat).n.x==(gL tP p.Ec6 s.is5.toNat).n.x)&&(((gL tP p.c7 s.is5.toNat).n.y==(gL tP p.Ec6 s.is5.toNat).n.y)&&(((gL tP p.c7 s.is5.toNat).n.z==(gL tP p.Ec6 s.is5.toNat).n.z)&&(((gL tP p.c7 s.is5.toNat).b==(gL tP p.Ec6 s.is5.toNat).b)&&true))))) (e 1) (k ⟨(W (s.is5+1))⟩)) z) z) (e 2))
noncomputable def Ka8 (p:Ua3) (s:ga4):Stp ga4:=Ea2 .next .exit .fail p s
noncomputable def Kb2:Lo Ua3 ga4:=⟨En Dc8,0,We1,[1,1,0,1,4,4],[0,1,5],.p,[⟨((.s (.c 4 (nL tP)))::((.s (.c 4 (nL tP)))::(ru2 3 ((.s (.o (.int .i64)))::(ru2 20 []))))),[],fun a H=>(⟨(rL tP (slT a 0)),(rL tP (slT a 1))⟩,⟨(toI (slT a 5))⟩)⟩],Ka8,[(none,fun p s=>⟨[(b false)],[]⟩),(some 0,fun p s=>⟨((eL tP p.c7)::((eL tP p.Ec6)::(ra 3 ((i s.is5)::(ra 5 ((i s.is5)::((eL tP p.c7)::((i (↑(List.length p.c7):Int))::((b (decide (s.is5 < (↑(List.length p.c7):Int))))::(ra 11 [])))))))))),[]⟩)],ed8⟩
theorem ed9:Kb2.Ok:=Lo.ok [] (by kernel_rfl) .nil rfl (.cons (fun a H=>by kernel_rfl) .nil) fun p s=>(.of @Ea2 (fun F _ _ _ _ _=>by unfold Ea2;(repeat' apply k9 (f:=F))<;>rfl) (by kernel_rfl))
noncomputable def qb7 (x:List Pln) (y:List Pln):Option (b7×List b8):=let t1:=(lp (Ka8 (⟨(rt tP x),(rt tP y)⟩:Ua3)) (⟨0⟩:ga4));(sl ((↑(List.length x):Int) != (↑(List.length y):Int)) (some ((b false),[])) (sl ((cnE tP x)&&((cnE tP y)&&true)) (sl (Nat.beq t1.1 1) (some ((b false),[])) (sl (Nat.beq t1.1 2) (some ((b true),[])) none)) none))
noncomputable def qb8 (x:List Pln) (y:List Pln):Bool:=L4 (one r1B) (qb7 x y)
noncomputable def qb9 (x:List Pln) (y:List Pln):Bool:=okO (one r1B) (qb7 x y)
noncomputable def kc0:Sum:=pa2 (X5 tP) (X5 tP) (fun x y=>.guard (qb9 x y) (.ret ((one r1B).enc (qb8 x y),[])))
theorem Dc9:g9 prog G 26 kc0:=ib8 (bd b26 vd3) (one r1B) (o:=qb7) fun x y=>ua4 (.s .p (.s .p (.s (.s .p (.b (.u Kb2.ls))) .p))) [Kb2.pr] (by kernel_rfl) (.cons ed9 .nil) (by kernel_rfl)
noncomputable def Vc5:List (Nat×Sum):=[(47,Db1),(118,md4),(119,jc5)]
theorem Id3:i6 prog G Vc5:=⟨Ib2,Sd3,Dc1,trivial⟩
structure db1 where
 is6:Int
structure ua8 where
 ns5:Nat
 eh0:List (List b7)
noncomputable def vd4 (p:db1) (s:ua8):St:=⟨(ra 5 ((.sl 0 0 s.ns5 0)::((i p.is6)::(ra 91 [])))),[⟨50,4,s.eh0,true,false,0⟩]⟩
noncomputable def Za4 {α:Type} (k:ua8→α) (e:Nat→α) (z:α) (p:db1) (s:ua8):α:=(sl (decide ((↑s.ns5:Int)≤48)) (sl (inB p.is6 s.ns5) (sl (ldR tP s.eh0 (0+p.is6.toNat)) (sl (Nat.beq s.ns5 (len s.eh0)&&Nat.ble ((s.ns5+1)*32) room) (k ⟨(s.ns5+1),(app s.eh0 [[(i (rdR tP s.eh0 (0+p.is6.toNat)).n.x),(i (rdR tP s.eh0 (0+p.is6.toNat)).n.y),(i (rdR tP s.eh0 (0+p.is6.toNat)).n.z),(i (rdR tP s.eh0 (0+p.is6.toNat)).b)]])⟩) z) z) z) (e 1))
noncomputable def Ua4 (p:db1) (s:ua8):Stp ua8:=Za4 .next .exit .fail p s
noncomputable def Vb6:Lo db1 ua8:=⟨En Vc5,0,We2,[1,1,1,1,0,1,4,1,3,1,3,1,3,1,3,1,3,1,2,4,4],[5,6],.p,[⟨(ru2 5 ((.s (.o (.sl 0 0 (some 0) none)))::((.s (.o (.int .i64)))::(ru2 91 [])))),[⟨50,4,true,none⟩],fun a H=>(⟨(toI (slT a 6))⟩,⟨(slN (slT a 5)),(elT H 0)⟩)⟩],Ua4,[(some 1,fun p s=>⟨(ra 5 ((.sl 0 0 s.ns5 0)::((i p.is6)::(ra 80 ((.sl 0 0 s.ns5 0)::((i (↑s.ns5:Int))::((b (decide ((↑s.ns5:Int)≤48)))::(ra 8 [])))))))),[⟨50,4,s.eh0,true,false,0⟩]⟩)],vd4⟩
theorem vd5:Vb6.Ok:=Lo.ok [] (by kernel_rfl) .nil rfl (.cons (fun a H=>by kernel_rfl) .nil) fun p s=>(.of @Za4 (fun F _ _ _ _ _=>by unfold Za4;(repeat' apply k9 (f:=F))<;>rfl) (by kernel_rfl))
noncomputable def Eb2 (x:List Pln) (y:V3):Option (b7×List b8):=let t2:=(ya7 y.x 6);let t5:=(ya7 y.z 9);let a0:=(o0 (fun k=>(tP).row (gL tP x k)) (List.range (List.length x)));let t1:=(ya7 y.y (↑(0+(len a0)):Int));let t6:=(lp (Ua4 (⟨t1⟩:db1)) (⟨(0+(len a0)),(app [] a0)⟩:ua8));let a1:=(F7 (e7 (app [] a0) (0+(W (t1+1)).toNat)) ((0+(len a0)) - (W (t1+1)).toNat));let a2:=(f7 (app [] a0) (0+t1.toNat));let a3:=(rdR tP (app [] a0) (0+t1.toNat));let t3:=(md3 a3 (⟨y.z,y.y,y.x⟩:V3));let t4:=(Jb5 a3);let a4:=(Nat.blt (0+t1.toNat) (len (app [] a0)));(sl (Nat.beq (len a0) 0) (some ((.sl 0 0 1 0),[⟨50,4,[[(i 0),(i 0),(i 0),(i 0)]],true,false,0⟩])) (sl (Nat.beq 0 0&&Nat.ble ((0+(len a0))*32) room) (sl ((↑(0+(len a0)):Int)==0) (some ((.sl 0 0 1 0),[⟨50,4,[[(i 0),(i 0),(i 0),(i 0)]],true,false,0⟩])) (sl (ra8 y.y (↑(0+(len a0)):Int)) (sl (ra8 y.x 6) (sl (t2==0) (sl (inB t1 (0+(len a0))) (sl (ldR tP (app [] a0) (0+t1.toNat)) (sl (zc6 a3 (⟨y.z,y.y,y.x⟩:V3)) (sl (inB t1 (0+(len a0))) (sl (a4&&(Nat.ble (0+4) (len a2))) (some ((.sl 0 0 (0+(len a0)) 0),[⟨50,4,(setAt (app [] a0) (0+t1.toNat) (N3 a2 0 [(i t3.n.x),(i t3.n.y),(i t3.n.z),(i t3.b)])),true,false,0⟩])) none) none) none) none) none) (sl (t2==1) (sl (inB t1 ((0+(len a0))+1)) (sl (inB (W (t1+1)) ((0+(len a0))+1)) (sl (Nat.ble ((t1.toNat - 0)+(len a1)) (len (app [] a0))) (some ((.sl 0 0 ((t1.toNat - 0)+(len a1)) 0),[⟨50,4,(app (F7 (app [] a0) (t1.toNat - 0)) (app a1 (e7 (app [] a0) ((t1.toNat - 0)+(len a1))))),true,false,0⟩])) none) none) none) (sl (t2==2) (sl (inB t1 (0+(len a0))) (sl (ldR tP (app [] a0) (0+t1.toNat)) (sl (inB t1 (0+(len a0))) (sl (a4&&(Nat.ble (0+4) (len a2))) (some ((.sl 0 0 (0+(len a0)) 0),[⟨50,4,(setAt (app [] a0) (0+t1.toNat) (N3 a2 0 [(i t4.n.x),(i t4.n.y),(i t4.n.z),(i t4.b)])),true,false,0⟩])) none) none) none) none) (sl (t2==3) (sl (inB t1 (0+(len a0))) (sl (ldR tP (app [] a0) (0+t1.toNat)) (sl (Nat.beq (0+(len a0)) (len (app [] a0))&&Nat.ble (((0+(len a0))+1)*32) room) (some ((.sl 0 0 ((0+(len a0))+1) 0),[⟨50,4,(app (app [] a0) [[(i a3.n.x),(i a3.n.y),(i a3.n.z),(i a3.b)]]),true,false,0⟩])) none) none) none) (sl (t2==4) (sl (inB t1 (0+(len a0))) (sl ((a4&&(Nat.ble (3+1) (len a2)))&&(K7 [(CK.int .i64)] (e7 a2 3))) (sl (ra8 y.z 9) (sl (inB t1 (0+(len a0))) (sl (a4&&(Nat.ble (3+1) (len a2))) (some ((.sl 0 0 (0+(len a0)) 0),[⟨50,4,(setAt (app [] a0) (0+t1.toNat) (N3 a2 3 [(i (W ((W ((toI (hdA (e7 a2 3)))+t5)) - 4)))])),true,false,0⟩])) none) none) none) none) none) (sl (t2==5) (sl (Nat.beq t6.1 1) (some ((.sl 0 0 t6.2.ns5 0),[⟨50,4,t6.2.eh0,true,false,0⟩])) none) (some ((.sl 0 0 (0+(len a0)) 0),[⟨50,4,(app [] a0),true,false,0⟩])))))))) none) none)) none))
noncomputable def Ga7 (x:List Pln) (y:V3):List Pln:=L4 (one (r1L tP)) (Eb2 x y)
noncomputable def Eb3 (x:List Pln) (y:V3):Bool:=okO (one (r1L tP)) (Eb2 x y)
noncomputable def md6:Sum:=pa2 (X5 tP) (S4 tV) (fun x y=>.guard (Eb3 x y) (.ret ((one (r1L tP)).enc (Ga7 x y),[])))
theorem Sd5:g9 prog G 39 md6:=ib8 (bd b39 Id3) (one (r1L tP)) (o:=Eb2) fun x y=>ua4 (.s .p (.s .p (.s .p (.s .p (.s (.s .p (.b (.s .p (.c .p (.s .p (.c .p (.s .p (.c .p (.s .p (.c .p (.s .p (.c .p (.s .p (.c (.b (.u Vb6.ls)) .p)))))))))))))) .p))))) [Vb6.pr] (by kernel_rfl) (.cons vd5 .nil) (by kernel_rfl)
noncomputable def Vc6:List (Nat×Sum):=[(30,Vc4),(39,md6),(82,Dc7)]
theorem Hc9:i6 prog G Vc6:=⟨Id2,Sd5,vd2,trivial⟩
noncomputable def Ka9 (x:List Int) (y:Q2) (z:List Pln):Option (b7×List b8):=let t1:=(ja2 (rt tI x));let t2:=(Ga7 (rt tP t1) y.a);let t3:=(Ga7 (rt tP t2) y.b);let t4:=(xb0 (rt tP z));(sl (okE tI x) (sl (jc8 (rt tI x)) (sl (okE tP t1) (sl (Eb3 (rt tP t1) y.a) (sl (okE tP t1) (sl (Eb3 (rt tP t1) y.a) (sl (okE tP t2) (sl (Eb3 (rt tP t2) y.b) (sl (okE tP z) (sl (Vb5 (rt tP z)) (some ((.sl 0 0 4 0),[⟨25,1,[[(eL tP t1)],[(eL tP t2)],[(eL tP t3)],[(eL tP t4)]],true,false,0⟩])) none) none) none) none) none) none) none) none) none) none)
noncomputable def Ab7 (x:List Int) (y:Q2) (z:List Pln):List (List Pln):=L4 (one (r1L (tLs tP))) (Ka9 x y z)
noncomputable def Ab8 (x:List Int) (y:Q2) (z:List Pln):Bool:=okO (one (r1L (tLs tP))) (Ka9 x y z)
noncomputable def ec8:Sum:=Zc9 (X5 tI) (S4 tQ) (X5 tP) (fun x y z=>.guard (Ab8 x y z) (.ret ((one (r1L (tLs tP))).enc (Ab7 x y z),[])))
theorem Vc7:g9 prog G 14 ec8:=Ne3 (bd b14 Hc9) (one (r1L (tLs tP))) (o:=Ka9) fun x y z=>s6 (by kernel_rfl)
end Go.Ev.Ce
end
