/- Own work: a part of the proof. -/
import Derived.Test.YtlccibobknidjaaGreatEvSp3
import Derived.Test.YtlccibobknidjaaGreatEvD4
set_option linter.unusedVariables false
set_option linter.unusedSimpArgs false
set_option linter.unnecessarySimpa false
set_option linter.unusedSectionVars false
namespace Go.Ev.Ce
open Go Go.Ev Go.Ev.L Go.Proofs
theorem Kd0 (P:xa6) (g n:Int) (hn:n.natAbs≤9223372036854775808):lp (Aa2 P) ⟨g,n⟩=(1,⟨eu g n,0⟩) :=
 Bd1 (mk:=fun g n=>(⟨g,n⟩:ia5)) (fun g n h=>by simp[Aa2,ua7,ab7,h]) (fun g=>by simp[Aa2,ua7,ab7]) g n hn
theorem Kd1 (l:List Int) (hl:l.length≤1000000000) (hb:∀ x∈l,x.natAbs≤9223372036854775808):lp (sa1 ⟨(l.length:Int)⟩) ⟨0,l,0⟩=(1,⟨l.foldl eu 0,l,l.length⟩):=by
 have := Ib6 (step := sa1 ⟨(l.length : Int)⟩) (mk := fun j a => (⟨a, l, (j : Int)⟩ : ia6)) (f := eu) (fin := 1) tI l (fun _ _ => True) hl (fun j a hj _ => ⟨by
   simp only[sa1,ua8,Int.toNat_natCast,l8,l6,Kd0 _ _ _ (hb _ (wc0 tI hj)),o2 hj (by omega)]
   rw[bt (Cb3 hj),bt (e8 hj)]
   rfl,trivial⟩) (fun a _=>by simp[sa1,ua8,ab7]) 0 (Nat.zero_le _) 0 trivial
 simpa using this.1
theorem Yb3:∀ (l:List Int) (g:Int),(l.foldl eu g).natAbs=l.foldl (fun a x=>Nat.gcd a x.natAbs) g.natAbs
 | [],_=>rfl
 | x::l,g=>by rw[List.foldl_cons,Yb3 l,List.foldl_cons,Pd3];rfl
theorem te0 (l:List Int) (hl:l.length≤1000000000) (hb:∀ x∈l,x.natAbs≤9223372036854775807) (h0:(l.foldl eu 0).natAbs≤9223372036854775807):cb3 l=some (i ((l.foldl eu 0).natAbs:Int),[]):=by
 unfold cb3
 simp only[l8,l6,Kd1 l hl (fun x hx=>Nat.le_succ_of_le (hb x hx))]
 generalize l.foldl eu 0=e at *
 have:W (0 - e)=-e:=by rw[Z3 (by omega) (by omega)];omega
 rw[this]
 show some (i (if -e > e then -e else e),[])=_
 congr 3
 split<;>omega
theorem Pc7 (x y:Int) (hx:0≤x) (hy:0≤y) (hb:y≤9223372036854775807):Ga4 x y=some (i (Int.gcd x y:Int),[]):=by
 unfold Ga4
 have:=Bd1 (step:=pa8 ⟨⟩) (mk:=fun g n=>(⟨g,n⟩:X0)) (fun g n h=>by simp[pa8,ma0,ab7,h]) (fun g=>by simp[pa8,ma0,ab7]) x y (by omega)
 simp only[this,Pd4 hx hy]
 rfl
theorem zc5 (x y:Int) (hx:0≤x) (hy:0≤y) (hb:y≤9223372036854775807):P6 x y=(Int.gcd x y:Int):=by unfold P6;rw[Pc7 x y hx hy hb];rfl
theorem zc6 (x y:Int) (hx:0≤x) (hy:0≤y) (hb:y≤9223372036854775807):P7 x y=true:=by unfold P7;rw[Pc7 x y hx hy hb];rfl
noncomputable def rm (p:Pln) (x:Pt):Int:=W (p.b*x.pw - (p.n.x*x.px+p.n.y*x.py+p.n.z*x.pz))
theorem Xc1 (p:Pln) (x:Pt):oa9 p x=rm p x:=by
 unfold oa9 Ea8 rm
 simp only[ab9,Cb2,vc9,Uc5]
theorem Xc2 (p:Pln) (x:Pt):La5 p x=rm p x:=by
 unfold La5 rm
 simp only[ab9,Cb2,vc9,Uc5]
 congr 1
 omega
structure Bd (p:Pln):Prop where
 x1:-4608≤p.n.x
 x2:p.n.x≤4608
 y1:-4608≤p.n.y
 y2:p.n.y≤4608
 z1:-4608≤p.n.z
 z2:p.n.z≤4608
 b1:-2097152≤p.b
 b2:p.b≤2097152
def mv (p q r:Pln):V3 :=
 ⟨(i6 q.n r.n).x*p.b+(i6 r.n p.n).x*q.b+(i6 p.n q.n).x*r.b,
  (i6 q.n r.n).y*p.b+(i6 r.n p.n).y*q.b+(i6 p.n q.n).y*r.b,
  (i6 q.n r.n).z*p.b+(i6 r.n p.n).z*q.b+(i6 p.n q.n).z*r.b⟩
def gc (v:V3) (w:Int):Int:=(Nat.gcd (Nat.gcd v.x.natAbs v.y.natAbs) (Nat.gcd v.z.natAbs w.natAbs):Nat)
def mpt (p q r:Pln):Pt×Bool :=
 if mw p q r=0 then (⟨0,0,0,0⟩,false)
 else if mw p q r < 0 then (⟨Int.tdiv (-(mv p q r).x) (gc (mv p q r) (mw p q r)),Int.tdiv (-(mv p q r).y) (gc (mv p q r) (mw p q r)),Int.tdiv (-(mv p q r).z) (gc (mv p q r) (mw p q r)),Int.tdiv (-(mw p q r)) (gc (mv p q r) (mw p q r))⟩,true)
 else (⟨Int.tdiv (mv p q r).x (gc (mv p q r) (mw p q r)),Int.tdiv (mv p q r).y (gc (mv p q r) (mw p q r)),Int.tdiv (mv p q r).z (gc (mv p q r) (mw p q r)),Int.tdiv (mw p q r) (gc (mv p q r) (mw p q r))⟩,true)
def Sm (n:Int) (x:Int):Prop:=-n≤x∧x≤n
theorem Yb4 {a b:V3} (ha:Sm 4608 a.x∧Sm 4608 a.y∧Sm 4608 a.z) (hb:Sm 4608 b.x∧Sm 4608 b.y∧Sm 4608 b.z):Sm 42467328 (i6 a b).x∧Sm 42467328 (i6 a b).y∧Sm 42467328 (i6 a b).z:=by
 obtain⟨⟨a1,a2⟩,⟨a3,a4⟩,a5,a6⟩:=ha
 obtain⟨⟨b1,b2⟩,⟨b3,b4⟩,b5,b6⟩:=hb
 have h1:=mb a3 a4 b5 b6;have h2:=mb a5 a6 b3 b4;have h3:=mb a5 a6 b1 b2;have h4:=mb a1 a2 b5 b6;have h5:=mb a1 a2 b3 b4;have h6:=mb a3 a4 b1 b2
 unfold Sm i6
 simp only
 omega
theorem Bd.n {p:Pln} (h:Bd p):Sm 4608 p.n.x∧Sm 4608 p.n.y∧Sm 4608 p.n.z:=⟨⟨h.x1,h.x2⟩,⟨h.y1,h.y2⟩,h.z1,h.z2⟩
theorem Sd9 {p q r:Pln} (hp:Bd p) (hq:Bd q) (hr:Bd r):Sm 600000000000 (mw p q r):=by
 obtain⟨⟨c1,c2⟩,⟨c3,c4⟩,c5,c6⟩:=Yb4 hq.n hr.n
 have h1:=mb hp.x1 hp.x2 c1 c2;have h2:=mb hp.y1 hp.y2 c3 c4;have h3:=mb hp.z1 hp.z2 c5 c6
 unfold Sm mw dot
 omega
theorem Td0 {p q r:Pln} (hp:Bd p) (hq:Bd q) (hr:Bd r):Sm 300000000000000 (mv p q r).x∧Sm 300000000000000 (mv p q r).y∧Sm 300000000000000 (mv p q r).z:=by
 obtain⟨⟨c1,c2⟩,⟨c3,c4⟩,c5,c6⟩:=Yb4 hq.n hr.n
 obtain⟨⟨d1,d2⟩,⟨d3,d4⟩,d5,d6⟩:=Yb4 hr.n hp.n
 obtain⟨⟨e1,e2⟩,⟨e3,e4⟩,e5,e6⟩:=Yb4 hp.n hq.n
 have a1:=mb c1 c2 hp.b1 hp.b2;have a2:=mb c3 c4 hp.b1 hp.b2;have a3:=mb c5 c6 hp.b1 hp.b2
 have b1:=mb d1 d2 hq.b1 hq.b2;have b2:=mb d3 d4 hq.b1 hq.b2;have b3:=mb d5 d6 hq.b1 hq.b2
 have f1:=mb e1 e2 hr.b1 hr.b2;have f2:=mb e3 e4 hr.b1 hr.b2;have f3:=mb e5 e6 hr.b1 hr.b2
 unfold Sm mv
 simp only
 omega
theorem rc1 (a b:V3):O8 a b=⟨W (i6 a b).x,W (i6 a b).y,W (i6 a b).z⟩:=by
 unfold O8 i6
 simp only[vc9,Uc5]
theorem Yb5 (a b:V3):R7 a b=⟨W (i6 a b).x,W (i6 a b).y,W (i6 a b).z⟩:=by
 unfold R7 i6
 simp only[vc9,Uc5]
theorem te1 (p q r:Pln):dot r.n (i6 p.n q.n)=mw p q r:=by unfold mw dot i6;grind
theorem Qe3 (a b c d:Nat):[a,b,c,d].foldl Nat.gcd 0=Nat.gcd (Nat.gcd a b) (Nat.gcd c d):=by
 simp only[List.foldl_cons,List.foldl_nil,Nat.gcd_zero_left]
 rw[Nat.gcd_assoc]
theorem zc7 {v:V3} {w:Int} (h:w≠0):0 < gc v w:=by
 unfold gc
 have:0 < Nat.gcd v.z.natAbs w.natAbs:=Nat.gcd_pos_of_pos_right _ (by omega)
 have:=Nat.gcd_pos_of_pos_right (Nat.gcd v.x.natAbs v.y.natAbs) this
 omega
theorem Td1 {v:V3} {w:Int} (h:w≠0):gc v w≤w.natAbs:=by
 unfold gc
 have h1:Nat.gcd v.z.natAbs w.natAbs≤w.natAbs:=Nat.gcd_le_right _ (by omega)
 have h2:0 < Nat.gcd v.z.natAbs w.natAbs:=Nat.gcd_pos_of_pos_right _ (by omega)
 have h3:=Nat.gcd_le_right (m:=Nat.gcd v.x.natAbs v.y.natAbs) (n:=Nat.gcd v.z.natAbs w.natAbs) h2
 omega
theorem ta6 {x:Int} (h:Sm 1000000000000000000 x):W x=x:=Z3 (by have:=h.1;omega) (by have:=h.2;omega)
theorem Sm.mono {n m x:Int} (h:Sm n x) (hn:n≤m):Sm m x:=⟨by have:=h.1;omega,by have:=h.2;omega⟩
theorem E3 {n x g:Int} (h:Sm n x) (hg:0 < g):Sm n (Int.tdiv x g):=by
 have h1:(Int.tdiv x g).natAbs≤x.natAbs:=by rw[Int.natAbs_tdiv];exact Nat.div_le_self _ _
 have:=h.1;have:=h.2
 constructor<;>omega
theorem wd2 {p q r:Pln} (hp:Bd p) (hq:Bd q) (hr:Bd r) (h:(mpt p q r).2=true):0 < (mpt p q r).1.pw∧Sm 300000000000000 (mpt p q r).1.px∧Sm 300000000000000 (mpt p q r).1.py∧Sm 300000000000000 (mpt p q r).1.pz∧(mpt p q r).1.pw≤600000000000:=by
 have hw:=Sd9 hp hq hr
 obtain⟨v1,v2,v3⟩:=Td0 hp hq hr
 have neg:∀ {n x:Int},Sm n x→Sm n (-x):=fun h=>⟨by have:=h.2;omega,by have:=h.1;omega⟩
 have pos:∀ {x:Int},0 < x→x.natAbs=(mw p q r).natAbs→0 < Int.tdiv x (gc (mv p q r) (mw p q r)):=fun {x} hx he=>by
  have h0:mw p q r≠0:=by omega
  have h1:=zc7 (v:=mv p q r) h0
  have h2:=Td1 (v:=mv p q r) h0
  rw[Int.tdiv_eq_ediv_of_nonneg (by omega)]
  exact Int.ediv_pos_of_pos_of_dvd hx (by omega) (by
   rw[← Int.dvd_natAbs,he]
   exact Int.natCast_dvd_natCast.2 (Nat.dvd_trans (Nat.gcd_dvd_right _ _) (Nat.gcd_dvd_right _ _)))
 unfold mpt at h ⊢
 by_cases h0:mw p q r=0
 ·rw[if_pos h0] at h;cases h
 ·rw[if_neg h0]
  have hg:=zc7 (v:=mv p q r) h0
  by_cases h1:mw p q r < 0
  ·rw[if_pos h1]
   exact⟨pos (by omega) (by omega),E3 (neg v1) hg,E3 (neg v2) hg,E3 (neg v3) hg,(E3 (neg hw) hg).2⟩
  ·rw[if_neg h1]
   exact⟨pos (by omega) rfl,E3 v1 hg,E3 v2 hg,E3 v3 hg,(E3 hw hg).2⟩
theorem Bd8 {p q r:Pln} (hp:Bd p) (hq:Bd q) (hr:Bd r):Qa1 ⟨p,q,r⟩=some (.tup [.agg (tX.row (mpt p q r).1),b (mpt p q r).2],[]):=by
 have hw:=Sd9 hp hq hr
 obtain⟨v1,v2,v3⟩:=Td0 hp hq hr
 have e1:Ea8 r.n (O8 p.n q.n)=mw p q r:=by
  rw[rc1]
  unfold Ea8
  simp only[ab9,Cb2,Pd1]
  show W (dot r.n (i6 p.n q.n))=_
  rw[te1,ta6 (hw.mono (by omega))]
 have e2:oa8 (oa8 (oa8 ⟨0,0,0⟩ (Q6 (O8 q.n r.n) p.b)) (Q6 (O8 r.n p.n) q.b)) (Q6 (O8 p.n q.n) r.b)=mv p q r:=by
  rw[rc1,rc1,rc1]
  unfold oa8 Q6
  simp only[ab9,Cb2,ud1,Int.zero_add]
  show (⟨W (mv p q r).x,W (mv p q r).y,W (mv p q r).z⟩:V3)=_
  rw[ta6 (v1.mono (by omega)),ta6 (v2.mono (by omega)),ta6 (v3.mono (by omega))]
 unfold Qa1
 simp only[e1,e2]
 have hb:∀ x∈[(mv p q r).x,(mv p q r).y,(mv p q r).z,mw p q r],x.natAbs≤9223372036854775807:=by
  intro x hx
  simp only[List.mem_cons,List.not_mem_nil,or_false] at hx
  unfold Sm at *
  rcases hx with rfl | rfl | rfl | rfl<;>omega
 have hf:([(mv p q r).x,(mv p q r).y,(mv p q r).z,mw p q r].foldl eu 0).natAbs=Nat.gcd (Nat.gcd (mv p q r).x.natAbs (mv p q r).y.natAbs) (Nat.gcd (mv p q r).z.natAbs (mw p q r).natAbs):=by
  rw[Yb3,← Qe3];rfl
 unfold mpt
 by_cases h0:mw p q r=0
 ·rw[bt (by rw[h0];rfl),if_pos h0]
  rfl
 ·have hz:(mw p q r==0)=false:=by simpa using h0
  rw[bf hz,if_neg h0]
  have hgp:=zc7 (v:=mv p q r) h0
  have hgl:=Td1 (v:=mv p q r) h0
  have hge:=te0 _ (by simp) hb (by rw[hf];unfold gc at hgl;unfold Sm at hw;omega)
  have hgv:tb8 [(mv p q r).x,(mv p q r).y,(mv p q r).z,mw p q r]=gc (mv p q r) (mw p q r):=by
   unfold tb8;rw[hge,hf];rfl
  have hgg:tb9 [(mv p q r).x,(mv p q r).y,(mv p q r).z,mw p q r]=true:=by
   unfold tb9;rw[hge];rfl
  rw[hgv,bt hgg]
  generalize hG:gc (mv p q r) (mw p q r)=G at *
  have hGW:W (0 - G)=-G:=by unfold Sm at hw;rw[Z3 (by omega) (by omega)];omega
  have hGn:(-G==0)=false:=by simp;omega
  have hGp:(G==0)=false:=by simp;omega
  by_cases h1:mw p q r < 0
  ·rw[bt (decide_eq_true h1),if_pos h1]
   simp only[hGW]
   rw[bf hGn,bf hGn,bf hGn,bf hGn]
   simp only[Int.tdiv_neg,← Int.neg_tdiv]
   have neg:∀ {n x:Int},Sm n x→Sm n (-x):=fun h=>⟨by have:=h.2;omega,by have:=h.1;omega⟩
   rw[ta6 ((E3 (neg v1) hgp).mono (by omega)),ta6 ((E3 (neg v2) hgp).mono (by omega)),ta6 ((E3 (neg v3) hgp).mono (by omega)),ta6 ((E3 (neg hw) hgp).mono (by omega))]
   rfl
  ·rw[bf (decide_eq_false h1),if_neg h1,bf hGp,bf hGp,bf hGp,bf hGp]
   rw[ta6 ((E3 v1 hgp).mono (by omega)),ta6 ((E3 v2 hgp).mono (by omega)),ta6 ((E3 v3 hgp).mono (by omega)),ta6 ((E3 hw hgp).mono (by omega))]
   rfl
theorem te2 {p q r:Pln} (hp:Bd p) (hq:Bd q) (hr:Bd r):Qa2 ⟨p,q,r⟩=mpt p q r:=by unfold Qa2;rw[Bd8 hp hq hr];rfl
theorem te3 {p q r:Pln} (hp:Bd p) (hq:Bd q) (hr:Bd r):Qa3 ⟨p,q,r⟩=true:=by unfold Qa3;rw[Bd8 hp hq hr];rfl
theorem kd6 {p q r:Pln} (hp:Bd p) (hq:Bd q) (hr:Bd r):bb5 p q r=some (.tup [.agg (tX.row (mpt p q r).1),b (mpt p q r).2],[]):=by
 have hw:=Sd9 hp hq hr
 obtain⟨v1,v2,v3⟩:=Td0 hp hq hr
 have e1:ra9 p.n (R7 q.n r.n)=mw p q r:=by
  rw[Yb5]
  unfold ra9
  simp only[ab9,Cb2,Pd1]
  show W (dot p.n (i6 q.n r.n))=_
  rw[show dot p.n (i6 q.n r.n)=mw p q r from rfl,ta6 (hw.mono (by omega))]
 have e2:Za3 (Za3 (P5 (R7 q.n r.n) p.b) (P5 (R7 r.n p.n) q.b)) (P5 (R7 p.n q.n) r.b)=mv p q r:=by
  rw[Yb5,Yb5,Yb5]
  unfold Za3 P5
  simp only[ab9,Cb2,ud1]
  show (⟨W (mv p q r).x,W (mv p q r).y,W (mv p q r).z⟩:V3)=_
  rw[ta6 (v1.mono (by omega)),ta6 (v2.mono (by omega)),ta6 (v3.mono (by omega))]
 have neg:∀ {n x:Int},Sm n x→Sm n (-x):=fun h=>⟨by have:=h.2;omega,by have:=h.1;omega⟩
 have e3:P5 (mv p q r) (-1)=⟨-(mv p q r).x,-(mv p q r).y,-(mv p q r).z⟩:=by
  unfold P5
  have:∀ x:Int,x*-1=-x:=fun x=>by omega
  simp only[this]
  rw[ta6 ((neg v1).mono (by omega)),ta6 ((neg v2).mono (by omega)),ta6 ((neg v3).mono (by omega))]
 have ab:∀ {x:Int},Sm 300000000000000 x→(if W (0 - x) > x then W (0 - x) else x)=(x.natAbs:Int):=fun {x} h=>by
  have:W (0 - x)=-x:=by rw[show 0 - x=-x by omega];exact ta6 ((neg h).mono (by omega))
  rw[this]
  split<;>omega
 unfold bb5
 simp only[e1,e2,e3]
 rw[ab v1,ab v2,ab v3,ab (neg v1),ab (neg v2),ab (neg v3)]
 simp only[Int.natAbs_neg]
 unfold mpt
 by_cases h0:mw p q r=0
 ·rw[bt (by rw[h0];rfl),if_pos h0]
  rfl
 ·have hz:(mw p q r==0)=false:=by simpa using h0
  rw[bf hz,if_neg h0]
  have hgp:=zc7 (v:=mv p q r) h0
  have hgl:=Td1 (v:=mv p q r) h0
  have hw0:=hw
  unfold Sm at hw0
  have q1:((mv p q r).y.natAbs:Int)≤9223372036854775807:=by unfold Sm at v2;omega
  have k1:=zc5 ((mv p q r).x.natAbs:Int) ((mv p q r).y.natAbs:Int) (by omega) (by omega) q1
  have k2:=zc6 ((mv p q r).x.natAbs:Int) ((mv p q r).y.natAbs:Int) (by omega) (by omega) q1
  have c1:Int.gcd ((mv p q r).x.natAbs:Int) ((mv p q r).y.natAbs:Int)=Nat.gcd (mv p q r).x.natAbs (mv p q r).y.natAbs:=by simp[Int.gcd]
  have fin : ∀ w : Int, 0 < w → w.natAbs = (mw p q r).natAbs → P6 ((mv p q r).z.natAbs : Int) w = (Nat.gcd (mv p q r).z.natAbs (mw p q r).natAbs : Nat) ∧ P7 ((mv p q r).z.natAbs : Int) w = true ∧
    P6 (Nat.gcd (mv p q r).x.natAbs (mv p q r).y.natAbs:Nat) (Nat.gcd (mv p q r).z.natAbs (mw p q r).natAbs:Nat)=gc (mv p q r) (mw p q r)∧P7 (Nat.gcd (mv p q r).x.natAbs (mv p q r).y.natAbs:Nat) (Nat.gcd (mv p q r).z.natAbs (mw p q r).natAbs:Nat)=true:=by
   intro w hw1 hw2
   have l1:Nat.gcd (mv p q r).z.natAbs (mw p q r).natAbs≤(mw p q r).natAbs:=Nat.gcd_le_right _ (by omega)
   refine⟨?_,zc6 _ _ (by omega) (by omega) (by omega),?_,zc6 _ _ (by omega) (by omega) (by omega)⟩
   ·rw[zc5 _ _ (by omega) (by omega) (by omega)]
    have:Int.gcd ((mv p q r).z.natAbs:Int) w=Nat.gcd (mv p q r).z.natAbs (mw p q r).natAbs:=by unfold Int.gcd;rw[hw2];simp
    rw[this]
   ·rw[zc5 _ _ (by omega) (by omega) (by omega)]
    rfl
  by_cases h1:mw p q r < 0
  ·rw[bt (decide_eq_true h1),if_pos h1]
   have hWw:W (0 - mw p q r)=-mw p q r:=by rw[Z3 (by omega) (by omega)];omega
   rw[hWw]
   obtain⟨f1,f2,f3,f4⟩:=fin (-mw p q r) (by omega) (by omega)
   simp only[k1,k2,c1,f1,f2,f3,f4]
   generalize gc (mv p q r) (mw p q r)=G at *
   have hGp:(G==0)=false:=by simp;omega
   simp only[hGp]
   rw[ta6 ((E3 (neg v1) hgp).mono (by omega)),ta6 ((E3 (neg v2) hgp).mono (by omega)),ta6 ((E3 (neg v3) hgp).mono (by omega)),ta6 ((E3 (neg hw) hgp).mono (by omega))]
   rfl
  ·rw[bf (decide_eq_false h1),if_neg h1]
   obtain⟨f1,f2,f3,f4⟩:=fin (mw p q r) (by omega) rfl
   simp only[k1,k2,c1,f1,f2,f3,f4]
   generalize gc (mv p q r) (mw p q r)=G at *
   have hGp:(G==0)=false:=by simp;omega
   simp only[hGp]
   rw[ta6 ((E3 v1 hgp).mono (by omega)),ta6 ((E3 v2 hgp).mono (by omega)),ta6 ((E3 v3 hgp).mono (by omega)),ta6 ((E3 hw hgp).mono (by omega))]
   rfl
theorem fe4 {p q r:Pln} (hp:Bd p) (hq:Bd q) (hr:Bd r):bb6 p q r=mpt p q r:=by unfold bb6;rw[kd6 hp hq hr];rfl
theorem fe5 {p q r:Pln} (hp:Bd p) (hq:Bd q) (hr:Bd r):bb7 p q r=true:=by unfold bb7;rw[kd6 hp hq hr];rfl
end Go.Ev.Ce
namespace Go.Ev.Ce
open Go Go.Ev Go.Ev.L Go.Proofs
noncomputable def inn (l:List Pln) (x:Pt):Bool:=l.all fun p=>!decide (rm p x < 0)
theorem Bd9 (l:List Pln) (x:Pt):inn l x=!l.any fun p=>decide (rm p x < 0):=by unfold inn;rw[List.not_any_eq_all_not]
theorem Ee7 (p:Pln) (x:Pt):Ta5 ⟨p.n.x,p.n.y,p.n.z,p.b,x.px,x.py,x.pz,x.pw⟩=⟨decide (rm p x < 0)⟩:=by
 show qa1.mk (decide (oa9 p x < 0))=_
 rw[Xc1]
theorem fe6 (l:List Pln) (x:Pt) (hl:l.length≤1000000000):S5 ⟨l,x.px,x.py,x.pz,x.pw⟩=⟨1,if l.any (fun p=>decide (rm p x < 0)) then ((l.findIdx (fun p=>decide (rm p x < 0)):Nat):Int) else -1⟩:=by
 have h:=Xa0 (step:=E6 ⟨l,(l.length:Int),x.px,x.py,x.pz,x.pw⟩) (mk:=fun j=>(⟨(j:Int)⟩:o3)) (c:=fun p=>decide (rm p x < 0)) (u:=1) (fin:=2) tP l hl
  (fun j hj=>by
   simp only[E6,C7,Int.toNat_natCast,Ee7,o2 hj (by omega)]
   rw[bt (Cb3 hj),bt (e8 hj)])
  (by simp only[E6,C7];rw[bf (sb3 (Nat.lt_irrefl _))]) 0 (Nat.zero_le _)
 rw[List.drop_zero] at h
 unfold S5 D4
 simp only[l8,l6]
 rw[show (⟨0⟩:o3)=⟨((0:Nat):Int)⟩ from rfl,h]
 split
 ·simp only[Nat.zero_add];rfl
 ·rfl
theorem Pc8 (l:List Pln) (x:Pt) (hl:l.length≤1000000000):Aa3 l x=some (b (inn l x),[]):=by
 unfold Aa3 Z4 A3
 simp only[l8,l6,fe6 l x hl,Bd9]
 split
 ·rename_i h
  rw[h,show decide (((l.findIdx (fun p=>decide (rm p x < 0)):Nat):Int)≥0)=true from decide_eq_true (by omega)];rfl
 ·rename_i h
  rw[Bool.not_eq_true] at h
  rw[h];rfl
theorem zc8 (l:List Pln) (x:Pt) (hl:l.length≤1000000000):V7 l x=inn l x:=by unfold V7;rw[Pc8 l x hl];rfl
theorem zc9 (l:List Pln) (x:Pt) (hl:l.length≤1000000000):V8 l x=true:=by unfold V8;rw[Pc8 l x hl];rfl
theorem oe2 (l:List Pln) (x:Pt) (hl:l.length≤1000000000):Db6 l x=some (b (inn l x),[]):=by
 have h:=Ta1 (step:=Pa5 ⟨l,x.px,x.py,x.pz,x.pw⟩) (mk:=fun j=>(⟨(j:Int)⟩:pa1)) (c:=fun p=>decide (rm p x < 0)) (u:=1) (fin:=2) tP l hl
  (fun j hj=>by
   simp only[Pa5,Ga5,Int.toNat_natCast,Xc2,o2 hj (by omega)]
   rw[bt (Cb3 hj),bt (e8 hj)])
  (by simp only[Pa5,Ga5];rw[bf (sb3 (Nat.lt_irrefl _))]) 0 (Nat.zero_le _)
 rw[List.drop_zero] at h
 unfold Db6
 simp only[l8,l6,Bd9]
 rw[show (⟨0⟩:pa1)=⟨((0:Nat):Int)⟩ from rfl,h]
 split
 ·rename_i h;rw[h];rfl
 ·rename_i h;rw[Bool.not_eq_true] at h;rw[h];rfl
theorem Qe4 (l:List Pln) (x:Pt) (hl:l.length≤1000000000):ob4 l x=inn l x:=by unfold ob4;rw[oe2 l x hl];rfl
theorem Qe5 (l:List Pln) (x:Pt) (hl:l.length≤1000000000):ob5 l x=true:=by unfold ob5;rw[oe2 l x hl];rfl
def eqX (x q:Pt):Bool:=q.px==x.px&&(q.py==x.py&&(q.pz==x.pz&&(q.pw==x.pw&&true)))
theorem Xc3 (x q:Pt):eqX x q=true↔q=x:=by
 unfold eqX
 simp only[Bool.and_true,Bool.and_eq_true,beq_iff_eq]
 exact⟨fun⟨h1,h2,h3,h4⟩=>by cases q;cases x;simp_all,fun h=>by subst h;exact⟨rfl,rfl,rfl,rfl⟩⟩
def Eb7 (l:List Pt) (x:Pt):Bool:=l.any (eqX x)
theorem Td2 (l:List Pt) (x:Pt):Eb7 l x=true↔x∈l:=by
 unfold Eb7
 rw[List.any_eq_true]
 exact⟨fun⟨q,h,e⟩=>(Xc3 x q).1 e ▸ h,fun h=>⟨x,h,(Xc3 x x).2 rfl⟩⟩
theorem kd7 (l:List Pt) (x:Pt) (hl:l.length≤1000000000):Pa6 l x=some (b (Eb7 l x),[]):=by
 have h:=Ta1 (step:=ua1 ⟨l,x.px,x.py,x.pz,x.pw⟩) (mk:=fun j=>(⟨(j:Int)⟩:V5)) (c:=eqX x) (u:=1) (fin:=2) tX l hl
  (fun j hj=>by
   simp only[ua1,pa9,Int.toNat_natCast,o2 hj (by omega)]
   rw[bt (Cb3 hj),bt (e8 hj)]
   rfl)
  (by simp only[ua1,pa9];rw[bf (sb3 (Nat.lt_irrefl _))]) 0 (Nat.zero_le _)
 rw[List.drop_zero] at h
 unfold Pa6
 simp only[l8,l6]
 rw[show (⟨0⟩:V5)=⟨((0:Nat):Int)⟩ from rfl,h]
 unfold Eb7
 split
 ·rename_i h;rw[h];rfl
 ·rename_i h;rw[Bool.not_eq_true] at h;rw[h];rfl
theorem fe7 (l:List Pt) (x:Pt) (hl:l.length≤1000000000):Ea6 l x=Eb7 l x:=by unfold Ea6;rw[kd7 l x hl];rfl
theorem fe8 (l:List Pt) (x:Pt) (hl:l.length≤1000000000):Ea7 l x=true:=by unfold Ea7;rw[kd7 l x hl];rfl
def smb (n x:Int):Bool:=!decide (x < -n)&&!decide (x > n)
theorem Ya0 (n x:Int):smb n x=true↔Sm n x:=by unfold smb Sm;simp only[Bool.and_eq_true,Bool.not_eq_true',decide_eq_false_iff_not];omega
theorem Ac0 (n:Int) (l:List Int) (hn:0≤n∧n≤1000000000) (hl:l.length≤1000000000):va0 n l=some (b (l.all (smb n)),[]):=by
 have hW:W (0 - n)=-n:=by rw[Z3 (by omega) (by omega)];omega
 have h:=Ta1 (step:=ia7 ⟨n,l,(l.length:Int)⟩) (mk:=fun j=>(⟨(j:Int)⟩:J8)) (c:=fun x=>!smb n x) (u:=1) (fin:=2) tI l hl
  (fun j hj=>by
   simp only[ia7,ea3,Int.toNat_natCast,o2 hj (by omega),hW]
   rw[bt (Cb3 hj),bt (e8 hj)]
   unfold smb
   cases decide (gL tI l j < -n)<;>cases decide (gL tI l j > n)<;>rfl)
  (by simp only[ia7,ea3];rw[bf (sb3 (Nat.lt_irrefl _))]) 0 (Nat.zero_le _)
 rw[List.drop_zero] at h
 unfold va0
 simp only[l8,l6]
 rw[show (⟨0⟩:J8)=⟨((0:Nat):Int)⟩ from rfl,h]
 have e:(l.any fun x=>!smb n x)=!l.all (smb n):=by rw[List.not_all_eq_any_not]
 rw[e]
 cases l.all (smb n)<;>rfl
theorem gc2 (n:Int) (l:List Int) (hn:0≤n∧n≤1000000000) (hl:l.length≤1000000000):ma7 n l=l.all (smb n):=by unfold ma7;rw[Ac0 n l hn hl];rfl
theorem gc3 (n:Int) (l:List Int) (hn:0≤n∧n≤1000000000) (hl:l.length≤1000000000):ma8 n l=true:=by unfold ma8;rw[Ac0 n l hn hl];rfl
theorem kd8 {n:Int} (h:Sm 1000000000000000000 n):xa7 n=(n.natAbs:Int):=by
 unfold xa7
 obtain⟨h1,h2⟩:=h
 rw[Z3 (by omega) (by omega)]
 split<;>omega
theorem Yb6 {n:Int} (h:Sm 1000000000000000000 n):ua2 n=some (i (n.natAbs:Int),[]):=by
 unfold ua2
 obtain⟨h1,h2⟩:=h
 rw[Z3 (by omega) (by omega)]
 by_cases h:n < 0
 ·rw[bt (decide_eq_true h)];congr 3;omega
 ·rw[bf (decide_eq_false h)];congr 3;omega
theorem Eb8 {n:Int} (h:Sm 1000000000000000000 n):ma1 n=(n.natAbs:Int):=by unfold ma1;rw[Yb6 h];rfl
theorem Eb9 {n:Int} (h:Sm 1000000000000000000 n):ma2 n=true:=by unfold ma2;rw[Yb6 h];rfl
def g3 (v:V3):Int:=(Nat.gcd (Nat.gcd v.x.natAbs v.y.natAbs) v.z.natAbs:Nat)
theorem Td3 (g n:Nat):eu (g:Int) (n:Int)=(Nat.gcd g n:Nat):=by rw[Pd4 (by omega) (by omega)];rfl
theorem Jc0 (P:Y8) (g n:Nat) (hn:n≤1000000000000000000):lp (U9 P) ⟨(g:Int),(n:Int)⟩=(1,⟨(Nat.gcd g n:Nat),0⟩):=by
 have:=kc2 (step:=U9 P) (mk:=fun g n=>(⟨g,n⟩:K5)) (fun g n h=>by
  have h0:n≠0:=by omega
  simp[U9,aa3,ab7,h,h0]) (fun g=>by simp[U9,aa3,ab7]) (g:Int) (n:Int) (by omega) (by omega) (by omega)
 rw[this,Td3]
theorem wd3 (l:List Int) (hl:l.length≤1000000000) (hb:∀ x∈l,Sm 1000000000000000000 x):qa4 l=some (i (l.foldl (fun g x=>Nat.gcd g x.natAbs) 0:Nat),[]):=by
 have h := Ib6 (step := ea4 ⟨(l.length : Int)⟩) (mk := fun j (a : Nat) => (⟨(a : Int), l, (j : Int)⟩ : H4)) (f := fun g x => Nat.gcd g x.natAbs) (fin := 2) tI l (fun _ _ => True) hl (fun j a hj _ => ⟨by
   have hm:=hb _ (wc0 tI hj)
   have hne:(gL tI l j==(-9223372036854775808:Int))=false:=by
    have:=hm.1
    rw[beq_eq_false_iff_ne];omega
   have hs:(gL tI l j).natAbs≤1000000000000000000:=by obtain⟨h1,h2⟩:=hm;omega
   simp only[ea4,aa4,Int.toNat_natCast,l8,l6,kd8 hm,Jc0 _ _ _ hs,o2 hj (by omega)]
   rw[bt (Cb3 hj),bt (e8 hj),bf hne]
   rfl,trivial⟩) (fun a _=>by simp only[ea4,aa4];rw[bf (sb3 (Nat.lt_irrefl _))]) 0 (Nat.zero_le _) 0 trivial
 have h:=h.1
 rw[List.drop_zero] at h
 unfold qa4
 simp only[l8,l6]
 rw[show (⟨0,l,0⟩:H4)=⟨((0:Nat):Int),l,((0:Nat):Int)⟩ from rfl,h]
 rfl
def okp (p:Pln):Bool:=[p.n.x,p.n.y,p.n.z].all (smb 4608)&&(g3 p.n==1&&[p.b].all (smb 2097152))
theorem te4 (p:Pln):Bd p↔[p.n.x,p.n.y,p.n.z].all (smb 4608)=true∧[p.b].all (smb 2097152)=true:=by
 simp only[List.all_cons,List.all_nil,Bool.and_true,Bool.and_eq_true,Ya0,Sm]
 exact⟨fun h=>⟨⟨⟨h.x1,h.x2⟩,⟨h.y1,h.y2⟩,h.z1,h.z2⟩,h.b1,h.b2⟩,fun⟨⟨⟨a,b⟩,⟨c,d⟩,e,f⟩,g,h⟩=>⟨a,b,c,d,e,f,g,h⟩⟩
theorem Ma6 {p:Pln} (h:okp p=true):Bd p:=by
 unfold okp at h
 rw[Bool.and_eq_true,Bool.and_eq_true] at h
 exact (te4 p).2 ⟨h.1,h.2.2⟩
theorem sm3 {v:V3} (h:[v.x,v.y,v.z].all (smb 4608)=true):Sm 4608 v.x∧Sm 4608 v.y∧Sm 4608 v.z:=by
 simpa only[List.all_cons,List.all_nil,Bool.and_true,Bool.and_eq_true,Ya0] using h
theorem kd9 (p:Pln):Aa5 p=some (b (okp p),[]):=by
 unfold Aa5 okp
 have l3:[p.n.x,p.n.y,p.n.z].length≤1000000000:=by simp
 have l1:[p.b].length≤1000000000:=by simp
 simp only[gc2 4608 _ (by omega) l3,gc3 4608 _ (by omega) l3,gc2 2097152 _ (by omega) l1,gc3 2097152 _ (by omega) l1]
 cases hw:[p.n.x,p.n.y,p.n.z].all (smb 4608) with
 | false=>rfl
 | true =>
  obtain⟨h1,h2,h3⟩:=sm3 hw
  have hd:=wd3 [p.n.x,p.n.y,p.n.z] l3 (by
   intro x hx
   simp only[List.mem_cons,List.not_mem_nil,or_false] at hx
   rcases hx with rfl | rfl | rfl
   ·exact h1.mono (by omega)
   ·exact h2.mono (by omega)
   ·exact h3.mono (by omega))
  have hg:([p.n.x,p.n.y,p.n.z].foldl (fun g x=>Nat.gcd g x.natAbs) 0:Nat)=Nat.gcd (Nat.gcd p.n.x.natAbs p.n.y.natAbs) p.n.z.natAbs:=by
   simp only[List.foldl_cons,List.foldl_nil,Nat.gcd_zero_left]
  have hp:Ba8 [p.n.x,p.n.y,p.n.z]=g3 p.n:=by unfold Ba8;rw[hd,hg];rfl
  have hgd:Ba9 [p.n.x,p.n.y,p.n.z]=true:=by unfold Ba9;rw[hd];rfl
  rw[hp,hgd]
  cases g3 p.n==1<;>rfl
theorem fe9 (p:Pln):Oa3 p=okp p:=by unfold Oa3;rw[kd9 p];rfl
theorem ge0 (p:Pln):Oa4 p=true:=by unfold Oa4;rw[kd9 p];rfl
theorem gc4 (P:ia3) (g n:Nat) (hn:n≤1000000000000000000):lp (da4 P) ⟨(g:Int),(n:Int)⟩=(1,⟨(Nat.gcd g n:Nat),0⟩):=by
 have:=kc2 (step:=da4 P) (mk:=fun g n=>(⟨g,n⟩:Q5)) (fun g n h=>by
  have h0:n≠0:=by omega
  simp[da4,ua3,ab7,h,h0]) (fun g=>by simp[da4,ua3,ab7]) (g:Int) (n:Int) (by omega) (by omega) (by omega)
 rw[this,Td3]
theorem Xc4 {v : V3} (h1 : Sm 1000000000000000000 v.x) (h2 : Sm 1000000000000000000 v.y) (h3 : Sm 1000000000000000000 v.z) :
  bb9 v=if g3 v=0 then some (.tup [.agg (tV.row ⟨0,0,0⟩),i 0],[]) else some (.tup [.agg (tV.row ⟨W (Int.tdiv v.x (g3 v)),W (Int.tdiv v.y (g3 v)),W (Int.tdiv v.z (g3 v))⟩),i (g3 v)],[]):=by
 have ne:∀ {x:Int},Sm 1000000000000000000 x→(x==(-9223372036854775808:Int))=false:=fun {x} h=>by
  have:=h.1
  rw[beq_eq_false_iff_ne];omega
 have bd:∀ {x:Int},Sm 1000000000000000000 x→x.natAbs≤1000000000000000000:=fun {x} h=>by obtain⟨h1,h2⟩:=h;omega
 have l1:=gc4 ⟨0,v.x,v.y,v.z,v.x,v.y,v.z⟩ 0 v.x.natAbs (bd h1)
 rw[Nat.gcd_zero_left] at l1
 have l2:=gc4 ⟨1,v.x,v.y,v.z,v.x,v.y,v.z⟩ v.x.natAbs v.y.natAbs (bd h2)
 have l3:=gc4 ⟨2,v.x,v.y,v.z,v.x,v.y,v.z⟩ (Nat.gcd v.x.natAbs v.y.natAbs) v.z.natAbs (bd h3)
 unfold bb9
 simp only[Eb8 h1,Eb8 h2,Eb8 h3,Eb9 h1,Eb9 h2,Eb9 h3]
 rw[show (⟨0,(v.x.natAbs:Int)⟩:Q5)=⟨((0:Nat):Int),(v.x.natAbs:Int)⟩ from rfl]
 simp only[l1,l2,l3,ne h1,ne h2,ne h3]
 rw[show ((Nat.gcd (Nat.gcd v.x.natAbs v.y.natAbs) v.z.natAbs:Nat):Int)=g3 v from rfl]
 by_cases h:g3 v=0
 ·rw[if_pos h,show (g3 v==0)=true from by rw[h];rfl];rfl
 ·rw[if_neg h,show (g3 v==0)=false from by rw[beq_eq_false_iff_ne];exact h];rfl
theorem Ac1 {v:V3} (h1:Sm 1000000000000000000 v.x) (h2:Sm 1000000000000000000 v.y) (h3:Sm 1000000000000000000 v.z):(Da3 v).2=g3 v:=by
 unfold Da3
 rw[Xc4 h1 h2 h3]
 split
 ·rename_i h;rw[h];rfl
 ·rfl
theorem te5 {v:V3} (h1:Sm 1000000000000000000 v.x) (h2:Sm 1000000000000000000 v.y) (h3:Sm 1000000000000000000 v.z) (h:g3 v≠0):Da3 v=(⟨W (Int.tdiv v.x (g3 v)),W (Int.tdiv v.y (g3 v)),W (Int.tdiv v.z (g3 v))⟩,g3 v):=by
 unfold Da3
 rw[Xc4 h1 h2 h3,if_neg h]
 rfl
theorem Td4 {v:V3} (h1:Sm 1000000000000000000 v.x) (h2:Sm 1000000000000000000 v.y) (h3:Sm 1000000000000000000 v.z):cb0 v=true:=by
 unfold cb0
 rw[Xc4 h1 h2 h3]
 split<;>rfl
theorem Pc9 (p:Pln):Pa7 p=some (b (okp p),[]):=by
 unfold Pa7 okp
 cases hw:[p.n.x,p.n.y,p.n.z].all (smb 4608) with
 | false =>
  simp only[List.all_cons,List.all_nil,Bool.and_true,smb] at hw
  cases h1:decide (p.n.x < -4608)<;>cases h2:decide (p.n.x > 4608)<;>cases h3:decide (p.n.y < -4608)<;>cases h4:decide (p.n.y > 4608)<;>cases h5:decide (p.n.z < -4608)<;>cases h6:decide (p.n.z > 4608)<;>simp only[h1,h2,h3,h4,h5,h6] at hw ⊢<;>first | rfl | cases hw
 | true =>
  obtain⟨h1,h2,h3⟩:=sm3 hw
  rw[bf (decide_eq_false (by have:=h1.1;omega)),bf (decide_eq_false (by have:=h1.2;omega)),bf (decide_eq_false (by have:=h2.1;omega)),bf (decide_eq_false (by have:=h2.2;omega)),bf (decide_eq_false (by have:=h3.1;omega)),bf (decide_eq_false (by have:=h3.2;omega))]
  have k1:=h1.mono (m:=1000000000000000000) (by omega)
  have k2:=h2.mono (m:=1000000000000000000) (by omega)
  have k3:=h3.mono (m:=1000000000000000000) (by omega)
  rw[bt (Td4 k1 k2 k3),Ac1 k1 k2 k3]
  cases g3 p.n==1 with
  | false=>rfl
  | true =>
   simp only[List.all_cons,List.all_nil,Bool.and_true,smb,Bool.true_and]
   rw[n5]
   by_cases ha:p.b < -2097152
   ·rw[bf (decide_eq_false (by omega)),show decide (p.b < -2097152)=true from decide_eq_true ha];rfl
   ·rw[bt (decide_eq_true (by omega)),show decide (p.b < -2097152)=false from decide_eq_false ha]
    congr 3
    by_cases hc:p.b≤2097152
    ·rw[decide_eq_true hc,decide_eq_false (by omega)];rfl
    ·rw[decide_eq_false hc,decide_eq_true (by omega)];rfl
theorem ld0 (p:Pln):Pa8 p=okp p:=by unfold Pa8;rw[Pc9 p];rfl
theorem Ac2 (p:Pln):Pa9 p=true:=by unfold Pa9;rw[Pc9 p];rfl
def chk (l:List Pln):Int:=if (l.length:Int) > 48 then 2 else if l.all okp then 0 else 12
theorem ld1 (l:List Pln) (hl:l.length≤1000000000):Ha7 l=some (i (chk l),[]):=by
 have hk1:∀ p,va1 p=some (b (!okp p),[]):=fun p=>by unfold va1;rw[ge0,fe9];rfl
 have hp1:∀ p,Ha5 p=!okp p:=fun p=>by unfold Ha5;rw[hk1];rfl
 have hg1:∀ p,Ha6 p=true:=fun p=>by unfold Ha6;rw[hk1];rfl
 have h:=Xa0 (step:=E7 ⟨l,(l.length:Int)⟩) (mk:=fun j=>(⟨(j:Int)⟩:o4)) (c:=fun p=>!okp p) (u:=1) (fin:=2) tP l hl
  (fun j hj=>by
   simp only[E7,C8,Int.toNat_natCast,hp1,hg1,o2 hj (by omega)]
   rw[bt (Cb3 hj),bt (e8 hj),n5])
  (by simp only[E7,C8];rw[bf (sb3 (Nat.lt_irrefl _))]) 0 (Nat.zero_le _)
 rw[List.drop_zero] at h
 have e:(l.any fun x=>!okp x)=!l.all okp:=by rw[List.not_all_eq_any_not]
 unfold Ha7 Z5 A4 ga6 D5 chk
 simp only[l8,l6]
 rw[show (⟨0⟩:o4)=⟨((0:Nat):Int)⟩ from rfl,h,e]
 by_cases hn:(l.length:Int) > 48
 ·rw[bt (decide_eq_true hn),if_pos hn]
 ·rw[bf (decide_eq_false hn),if_neg hn]
  cases l.all okp with
  | true=>rfl
  | false =>
   simp only[Bool.not_false,if_true,Nat.zero_add]
   show sl true (sl (Nat.beq 1 1) (sl (decide (((l.findIdx fun p=>!okp p:Nat):Int)≥0)) _ _) _) _=_
   rw[show decide (((l.findIdx fun p=>!okp p:Nat):Int)≥0)=true from decide_eq_true (by omega)]
   rfl
theorem Cd0 (l:List Pln) (hl:l.length≤1000000000):Ha8 l=chk l:=by unfold Ha8;rw[ld1 l hl];rfl
theorem Cd1 (l:List Pln) (hl:l.length≤1000000000):Ha9 l=true:=by unfold Ha9;rw[ld1 l hl];rfl
theorem Qc0 (l:List Pln) (hl:l.length≤1000000000):Qa0 l=some (i (chk l),[]):=by
 have h:=Ta1 (step:=ua4 ⟨l⟩) (mk:=fun j=>(⟨(j:Int)⟩:V6)) (c:=fun p=>!okp p) (u:=1) (fin:=2) tP l hl
  (fun j hj=>by
   simp only[ua4,qa0,Int.toNat_natCast,ld0,Ac2,o2 hj (by omega)]
   rw[bt (Cb3 hj),bt (e8 hj),n5])
  (by simp only[ua4,qa0];rw[bf (sb3 (Nat.lt_irrefl _))]) 0 (Nat.zero_le _)
 rw[List.drop_zero] at h
 have e:(l.any fun x=>!okp x)=!l.all okp:=by rw[List.not_all_eq_any_not]
 unfold Qa0 chk
 simp only[l8,l6]
 rw[show (⟨0⟩:V6)=⟨((0:Nat):Int)⟩ from rfl,h,e]
 by_cases hn:(l.length:Int) > 48
 ·rw[bt (decide_eq_true hn),if_pos hn]
 ·rw[bf (decide_eq_false hn),if_neg hn]
  cases l.all okp<;>rfl
theorem Td5 (l:List Pln) (hl:l.length≤1000000000):jb2 l=chk l:=by unfold jb2;rw[Qc0 l hl];rfl
theorem Td6 (l:List Pln) (hl:l.length≤1000000000):jb3 l=true:=by unfold jb3;rw[Qc0 l hl];rfl
theorem Fb0 {l:List Pln}:chk l=0↔l.length≤48∧∀ p∈l,okp p=true:=by
 unfold chk
 by_cases hn:(l.length:Int) > 48
 ·rw[if_pos hn]
  exact⟨fun h=>absurd h (by decide),fun h=>by omega⟩
 ·rw[if_neg hn]
  cases h:l.all okp with
  | true=>exact⟨fun _=>⟨by omega,List.all_eq_true.1 h⟩,fun _=>rfl⟩
  | false=>exact⟨fun h=>absurd h (by decide),fun h'=>by rw[List.all_eq_true.2 h'.2] at h;cases h⟩
end Go.Ev.Ce
namespace Go.Ev.Ce
open Go Go.Ev Go.Ev.L Go.Proofs
theorem btD {p:Prop} {inst:Decidable p} (h:p) {α:Type} (t e:α):sl (@decide p inst) t e=t:=bt (decide_eq_true h) t e
theorem bfD {p:Prop} {inst:Decidable p} (h:¬ p) {α:Type} (t e:α):sl (@decide p inst) t e=e:=bf (decide_eq_false h) t e
theorem l0 {j n:Nat} (h:j < n):(j:Int) < (n:Int):=Int.ofNat_lt.2 h
theorem y5 {j n:Nat} (h:¬ j < n):¬ (j:Int) < (n:Int):=fun h'=>h (Int.ofNat_lt.1 h')
theorem Ia7 {σ τ α : Type} {step : σ → Stp σ} {mk : Nat → τ → σ} {f : α → List α → τ → τ} {g : List α → τ → τ} {fin : τ → Nat} (l : List α) (I : Nat → τ → Prop) (hl : l.length ≤ 1000000000)
  (g0:∀ a,g [] a=a) (g1:∀ x r a,g (x::r) a=g r (f x r a))
  (h:∀ j a (hj:j < l.length),I j a→step (mk j a)=.next (mk (j+1) (f l[j] (l.drop (j+1)) a))∧I (j+1) (f l[j] (l.drop (j+1)) a))
  (hf:∀ j a,l.length≤j→I j a→step (mk j a)=.exit (fin a)) (j0:Nat) (a:τ) (hi:I j0 a) :
  lp step (mk j0 a)=(fin (g (l.drop j0) a),mk (max j0 l.length) (g (l.drop j0) a))∧I (max j0 l.length) (g (l.drop j0) a):=by
 have key:=Pb9 (step:=step) (I:=fun m s=>∃ j b,m=l.length - j∧max j l.length=max j0 l.length∧s=mk j b∧I j b∧g (l.drop j) b=g (l.drop j0) a)
  (Q:=fun u s=>u=fin (g (l.drop j0) a)∧s=mk (max j0 l.length) (g (l.drop j0) a)∧I (max j0 l.length) (g (l.drop j0) a)) (fun m s ⟨j,b,hm,hj,hs,hb,he⟩=>by
   subst hs
   by_cases hlt:j < l.length
   ·obtain⟨h1,h2⟩:=h j b hlt hb
    refine .inr ⟨_,l.length - (j+1),by omega,h1,j+1,_,rfl,by omega,rfl,h2,?_⟩
    rw[← he,List.drop_eq_getElem_cons hlt,g1]
   ·have hd:l.drop j=[]:=List.drop_eq_nil_of_le (by omega)
    rw[hd,g0] at he
    have hj':j=max j0 l.length:=by omega
    subst he
    rw[← hj']
    exact .inl ⟨_,hf j _ (by omega) hb,rfl,rfl,hb⟩) (l.length - j0) (mk j0 a) (by omega) ⟨j0,a,rfl,rfl,rfl,hi,rfl⟩
 exact⟨Prod.ext key.1 key.2.1,key.2.2⟩
noncomputable def va8 (r:List Pln) (p q:Pln) (out:List Pt) (s:Pln):List Pt :=
 if (mpt p q s).2&&(!Eb7 out (mpt p q s).1&&inn r (mpt p q s).1) then out++[(mpt p q s).1] else out
noncomputable def Va0 (r:List Pln) (p q:Pln) (l:List Pln) (out:List Pt):List Pt:=l.foldl (va8 r p q) out
noncomputable def Ia8 (r:List Pln) (p:Pln):List Pln→List Pt→List Pt
 | [],out=>out
 | q::l,out=>Ia8 r p l (Va0 r p q l out)
noncomputable def Yb7 (r:List Pln):List Pln→List Pt→List Pt
 | [],out=>out
 | p::l,out=>Yb7 r l (Ia8 r p l out)
noncomputable def cor (r:List Pln):List Pt:=Yb7 r r []
def Bds (r:List Pln):Prop:=∀ p∈r,Bd p
theorem gc5 (r:List Pln) (p q:Pln) (out:List Pt) (s:Pln):(va8 r p q out s).length≤out.length+1:=by
 unfold va8
 split
 ·simp
 ·omega
theorem Yb8 (r:List Pln) (p q:Pln):∀ (l:List Pln) (out:List Pt),(Va0 r p q l out).length≤out.length+l.length
 | [],out=>Nat.le_refl _
 | s::l,out=>by
  have h1:=gc5 r p q out s
  have h2:=Yb8 r p q l (va8 r p q out s)
  show (Va0 r p q l (va8 r p q out s)).length≤_
  simp only[List.length_cons]
  omega
theorem Ac3 (r:List Pln) (p:Pln):∀ (l:List Pln) (out:List Pt),l.length≤200→(Ia8 r p l out).length≤out.length+200*l.length
 | [],out,_=>by simp[Ia8]
 | q::l,out,h=>by
  simp only[List.length_cons] at h ⊢
  have h1:=Yb8 r p q l out
  have h2:=Ac3 r p l (Va0 r p q l out) (by omega)
  show (Ia8 r p l (Va0 r p q l out)).length≤_
  omega
theorem ld2 (r:List Pln):∀ (l:List Pln) (out:List Pt),l.length≤200→(Yb7 r l out).length≤out.length+40000*l.length
 | [],out,_=>by simp[Yb7]
 | p::l,out,h=>by
  simp only[List.length_cons] at h ⊢
  have h1:=Ac3 r p l out (by omega)
  have h2:=ld2 r l (Ia8 r p l out) (by omega)
  show (Yb7 r l (Ia8 r p l out)).length≤_
  omega
theorem Xc5 (r:List Pln) (_:Bds r) (hr:r.length≤200):(cor r).length≤8000000:=by
 have:=ld2 r r [] hr
 rw[List.length_nil] at this
 show (Yb7 r r []).length≤_
 omega
noncomputable def ph (out:List Pt):Nat:=match out with
 | []=>0
 | _::_=>1
theorem ld3 (x:Pt):Eb7 [] x=false:=rfl
theorem Yb9 {α:Type} (t:Ty α) (l:List α) (n k:Nat):gL t (l.drop n) k=gL t l (n+k):=by simp[gL,List.getD_eq_getElem?_getD,List.getElem?_drop]
theorem ld4 {n:Nat} {l:List Pt} (hn:n=l.length) (h:l.length≤1000000000):(Nat.beq n (len (bL tX l))&&Nat.ble ((n+1)*32) room)=true:=by
 subst hn
 rw[L1,Nat.beq_refl,Bool.true_and]
 exact Y7 (by omega)
theorem Cd2 (l:List Pt) (x:Pt):app (bL tX l) [[i x.px,i x.py,i x.pz,i x.pw]]=bL tX (l++[x]):=La3 tX l [x]
@[reducible] noncomputable def Lb1 (k:Nat) (out:List Pt):q7:=⟨ph out,(k:Int),out.length,bL tX out⟩
theorem te6 (l:List Pt):slR tX (bL tX l) 0 l.length=l:=Bb8 tX l
theorem ge1 (r : List Pln) (hb : Bds r) (hr : r.length ≤ 200) (a c k : Nat) (ha : a < r.length) (hc : c < r.length) (out : List Pt) (ho : out.length ≤ 1000000000) (hk : k < r.length) :
  N4 ⟨r,a,c⟩ (Lb1 k out)=.next (Lb1 (k+1) (va8 r r[a] r[c] out r[k])):=by
 have hin:∀ x,ob4 r x=inn r x:=fun x=>Qe4 r x (by omega)
 have hig:∀ x,ob5 r x=true:=fun x=>Qe5 r x (by omega)
 have hth:∀ x,Ea6 out x=Eb7 out x:=fun x=>fe7 out x ho
 have htg:∀ x,Ea7 out x=true:=fun x=>fe8 out x ho
 have hme:=fe4 (hb _ (List.getElem_mem ha)) (hb _ (List.getElem_mem hc)) (hb _ (List.getElem_mem hk))
 have hmg:=fe5 (hb _ (List.getElem_mem ha)) (hb _ (List.getElem_mem hc)) (hb _ (List.getElem_mem hk))
 unfold N4
 cases out with
 | nil =>
  show P8 Stp.next Stp.exit Stp.fail _ (Lb1 k [])=_
  simp only[P8,Lb1,Int.toNat_natCast,l8,L0,Pa4 tP ha,Pa4 tP hc,Pa4 tP hk,hme,hmg,hin,hig,hth,htg,o2 hk (by omega)]
  rw[btD (l0 hk),bt (e8 ha),bt (e8 hc),bt (e8 hk),n5]
  unfold va8
  rw[ld3]
  cases (mpt r[a] r[c] r[k]).2 with
  | false=>rfl
  | true =>
   cases inn r (mpt r[a] r[c] r[k]).1 with
   | false=>rfl
   | true=>rfl
 | cons o os =>
  show P9 Stp.next Stp.exit Stp.fail _ (Lb1 k (o::os))=_
  simp only[P9,Lb1,Int.toNat_natCast,l8,L0,Pa4 tP ha,Pa4 tP hc,Pa4 tP hk,hme,hmg,hin,hig,te6,Bb9,hth,htg,o2 hk (by omega)]
  rw[btD (l0 hk),bt (e8 ha),bt (e8 hc),bt (e8 hk),n5,ld4 rfl ho,Cd2]
  unfold va8
  cases (mpt r[a] r[c] r[k]).2 with
  | false=>rfl
  | true =>
   cases inn r (mpt r[a] r[c] r[k]).1 with
   | false=>cases Eb7 (o::os) (mpt r[a] r[c] r[k]).1<;>rfl
   | true =>
    cases Eb7 (o::os) (mpt r[a] r[c] r[k]).1 with
    | true=>rfl
    | false =>
     show Stp.next (⟨1,((k+1:Nat):Int),(o::os).length+1,bL tX (o::os++[(mpt r[a] r[c] r[k]).1])⟩:q7)=_
     simp[ph]
theorem te7 (r:List Pln) (a c k:Nat) (out:List Pt) (hk:r.length≤k):N4 ⟨r,a,c⟩ (Lb1 k out)=.exit (ph out+1):=by
 unfold N4
 have this:¬ ((k:Int) < (r.length:Int)):=by omega
 cases out with
 | nil =>
  show P8 Stp.next Stp.exit Stp.fail _ (Lb1 k [])=_
  simp only[P8,Lb1]
  rw[bfD this]
  rfl
 | cons o os =>
  show P9 Stp.next Stp.exit Stp.fail _ (Lb1 k (o::os))=_
  simp only[P9,Lb1]
  rw[bfD this]
  rfl
theorem ge2 (r : List Pln) (hb : Bds r) (hr : r.length ≤ 200) (a c : Nat) (ha : a < r.length) (hc : c < r.length) (k : Nat) (out : List Pt) (ho : out.length ≤ 100000000) :
  ∃ m,lp (N4 ⟨r,a,c⟩) (Lb1 k out)=(ph (Va0 r r[a] r[c] (r.drop k) out)+1,Lb1 m (Va0 r r[a] r[c] (r.drop k) out)) :=
 ⟨_,(Ia7 (mk:=Lb1) (f:=fun s _ out=>va8 r r[a] r[c] out s) (g:=fun l out=>Va0 r r[a] r[c] l out) (fin:=fun out=>ph out+1) r (fun j o=>o.length+k≤out.length+j) (by omega)
  (fun _=>rfl) (fun _ _ _=>rfl) (fun j o hj hi=>⟨ge1 r hb hr a c j ha hc o (by omega) hj,by have:=gc5 r r[a] r[c] o r[j];show (va8 r r[a] r[c] o r[j]).length+k≤out.length+(j+1);omega⟩)
  (fun j o hj _=>te7 r a c j o hj) k out (by omega)).1⟩
@[reducible] noncomputable def Lb2 (r:List Pln) (j:Nat) (out:List Pt):r5:=⟨ph out,r,(j:Int),out.length,bL tX out⟩
theorem ge3 (r : List Pln) (hb : Bds r) (hr : r.length ≤ 200) (a j : Nat) (ha : a < r.length) (out : List Pt) (ho : out.length ≤ 100000000) (hj : j < r.length) :
  J7 ⟨a⟩ (Lb2 r j out)=.next (Lb2 r (j+1) (Va0 r r[a] r[j] (r.drop (j+1)) out)):=by
 obtain⟨m,hm⟩:=ge2 r hb hr a j ha hj (j+1) out ho
 unfold J7
 generalize Va0 r r[a] r[j] (r.drop (j+1)) out=res at *
 cases out with
 | nil =>
  show Q0 Stp.next Stp.exit Stp.fail _ (Lb2 r j [])=_
  simp only[Q0,Lb2,l8,l6,o2 hj (by omega)]
  rw[show (⟨0,((j+1:Nat):Int),0,[]⟩:q7)=Lb1 (j+1) [] from rfl,hm,btD (l0 hj)]
  cases res<;>rfl
 | cons o os =>
  show Q1 Stp.next Stp.exit Stp.fail _ (Lb2 r j (o::os))=_
  simp only[Q1,Lb2,l8,l6,o2 hj (by omega)]
  rw[show (⟨1,((j+1:Nat):Int),(o::os).length,bL tX (o::os)⟩:q7)=Lb1 (j+1) (o::os) from rfl,hm,btD (l0 hj)]
  cases res<;>rfl
theorem te8 (r:List Pln) (a j:Nat) (out:List Pt) (hj:r.length≤j):J7 ⟨a⟩ (Lb2 r j out)=.exit (ph out+1):=by
 unfold J7
 have this:¬ ((j:Int) < (r.length:Int)):=by omega
 cases out with
 | nil =>
  show Q0 Stp.next Stp.exit Stp.fail _ (Lb2 r j [])=_
  simp only[Q0,Lb2]
  rw[bfD this]
  rfl
 | cons o os =>
  show Q1 Stp.next Stp.exit Stp.fail _ (Lb2 r j (o::os))=_
  simp only[Q1,Lb2]
  rw[bfD this]
  rfl
theorem ge4 (r : List Pln) (hb : Bds r) (hr : r.length ≤ 200) (a : Nat) (ha : a < r.length) (j : Nat) (out : List Pt) (ho : out.length ≤ 40000 * a) :
  ∃ m,lp (J7 ⟨a⟩) (Lb2 r j out)=(ph (Ia8 r r[a] (r.drop j) out)+1,Lb2 r m (Ia8 r r[a] (r.drop j) out))∧(Ia8 r r[a] (r.drop j) out).length≤40000*(a+1):=by
 have hk:=Ia7 (step:=J7 ⟨a⟩) (mk:=Lb2 r) (f:=fun q l out=>Va0 r r[a] q l out) (g:=fun l out=>Ia8 r r[a] l out) (fin:=fun out=>ph out+1) r (fun k o=>o.length≤40000*a+200*(k - j)∧j≤k∧k≤j+r.length) (by omega)
  (fun _=>rfl) (fun _ _ _=>rfl) (fun k o hj hi=>⟨ge3 r hb hr a k ha o (by omega) hj,by
   have:=Yb8 r r[a] r[k] (r.drop (k+1)) o
   rw[List.length_drop] at this
   show (Va0 r r[a] r[k] (r.drop (k+1)) o).length≤40000*a+200*(k+1 - j)∧j≤k+1∧k+1≤j+r.length
   omega⟩)
  (fun k o hj _=>te8 r a k o hj) j out (by omega)
 exact⟨_,hk.1,by have:=hk.2;omega⟩
@[reducible] noncomputable def Rb3 (r:List Pln) (j:Nat) (out:List Pt):A2:=⟨ph out,r,(j:Int),out.length,bL tX out⟩
theorem Cd3 (r : List Pln) (hb : Bds r) (hr : r.length ≤ 200) (a : Nat) (ha : a < r.length) (out : List Pt) (ho : out.length ≤ 40000 * a) :
  N5 ⟨⟩ (Rb3 r a out)=.next (Rb3 r (a+1) (Ia8 r r[a] (r.drop (a+1)) out))∧(Ia8 r r[a] (r.drop (a+1)) out).length≤40000*(a+1):=by
 obtain⟨m,hm,hl⟩:=ge4 r hb hr a ha (a+1) out ho
 refine⟨?_,hl⟩
 clear hl
 unfold N5
 generalize Ia8 r r[a] (r.drop (a+1)) out=res at *
 cases out with
 | nil =>
  show Q3 Stp.next Stp.exit Stp.fail _ (Rb3 r a [])=_
  simp only[Q3,Rb3,l8,l6,o2 ha (by omega)]
  rw[show (⟨0,r,((a+1:Nat):Int),0,[]⟩:r5)=Lb2 r (a+1) [] from rfl,hm,btD (l0 ha)]
  cases res<;>rfl
 | cons o os =>
  show Q4 Stp.next Stp.exit Stp.fail _ (Rb3 r a (o::os))=_
  simp only[Q4,Rb3,l8,l6,o2 ha (by omega)]
  rw[show (⟨1,r,((a+1:Nat):Int),(o::os).length,bL tX (o::os)⟩:r5)=Lb2 r (a+1) (o::os) from rfl,hm,btD (l0 ha)]
  cases res<;>rfl
theorem te9 (r:List Pln) (j:Nat) (out:List Pt) (hj:r.length≤j):N5 ⟨⟩ (Rb3 r j out)=.exit (ph out+1):=by
 unfold N5
 have this:¬ ((j:Int) < (r.length:Int)):=by omega
 cases out with
 | nil =>
  show Q3 Stp.next Stp.exit Stp.fail _ (Rb3 r j [])=_
  simp only[Q3,Rb3]
  rw[bfD this]
  rfl
 | cons o os =>
  show Q4 Stp.next Stp.exit Stp.fail _ (Rb3 r j (o::os))=_
  simp only[Q4,Rb3]
  rw[bfD this]
  rfl
theorem ge5 (r:List Pln) (hb:Bds r) (hr:r.length≤200):∃ m,lp (N5 ⟨⟩) (Rb3 r 0 [])=(ph (cor r)+1,Rb3 r m (cor r))∧(cor r).length≤8000000:=by
 have hk:=Ia7 (step:=N5 ⟨⟩) (mk:=Rb3 r) (f:=fun q l out=>Ia8 r q l out) (g:=fun l out=>Yb7 r l out) (fin:=fun out=>ph out+1) r (fun k o=>o.length≤40000*k∧k≤r.length) (by omega)
  (fun _=>rfl) (fun _ _ _=>rfl) (fun k o hj hi=>⟨(Cd3 r hb hr k hj o hi.1).1,(Cd3 r hb hr k hj o hi.1).2,hj⟩)
  (fun k o hj _=>te9 r k o hj) 0 [] (by simp)
 exact⟨_,hk.1,by have:=hk.2;rw[show max 0 r.length=r.length by omega] at this;have h1:=this.1;show (Yb7 r r []).length≤_;rw[List.drop_zero] at h1;omega⟩
noncomputable def slX (l:List Pt):b7×List b8:=match l with
 | []=>(.v (.slice none 0 0),[])
 | _::_=>(.sl 0 0 l.length 0,[⟨54,4,bL tX l,true,false,0⟩])
theorem Xc6 (l:List Pt):(one (r1L tX)).rd (slX l)=some l:=by
 cases l with
 | nil=>rfl
 | cons x l =>
  show Bool.rec (motive:=fun _=>Option (List Pt)) none (some (slR tX (bL tX (x::l)) 0 (x::l).length)) (Bool.and true (okS tX (bL tX (x::l)) 0 (x::l).length))=_
  rw[Bb8,Bb9]
  rfl
theorem lc1 (r:List Pln) (hb:Bds r) (hr:r.length≤200):za9 r=some (slX (cor r)):=by
 obtain⟨m,hm,_⟩:=ge5 r hb hr
 unfold za9
 simp only[l8,l6]
 rw[show (⟨0,r,0,0,[]⟩:A2)=Rb3 r 0 [] from rfl,hm]
 cases cor r<;>rfl
theorem Fa1 {ρ:Type} (R:RR ρ) {x:b7×List b8} {r:ρ} (h:R.rd x=some r):P4 R (some x)=r:=by
 show Option.rec (motive:=fun _=>ρ) R.d (fun x=>x) (R.rd x)=r
 rw[h]
theorem Ra5 {ρ:Type} (R:RR ρ) {x:b7×List b8} {r:ρ} (h:R.rd x=some r):okO R (some x)=true:=by
 show Option.rec (motive:=fun _=>Bool) false (fun _=>true) (R.rd x)=true
 rw[h]
theorem wd4 (r:List Pln) (hb:Bds r) (hr:r.length≤200):Oa0 r=cor r:=by unfold Oa0;rw[lc1 r hb hr];exact Fa1 _ (Xc6 _)
theorem wd5 (r:List Pln) (hb:Bds r) (hr:r.length≤200):Oa1 r=true:=by unfold Oa1;rw[lc1 r hb hr];exact Ra5 _ (Xc6 _)
noncomputable def Jc1 (x:Pt):List b7:=[i x.px,i x.py,i x.pz,i x.pw,b true]
noncomputable def xb3 (l:List Pt):List (List b7):=l.map Jc1
@[reducible] noncomputable def flK:List (Nat×CK):=[(0,(.int .i64)),(1,(.int .i64)),(2,(.int .i64)),(3,(.int .i64))]
theorem ld5 (x q:Pt):Kb6 flK [i x.px,i x.py,i x.pz,i x.pw] (Jc1 q)=eqX x q:=by
 show Bool.and (decide (x.px=q.px)) (Bool.and (decide (x.py=q.py)) (Bool.and (decide (x.pz=q.pz)) (Bool.and (decide (x.pw=q.pw)) true)))=_
 unfold eqX
 have h:∀ a c:Int,decide (a=c)=(c==a):=fun a c=>by rw[Bool.eq_iff_iff,decide_eq_true_eq,beq_iff_eq];exact eq_comm
 rw[h,h,h,h]
theorem Ac4 (x:Pt):∀ l,Tb0 4 flK [i x.px,i x.py,i x.pz,i x.pw] (xb3 l)=Eb7 l x
 | []=>rfl
 | q::l=>by
  have ih:=Ac4 x l
  unfold Tb0 at ih ⊢
  show Option.rec (motive:=fun _=>Bool) false (fun r=>toB (hdA (g9 r 4))) (Bool.rec (motive:=fun _=>Option (List b7)) (jc4 flK [i x.px,i x.py,i x.pz,i x.pw] (xb3 l)) (some (Jc1 q)) (Kb6 flK [i x.px,i x.py,i x.pz,i x.pw] (Jc1 q)))=Eb7 (q::l) x
  rw[ld5]
  unfold Eb7 at ih ⊢
  rw[List.any_cons]
  cases eqX x q with
  | true=>rfl
  | false=>exact ih
theorem Qc1 (x:Pt):∀ l,Eb7 l x=false→kb0 flK [i x.px,i x.py,i x.pz,i x.pw] (Jc1 x) (xb3 l)=xb3 (l++[x])
 | [],_=>rfl
 | q::l,h=>by
  unfold Eb7 at h
  rw[List.any_cons,Bool.or_eq_false_iff] at h
  show Bool.rec (motive:=fun _=>List (List b7)) (Jc1 q::kb0 flK [i x.px,i x.py,i x.pz,i x.pw] (Jc1 x) (xb3 l)) (Jc1 x::xb3 l) (Kb6 flK [i x.px,i x.py,i x.pz,i x.pw] (Jc1 q))=_
  rw[ld5,h.1,Qc1 x l h.2]
  rfl
@[reducible] noncomputable def Lb3 (k:Nat) (out:List Pt):i8:=⟨ph out,(k:Int),out.length,bL tX out,xb3 out⟩
structure C2 (P:i7) (r:List Pln) (p q:Pln) (lo:Nat):Prop where
 ns:P.yd7=(r.drop lo).length
 gs:P.Wa1=fun k=>tP.row (gL tP r (lo+k))
 is:P.bd5=((r.drop lo).length:Int)
 p1:(⟨⟨P.I5,P.I6,P.I7⟩,P.I8⟩:Pln)=p
 q1:(⟨⟨P.da0,P.da1,P.da2⟩,P.Ya9⟩:Pln)=q
 r1:P.oa6=r
theorem Xc7 (s:Pln):(⟨⟨toI (hdA (tP.row s)),toI (hdA (tlA (tP.row s))),toI (hdA (tlA (tlA (tP.row s))))⟩,toI (hdA (tlA (tlA (tlA (tP.row s)))))⟩:Pln)=s:=rfl
theorem Xc8 (s:Pln):((Nat.ble 4 (len (tP.row s)))&&(R5 [(CK.int .i64),(CK.int .i64),(CK.int .i64),(CK.int .i64)] (tP.row s)))=true:=rfl
theorem ge6 {P : i7} {r : List Pln} {p q : Pln} {lo : Nat} (h : C2 P r p q lo) (hb : Bds r) (hr : r.length ≤ 200) (hp : Bd p) (hq : Bd q) (k : Nat) (out : List Pt) (ho : out.length ≤ 1000000000) (hk : k < (r.drop lo).length) :
  r9 P (Lb3 k out)=.next (Lb3 (k+1) (va8 r p q out (r.drop lo)[k])):=by
 have hwi:∀ x,V7 r x=inn r x:=fun x=>zc8 r x (by omega)
 have hwg:∀ x,V8 r x=true:=fun x=>zc9 r x (by omega)
 have hs:gL tP r (lo+k)=(r.drop lo)[k]:=by rw[← Yb9,Pa4 tP hk]
 have hbs:Bd (r.drop lo)[k]:=hb _ (List.mem_of_mem_drop (List.getElem_mem hk))
 have hd:(r.drop lo).length≤200:=by rw[List.length_drop];omega
 have hme:=te2 hp hq hbs
 have hmg:=te3 hp hq hbs
 obtain⟨x1,x2,x3,x4,x5,x6,x7,x8,x9,x10,x11,x12,x13,x14,x15,x16,x17,x18,x19,x20,x21⟩:=P
 obtain⟨ns,gs,is,p1,q1,r1⟩:=h
 simp only at ns gs is p1 q1 r1
 have r1:=r1.symm
 subst ns gs is r1
 unfold r9
 cases out with
 | nil =>
  show y7 Stp.next Stp.exit Stp.fail _ (Lb3 k [])=_
  simp only[y7,Lb3,Int.toNat_natCast,l8,L0,p1,q1,hs,Xc7,Xc8,hme,hmg,hwi,hwg,o2 hk (by omega)]
  rw[btD (l0 hk),bt (e8 hk),n5,n5]
  unfold va8
  rw[ld3]
  cases (mpt p q (r.drop lo)[k]).2 with
  | false=>rfl
  | true =>
   cases inn r (mpt p q (r.drop lo)[k]).1 with
   | false=>rfl
   | true=>rfl
 | cons o os =>
  show y8 Stp.next Stp.exit Stp.fail _ (Lb3 k (o::os))=_
  simp only[y8,Lb3,Int.toNat_natCast,l8,L0,p1,q1,hs,Xc7,Xc8,hme,hmg,hwi,hwg,o2 hk (by omega),Ac4]
  rw[btD (l0 hk),bt (e8 hk),n5,n5,ld4 rfl ho,Cd2]
  unfold va8
  cases (mpt p q (r.drop lo)[k]).2 with
  | false=>rfl
  | true =>
   cases hx:Eb7 (o::os) (mpt p q (r.drop lo)[k]).1 with
   | true=>rfl
   | false =>
    cases inn r (mpt p q (r.drop lo)[k]).1 with
    | false=>rfl
    | true =>
     show Stp.next (⟨1,((k+1:Nat):Int),(o::os).length+1,bL tX (o::os++[(mpt p q (r.drop lo)[k]).1]),kb0 flK [i (mpt p q (r.drop lo)[k]).1.px,i (mpt p q (r.drop lo)[k]).1.py,i (mpt p q (r.drop lo)[k]).1.pz,i (mpt p q (r.drop lo)[k]).1.pw] (Jc1 (mpt p q (r.drop lo)[k]).1) (xb3 (o::os))⟩:i8)=_
     rw[Qc1 _ _ hx]
     simp[ph]
theorem ue0 {P:i7} {r:List Pln} {p q:Pln} {lo:Nat} (h:C2 P r p q lo) (k:Nat) (out:List Pt) (hk:(r.drop lo).length≤k):r9 P (Lb3 k out)=.exit (ph out+1):=by
 obtain⟨x1,x2,x3,x4,x5,x6,x7,x8,x9,x10,x11,x12,x13,x14,x15,x16,x17,x18,x19,x20,x21⟩:=P
 obtain⟨ns,gs,is,p1,q1,r1⟩:=h
 simp only at ns gs is p1 q1 r1
 have r1:=r1.symm
 subst ns gs is r1
 unfold r9
 have this:¬ ((k:Int) < ((r.drop lo).length:Int)):=by omega
 cases out with
 | nil =>
  show y7 Stp.next Stp.exit Stp.fail _ (Lb3 k [])=_
  simp only[y7,Lb3]
  rw[bfD this]
  rfl
 | cons o os =>
  show y8 Stp.next Stp.exit Stp.fail _ (Lb3 k (o::os))=_
  simp only[y8,Lb3]
  rw[bfD this]
  rfl
theorem ge7 {P : i7} {r : List Pln} {p q : Pln} {lo : Nat} (h : C2 P r p q lo) (hb : Bds r) (hr : r.length ≤ 200) (hp : Bd p) (hq : Bd q) (out : List Pt) (ho : out.length ≤ 100000000) :
  ∃ m,lp (r9 P) (Lb3 0 out)=(ph (Va0 r p q (r.drop lo) out)+1,Lb3 m (Va0 r p q (r.drop lo) out)):=by
 have hd:(r.drop lo).length≤200:=by rw[List.length_drop];omega
 exact⟨_,(Ia7 (mk:=Lb3) (f:=fun s _ out=>va8 r p q out s) (g:=fun l out=>Va0 r p q l out) (fin:=fun out=>ph out+1) (r.drop lo) (fun j o=>o.length≤out.length+j) (by omega)
  (fun _=>rfl) (fun _ _ _=>rfl) (fun j o hj hi=>⟨ge6 h hb hr hp hq j o (by omega) hj,by have:=gc5 r p q o (r.drop lo)[j];show (va8 r p q o (r.drop lo)[j]).length≤out.length+(j+1);omega⟩)
  (fun j o hj _=>ue0 h j o hj) 0 out (by omega)).1⟩
@[reducible] noncomputable def Lb4 (r:List Pln) (j:Nat) (out:List Pt):j9:=⟨ph out,r,(j:Int),r,r,out.length,bL tX out,xb3 out⟩
structure C1 (P:i9) (r:List Pln) (p:Pln) (a:Nat):Prop where
 i3:P.is3=(a:Int)
 ns:P.cc2=(r.drop (a+1)).length
 gs:P.Ya8=fun k=>tP.row (gL tP r (a+1+k))
 is:P.fa9=((r.drop (a+1)).length:Int)
 p1:(⟨⟨P.I5,P.I6,P.I7⟩,P.I8⟩:Pln)=p
theorem ge8 {P : i9} {r : List Pln} {p : Pln} {a : Nat} (h : C1 P r p a) (hb : Bds r) (hr : r.length ≤ 200) (hp : Bd p) (j : Nat) (out : List Pt) (ho : out.length ≤ 100000000) (hj : j < (r.drop (a + 1)).length) :
  s5 P (Lb4 r j out)=.next (Lb4 r (j+1) (Va0 r p (r.drop (a+1))[j] ((r.drop (a+1)).drop (j+1)) out)):=by
 have hs:gL tP r (a+1+j)=(r.drop (a+1))[j]:=by rw[← Yb9,Pa4 tP hj]
 have hbs:Bd (r.drop (a+1))[j]:=hb _ (List.mem_of_mem_drop (List.getElem_mem hj))
 have hd:=hj
 rw[List.length_drop] at hd
 have hW:W (W ((a:Int)+(j:Int))+2)=((a+1+(j+1):Nat):Int):=by rw[ab9,Z3 (by omega) (by omega)];omega
 have hdl:(r.drop (a+1)).length≤4611686018427387904:=by rw[List.length_drop];omega
 have hlo:inB ((a+1+(j+1):Nat):Int) (r.length+1)=true:=e8 (by omega)
 rw[List.drop_drop]
 generalize hq:(r.drop (a+1))[j]=q at *
 obtain⟨x1,x2,x3,x4,x5,x6,x7,x8,x9,x10⟩:=P
 obtain⟨i3,ns,gs,is,p1⟩:=h
 simp only at i3 ns gs is p1
 subst i3 ns gs is
 unfold s5
 have key:∀ (P2:i7),C2 P2 r p q (a+1+(j+1))→_:=fun P2 h2=>ge7 h2 hb hr hp hbs out ho
 cases out with
 | nil =>
  show y9 Stp.next Stp.exit Stp.fail _ (Lb4 r j [])=_
  simp only[y9,Lb4,l8,l6,o2 hj hdl,hW,Int.toNat_natCast,hs,Xc8,hlo]
  rw[show (⟨0,0,0,[],[]⟩:i8)=Lb3 0 [] from rfl]
  generalize hP:i7.mk _ _ _ _ _ _ _ _ _ _ _ _ _ _ _ _ _ _ _ _ _=P2
  obtain⟨m,hm⟩:=key P2 (by
   subst hP
   exact⟨by simp,rfl,by simp,p1,Xc7 q,rfl⟩)
  rw[hm,btD (l0 hj),bt (e8 hj)]
  cases Va0 r p q (r.drop (a+1+(j+1))) []<;>rfl
 | cons o os =>
  show z6 Stp.next Stp.exit Stp.fail _ (Lb4 r j (o::os))=_
  simp only[z6,Lb4,l8,l6,o2 hj hdl,hW,Int.toNat_natCast,hs,Xc8,hlo]
  rw[show (⟨1,0,(o::os).length,bL tX (o::os),xb3 (o::os)⟩:i8)=Lb3 0 (o::os) from rfl]
  generalize hP:i7.mk _ _ _ _ _ _ _ _ _ _ _ _ _ _ _ _ _ _ _ _ _=P2
  obtain⟨m,hm⟩:=key P2 (by
   subst hP
   exact⟨by simp,rfl,by simp,p1,Xc7 q,rfl⟩)
  rw[hm,btD (l0 hj),bt (e8 hj)]
  cases Va0 r p q (r.drop (a+1+(j+1))) (o::os)<;>rfl
theorem ue1 {P:i9} {r:List Pln} {p:Pln} {a:Nat} (h:C1 P r p a) (j:Nat) (out:List Pt) (hj:(r.drop (a+1)).length≤j):s5 P (Lb4 r j out)=.exit (ph out+1):=by
 obtain⟨x1,x2,x3,x4,x5,x6,x7,x8,x9,x10⟩:=P
 obtain⟨i3,ns,gs,is,p1⟩:=h
 simp only at i3 ns gs is p1
 subst i3 ns gs is
 unfold s5
 have this:¬ ((j:Int) < ((r.drop (a+1)).length:Int)):=by omega
 cases out with
 | nil =>
  show y9 Stp.next Stp.exit Stp.fail _ (Lb4 r j [])=_
  simp only[y9,Lb4]
  rw[bfD this]
  rfl
 | cons o os =>
  show z6 Stp.next Stp.exit Stp.fail _ (Lb4 r j (o::os))=_
  simp only[z6,Lb4]
  rw[bfD this]
  rfl
theorem ge9 {P : i9} {r : List Pln} {p : Pln} {a : Nat} (h : C1 P r p a) (hb : Bds r) (hr : r.length ≤ 200) (hp : Bd p) (out : List Pt) (ho : out.length ≤ 10000000) :
  ∃ m,lp (s5 P) (Lb4 r 0 out)=(ph (Ia8 r p (r.drop (a+1)) out)+1,Lb4 r m (Ia8 r p (r.drop (a+1)) out)):=by
 have hd:(r.drop (a+1)).length≤200:=by rw[List.length_drop];omega
 exact⟨_,(Ia7 (mk:=Lb4 r) (f:=fun q l out=>Va0 r p q l out) (g:=fun l out=>Ia8 r p l out) (fin:=fun out=>ph out+1) (r.drop (a+1)) (fun k o=>o.length≤out.length+200*k) (by omega)
  (fun _=>rfl) (fun _ _ _=>rfl) (fun k o hj hi=>⟨ge8 h hb hr hp k o (by omega) hj,by
   have:=Yb8 r p (r.drop (a+1))[k] ((r.drop (a+1)).drop (k+1)) o
   rw[List.length_drop] at this
   show (Va0 r p (r.drop (a+1))[k] ((r.drop (a+1)).drop (k+1)) o).length≤out.length+200*(k+1)
   omega⟩)
  (fun k o hj _=>ue1 h k o hj) 0 out (by omega)).1⟩
@[reducible] noncomputable def Rb4 (r:List Pln) (j:Nat) (out:List Pt):l7:=⟨ph out,r,(j:Int),r,r,out.length,bL tX out,xb3 out⟩
theorem he0 {P : p7} (r : List Pln) (h : P.Ka2 = (r.length : Int)) (hb : Bds r) (hr : r.length ≤ 200) (a : Nat) (ha : a < r.length) (out : List Pt) (ho : out.length ≤ 40000 * a) :
  s6 P (Rb4 r a out)=.next (Rb4 r (a+1) (Ia8 r r[a] (r.drop (a+1)) out)):=by
 have hbs:Bd r[a]:=hb _ (List.getElem_mem ha)
 have hlo:inB ((a+1:Nat):Int) (r.length+1)=true:=e8 (by omega)
 have key:∀ (P2:i9),C1 P2 r r[a] a→_:=fun P2 h2=>ge9 h2 hb hr hbs out (by omega)
 obtain⟨x1⟩:=P
 simp only at h
 subst h
 unfold s6
 cases out with
 | nil =>
  show z7 Stp.next Stp.exit Stp.fail _ (Rb4 r a [])=_
  simp only[z7,Rb4,l8,l6,o2 ha (by omega),Int.toNat_natCast,hlo,Pa4 tP ha]
  rw[show (⟨0,r,0,r,r,0,[],[]⟩:j9)=Lb4 r 0 [] from rfl]
  generalize hP:i9.mk _ _ _ _ _ _ _ _ _ _=P2
  obtain⟨m,hm⟩:=key P2 (by
   subst hP
   exact⟨rfl,by simp,rfl,by simp,rfl⟩)
  rw[hm,btD (l0 ha),bt (e8 ha)]
  cases Ia8 r r[a] (r.drop (a+1)) []<;>rfl
 | cons o os =>
  show z8 Stp.next Stp.exit Stp.fail _ (Rb4 r a (o::os))=_
  simp only[z8,Rb4,l8,l6,o2 ha (by omega),Int.toNat_natCast,hlo,Pa4 tP ha]
  rw[show (⟨1,r,0,r,r,(o::os).length,bL tX (o::os),xb3 (o::os)⟩:j9)=Lb4 r 0 (o::os) from rfl]
  generalize hP:i9.mk _ _ _ _ _ _ _ _ _ _=P2
  obtain⟨m,hm⟩:=key P2 (by
   subst hP
   exact⟨rfl,by simp,rfl,by simp,rfl⟩)
  rw[hm,btD (l0 ha),bt (e8 ha)]
  cases Ia8 r r[a] (r.drop (a+1)) (o::os)<;>rfl
theorem ue2 {P:p7} (r:List Pln) (h:P.Ka2=(r.length:Int)) (j:Nat) (out:List Pt) (hj:r.length≤j):s6 P (Rb4 r j out)=.exit (ph out+1):=by
 obtain⟨x1⟩:=P
 simp only at h
 subst h
 unfold s6
 have this:¬ ((j:Int) < (r.length:Int)):=by omega
 cases out with
 | nil =>
  show z7 Stp.next Stp.exit Stp.fail _ (Rb4 r j [])=_
  simp only[z7,Rb4]
  rw[bfD this]
  rfl
 | cons o os =>
  show z8 Stp.next Stp.exit Stp.fail _ (Rb4 r j (o::os))=_
  simp only[z8,Rb4]
  rw[bfD this]
  rfl
theorem he3 (r:List Pln) (hb:Bds r) (hr:r.length≤200):∃ m,lp (s6 ⟨(r.length:Int)⟩) (Rb4 r 0 [])=(ph (cor r)+1,Rb4 r m (cor r)) :=
 ⟨_,(Ia7 (step:=s6 ⟨(r.length:Int)⟩) (mk:=Rb4 r) (f:=fun q l out=>Ia8 r q l out) (g:=fun l out=>Yb7 r l out) (fin:=fun out=>ph out+1) r (fun k o=>o.length≤40000*k) (by omega)
  (fun _=>rfl) (fun _ _ _=>rfl) (fun k o hj hi=>⟨he0 r rfl hb hr k hj o hi,by
   have h1:=Ac3 r r[k] (r.drop (k+1)) o (by rw[List.length_drop];omega)
   rw[List.length_drop] at h1
   show (Ia8 r r[k] (r.drop (k+1)) o).length≤40000*(k+1)
   omega⟩)
  (fun k o hj _=>ue2 r rfl k o hj) 0 [] (by simp)).1⟩
theorem Ac5 (r:List Pln) (hb:Bds r) (hr:r.length≤200):U1 r=some (slX (cor r)):=by
 obtain⟨m,hm⟩:=he3 r hb hr
 unfold U1
 simp only[l8,l6]
 rw[show (⟨0,r,0,r,r,0,[],[]⟩:l7)=Rb4 r 0 [] from rfl,hm]
 cases cor r<;>rfl
theorem Qc2 (r:List Pln) (hb:Bds r) (hr:r.length≤200):U2 r=cor r:=by unfold U2;rw[Ac5 r hb hr];exact Fa1 _ (Xc6 _)
theorem Qc3 (r:List Pln) (hb:Bds r) (hr:r.length≤200):U3 r=true:=by unfold U3;rw[Ac5 r hb hr];exact Ra5 _ (Xc6 _)
end Go.Ev.Ce
namespace Go.Ev.Ce
open Go Go.Ev Go.Ev.L Go.Proofs
noncomputable def slP (l:List Pln):b7×List b8:=(.sl 0 0 l.length 0,[⟨50,4,bL tP l,true,false,0⟩])
theorem Rb5 (l:List Pln):(one (r1L tP)).rd (slP l)=some l:=by
 show Bool.rec (motive:=fun _=>Option (List Pln)) none (some (slR tP (bL tP l) 0 l.length)) (Bool.and true (okS tP (bL tP l) 0 l.length))=_
 rw[Bb8,Bb9]
 rfl
theorem Cd4 {α:Type} (t:Ty α) (l:List α):(one (r1L t)).rd (eL t l,[])=some l:=by
 show Bool.rec (motive:=fun _=>Option (List α)) none (some (rt t l)) (Bool.and (Nat.beq t.es t.es) (okE t l))=_
 rw[l8,L0,Nat.beq_refl]
 rfl
noncomputable def ws:List Pln:=[⟨⟨1,0,0⟩,24⟩,⟨⟨-1,0,0⟩,24⟩,⟨⟨0,1,0⟩,24⟩,⟨⟨0,-1,0⟩,24⟩,⟨⟨0,0,1⟩,24⟩,⟨⟨0,0,-1⟩,24⟩]
theorem oe3:Bds ws:=by
 intro p hp
 have:okp p=true:=by
  have h:ws.all okp=true:=by decide
  exact List.all_eq_true.1 h p hp
 exact Ma6 this
noncomputable def Ac6 (lo hi:V3):List Pln:=[⟨⟨1,0,0⟩,hi.x⟩,⟨⟨-1,0,0⟩,W (0 - lo.x)⟩,⟨⟨0,1,0⟩,hi.y⟩,⟨⟨0,-1,0⟩,W (0 - lo.y)⟩,⟨⟨0,0,1⟩,hi.z⟩,⟨⟨0,0,-1⟩,W (0 - lo.z)⟩]
theorem Td7 (lo hi:V3):Jb3 lo hi=some (slP (Ac6 lo hi)):=rfl
theorem Td8 (lo hi:V3):ob6 lo hi=Ac6 lo hi:=by unfold ob6;rw[Td7];exact Fa1 _ (Rb5 _)
theorem Td9 (lo hi:V3):Za4 lo hi=true:=by unfold Za4;rw[Td7];exact Ra5 _ (Rb5 _)
theorem ue3:Ac6 ⟨-24,-24,-24⟩ ⟨24,24,24⟩=ws:=by
 simp only[Ac6,ws]
 rw[show W (0 - -24)=24 from by rw[Id0];rfl]
theorem he4 {l:List Pln}:Nat.beq (len (bL tP l)) 0=l.isEmpty:=by rw[L1];cases l<;>rfl
theorem Ud0 (c:List Pln) (hc:c.length≤1000000000):ob7 c=some (slP (c++ws)):=by
 unfold ob7
 simp only[Pa3,Td8,Td9,ue3,he4]
 have h6:(0+len (bL tP c))=c.length:=by rw[L1];omega
 have hw:len (bL tP ws)=6:=rfl
 rw[h6,hw]
 have e1:Nat.ble (c.length*32) room=true:=Y7 (by omega)
 have e2:Nat.ble ((c.length+6)*32) room=true:=Y7 (by omega)
 have e3:app (app [] (bL tP c)) (bL tP ws)=bL tP (c++ws):=La3 tP c ws
 have e4:Nat.beq c.length (len (app [] (bL tP c)))=true:=by
  rw[show app [] (bL tP c)=bL tP c from rfl,L1,Nat.beq_refl]
 rw[e1,e2,e3,e4]
 cases c with
 | nil=>rfl
 | cons p c =>
  show some (b7.sl 0 0 ((p::c).length+6) 0,[(⟨50,4,bL tP (p::c++ws),true,false,0⟩:b8)])=_
  unfold slP
  rw[List.length_append]
  rfl
theorem Ee8 (c:List Pln) (hc:c.length≤1000000000):Jb4 c=c++ws:=by unfold Jb4;rw[Ud0 c hc];exact Fa1 _ (Rb5 _)
theorem Ee9 (c:List Pln) (hc:c.length≤1000000000):Jb5 c=true:=by unfold Jb5;rw[Ud0 c hc];exact Ra5 _ (Rb5 _)
theorem Ud1 {l:List (List Pln)} {j:Nat} (h:j < l.length):gL (tLs tP) l j=l[j]:=Pa4 (tLs tP) h
theorem Ud2 (ls:List (List Pln)) (hn:ls.length≤1000000000) (hl:ls.flatten.length≤1000000000):∃ m,lp (G3 ⟨ls,ls,(ls.length:Int)⟩) ⟨0,0⟩=(1,⟨(ls.flatten.length:Int),m⟩):=by
 have h:=Ia7 (step:=G3 ⟨ls,ls,(ls.length:Int)⟩) (mk:=fun j (n:Nat)=>(⟨(n:Int),(j:Int)⟩:q9)) (f:=fun l _ n=>n+l.length) (g:=fun l n=>n+l.flatten.length) (fin:=fun _=>1) ls
  (fun j n=>n+(ls.drop j).flatten.length=ls.flatten.length) hn (fun _=>rfl) (fun x r a=>by simp only[List.flatten_cons,List.length_append];omega)
  (fun j n hj hi=>by
   rw[List.drop_eq_getElem_cons hj,List.flatten_cons,List.length_append] at hi
   have hW:W ((n:Int)+(ls[j].length:Int))=((n+ls[j].length:Nat):Int):=by rw[Z3 (by omega) (by omega)];omega
   refine⟨?_,by show n+ls[j].length+(ls.drop (j+1)).flatten.length=_;omega⟩
   simp only[G3,K2,Int.toNat_natCast,Ud1 hj,hW,o2 hj (by omega)]
   rw[btD (l0 hj),bt (e8 hj),bfD (by omega)])
  (fun j n hj _=>by
   simp only[G3,K2]
   rw[bfD (by omega)]) 0 0 (by simp)
 have h:=h.1
 rw[List.drop_zero,Nat.zero_add] at h
 exact⟨_,h⟩
theorem Ud3 {ls:List (List Pln)} (h:ls.flatten=[]) {j:Nat} (hj:j < ls.length):ls[j]=[]:=by
 rw[List.flatten_eq_nil_iff] at h
 exact h _ (List.getElem_mem hj)
theorem he5 (ls:List (List Pln)) (hn:ls.length≤1000000000) (hl:ls.flatten=[]):∃ s,lp (B1 ⟨ls,(ls.length:Int)⟩) ⟨0,0,0,[]⟩=(1,s):=by
 have h:=Ia7 (step:=B1 ⟨ls,(ls.length:Int)⟩) (mk:=fun j (_:Unit)=>(⟨0,(j:Int),0,[]⟩:k9)) (f:=fun _ _ n=>n) (g:=fun _ n=>n) (fin:=fun _=>1) ls
  (fun _ _=>True) hn (fun _=>rfl) (fun x r a=>rfl)
  (fun j n hj hi=>by
   refine⟨?_,trivial⟩
   show A0 Stp.next Stp.exit Stp.fail _ _=_
   simp only[A0,Int.toNat_natCast,Ud1 hj,Ud3 hl hj,o2 hj (by omega)]
   rw[btD (l0 hj),bt (e8 hj)]
   rfl)
  (fun j n hj _=>by
   show A0 Stp.next Stp.exit Stp.fail _ _=_
   simp only[A0]
   rw[bfD (by omega)]) 0 () trivial
 exact⟨_,h.1⟩
noncomputable def mb2 (t:Nat) (d:List Pln):List (List b7):=app (bL tP d) (List.replicate (t - d.length) Wc9)
theorem Ud4 (t:Nat) (d:List Pln) (h:d.length≤t):len (mb2 t d)=t:=by
 unfold mb2
 rw[E2,l9,List.length_append,← l9,L1,List.length_replicate]
 omega
theorem Ud5 (t:Nat) (d l:List Pln) (h:d.length+l.length≤t):app (I4 (mb2 t d) d.length) (app (bL tP l) (g9 (mb2 t d) (d.length+len (bL tP l))))=mb2 t (d++l):=by
 have hd:(bL tP d).length=d.length:=by rw[← l9,L1]
 unfold mb2
 rw[L1,← La3]
 simp only[E2,I9,J0]
 rw[List.take_left' hd,List.append_assoc]
 congr 2
 rw[List.drop_append,List.drop_eq_nil_of_le (by omega),List.nil_append,hd,List.drop_replicate,List.length_append]
 congr 1
 omega
theorem Ud6 (ls:List (List Pln)) (hn:ls.length≤1000000000):∃ m,lp (B1 ⟨ls,(ls.length:Int)⟩) ⟨1,0,0,List.replicate ls.flatten.length Wc9⟩=(2,⟨1,m,ls.flatten.length,bL tP ls.flatten⟩):=by
 have h:=Ia7 (step:=B1 ⟨ls,(ls.length:Int)⟩) (mk:=fun j (d:List Pln)=>(⟨1,(j:Int),d.length,mb2 ls.flatten.length d⟩:k9)) (f:=fun l _ d=>d++l) (g:=fun l d=>d++l.flatten) (fin:=fun _=>2) ls
  (fun j d=>d.length+(ls.drop j).flatten.length=ls.flatten.length) hn (fun _=>by simp) (fun x r a=>by simp)
  (fun j d hj hi=>by
   rw[List.drop_eq_getElem_cons hj,List.flatten_cons,List.length_append] at hi
   refine⟨?_,by show (d++ls[j]).length+(ls.drop (j+1)).flatten.length=_;rw[List.length_append];omega⟩
   show A1 Stp.next Stp.exit Stp.fail _ _=_
   simp only[A1,Int.toNat_natCast,Ud1 hj,o2 hj (by omega),Pa3]
   rw[Ud5 _ _ _ (by omega),Ud4 _ _ (by omega),L1,btD (l0 hj),bt (e8 hj),bt (by rw[Nat.ble_eq];omega),List.length_append])
  (fun j d hj _=>by
   show A1 Stp.next Stp.exit Stp.fail _ _=_
   simp only[A1]
   rw[bfD (by omega)]) 0 [] (by simp)
 have h:=h.1
 rw[List.drop_zero,List.nil_append] at h
 have e:mb2 ls.flatten.length ls.flatten=bL tP ls.flatten:=by unfold mb2;rw[Nat.sub_self,E2];simp
 rw[e] at h
 exact⟨_,h⟩
theorem oe4 (ls:List (List Pln)) (hn:ls.length≤1000000000) (hl:ls.flatten.length≤1000000000):pb4 ls=some (slP (ls.flatten++ws)):=by
 have hc:ga4 ls=if ls.flatten=[] then ⟨1,0,[]⟩ else ⟨2,ls.flatten.length,bL tP ls.flatten⟩:=by
  unfold ga4 K7
  simp only[l8,l6]
  obtain⟨m,hm⟩:=Ud2 ls hn hl
  rw[hm]
  by_cases h0:ls.flatten=[]
  ·obtain⟨s,hs⟩:=he5 ls hn h0
   rw[if_pos h0,hs]
   rw[show (⟨(ls.flatten.length:Int),m⟩:q9)=⟨0,m⟩ by rw[h0];rfl]
   rfl
  ·obtain⟨m',hm'⟩:=Ud6 ls hn
   rw[if_neg h0]
   simp only[Int.toNat_natCast]
   rw[hm']
   have h1:0 < ls.flatten.length:=List.length_pos_iff.2 h0
   have e1:((ls.flatten.length:Int)==0)=false:=by rw[beq_eq_false_iff_ne];omega
   have e2:Bool.and (decide ((0:Int) < (ls.flatten.length:Int))) (Nat.ble (ls.flatten.length*32) room)=true:=by
    rw[Y7 (by omega),decide_eq_true (by omega)]
    rfl
   rw[e1,e2]
   rfl
 unfold pb4
 simp only[l8,L0,hc]
 by_cases h0:ls.flatten=[]
 ·rw[if_pos h0,h0];rfl
 ·rw[if_neg h0]
  generalize ls.flatten=c at *
  have e:∀ (d:List Pln) (p:Pln),app (bL tP d) [[i p.n.x,i p.n.y,i p.n.z,i p.b]]=bL tP (d++[p]):=fun d p=>La3 tP d [p]
  have c1:=e c ⟨⟨1,0,0⟩,24⟩
  have c2:=e (c++[⟨⟨1,0,0⟩,24⟩]) ⟨⟨-1,0,0⟩,24⟩
  have c3:=e (c++[⟨⟨1,0,0⟩,24⟩]++[⟨⟨-1,0,0⟩,24⟩]) ⟨⟨0,1,0⟩,24⟩
  have c4:=e (c++[⟨⟨1,0,0⟩,24⟩]++[⟨⟨-1,0,0⟩,24⟩]++[⟨⟨0,1,0⟩,24⟩]) ⟨⟨0,-1,0⟩,24⟩
  have c5:=e (c++[⟨⟨1,0,0⟩,24⟩]++[⟨⟨-1,0,0⟩,24⟩]++[⟨⟨0,1,0⟩,24⟩]++[⟨⟨0,-1,0⟩,24⟩]) ⟨⟨0,0,1⟩,24⟩
  have c6:=e (c++[⟨⟨1,0,0⟩,24⟩]++[⟨⟨-1,0,0⟩,24⟩]++[⟨⟨0,1,0⟩,24⟩]++[⟨⟨0,-1,0⟩,24⟩]++[⟨⟨0,0,1⟩,24⟩]) ⟨⟨0,0,-1⟩,24⟩
  simp only at c1 c2 c3 c4 c5 c6
  simp only[c1,c2,c3,c4,c5,c6,L1,List.length_append,List.length_singleton]
  have g:∀ n:Nat,n≤1000000010→(Nat.beq n n&&Nat.ble ((n+1)*32) room)=true:=fun n h=>by rw[Nat.beq_refl,Y7 (by omega)];rfl
  rw[g _ (by omega),g _ (by omega),g _ (by omega),g _ (by omega),g _ (by omega),g _ (by omega)]
  show some (b7.sl 0 0 (c.length+1+1+1+1+1+1) 0,[(⟨50,4,bL tP _,true,false,0⟩:b8)])=_
  unfold slP
  rw[List.length_append]
  simp only[List.append_assoc]
  rfl
theorem Fe0 (ls:List (List Pln)) (hn:ls.length≤1000000000) (hl:ls.flatten.length≤1000000000):Ma2 ls=ls.flatten++ws:=by unfold Ma2;rw[oe4 ls hn hl];exact Fa1 _ (Rb5 _)
theorem Fe1 (ls:List (List Pln)) (hn:ls.length≤1000000000) (hl:ls.flatten.length≤1000000000):Ma3 ls=true:=by unfold Ma3;rw[oe4 ls hn hl];exact Ra5 _ (Rb5 _)
theorem oe5 (c:List Pln) (hc:c.length≤1000000000):Ma2 [c]=c++ws:=by
 have:[c].flatten=c:=by simp
 rw[Fe0 [c] (by simp) (by rw[this];exact hc),this]
theorem oe6 (c:List Pln) (hc:c.length≤1000000000):Ma3 [c]=true:=by
 have:[c].flatten=c:=by simp
 exact Fe1 [c] (by simp) (by rw[this];exact hc)
theorem Qc4 (ls:List (List Pln)) (hn:ls.length≤1000000000) (hl:∀ c∈ls,c.length≤1000000000):Ia2 ls=some (b (ls.all fun c=>chk c==0),[]):=by
 have hv:∀ c∈ls,Ia0 c=!(chk c==0)∧Ia1 c=true:=fun c hc=>by
  have:va3 c=some (b (!(chk c==0)),[]):=by
   unfold va3
   simp only[l8,L0,Cd0 c (hl c hc),Cd1 c (hl c hc)]
   rfl
  unfold Ia0 Ia1
  rw[this]
  exact⟨rfl,rfl⟩
 have h:=Xa0 (step:=E8 ⟨ls,(ls.length:Int)⟩) (mk:=fun j=>(⟨(j:Int)⟩:o5)) (c:=fun c=>!(chk c==0)) (u:=1) (fin:=2) (tLs tP) ls hn
  (fun j hj=>by
   have hm:=hv _ (wc0 (tLs tP) hj)
   simp only[E8,C9,Int.toNat_natCast,l8,L0,hm.1,hm.2,o2 hj (by omega)]
   rw[btD (l0 hj),bt (e8 hj),n5,n5])
  (by simp only[E8,C9];rw[bfD (y5 (Nat.lt_irrefl _))]) 0 (Nat.zero_le _)
 rw[List.drop_zero] at h
 have e:(ls.any fun c=>!(chk c==0))=!ls.all fun c=>chk c==0:=by rw[List.not_all_eq_any_not]
 unfold Ia2 Z6 A5 ga7 D6
 simp only[l8,l6]
 rw[show (⟨0⟩:o5)=⟨((0:Nat):Int)⟩ from rfl,h,e]
 cases ls.all fun c=>chk c==0 with
 | true=>rfl
 | false =>
  simp only[Bool.not_false,if_true,Nat.zero_add]
  show sl true (sl (Nat.beq 1 1) (some (b (!(decide (((ls.findIdx fun c=>!(chk c==0):Nat):Int)≥0))),[])) _) _=_
  rw[show decide (((ls.findIdx fun c=>!(chk c==0):Nat):Int)≥0)=true from decide_eq_true (by omega)]
  rfl
theorem ld6 (ls:List (List Pln)) (hn:ls.length≤1000000000) (hl:∀ c∈ls,c.length≤1000000000):ba2 ls=ls.all fun c=>chk c==0:=by unfold ba2;rw[Qc4 ls hn hl];rfl
theorem ld7 (ls:List (List Pln)) (hn:ls.length≤1000000000) (hl:∀ c∈ls,c.length≤1000000000):ba3 ls=true:=by unfold ba3;rw[Qc4 ls hn hl];rfl
theorem Zb0 (c:List Pln) (hc:c.length≤1000000000):ba2 [c]=(chk c==0):=by
 rw[ld6 [c] (by simp) (by simpa using hc)]
 simp
theorem Zb1 (c:List Pln) (hc:c.length≤1000000000):ba3 [c]=true:=ld7 [c] (by simp) (by simpa using hc)
noncomputable def pos (X:List Pt) (p:Pln):Bool:=X.any fun x=>decide (rm p x > 0)
noncomputable def Ac7 (r:List Pln):Bool:=r.all (pos (cor r))
theorem Ud7 (p:Pln) (X:List Pt) (hX:X.length≤1000000000):ja0 ⟨p.n.x,p.n.y,p.n.z,p.b,X⟩=⟨1,!pos X p⟩:=by
 have hw:∀ x:Pt,pa4 ⟨x.px,x.py,x.pz,x.pw,p.n.x,p.n.y,p.n.z,p.b⟩=⟨decide (rm p x > 0)⟩:=fun x=>by
  show Q7.mk (decide (oa9 p x > 0))=_
  rw[Xc1]
 have h:=Xa0 (step:=H7 ⟨X,(X.length:Int),p.n.x,p.n.y,p.n.z,p.b⟩) (mk:=fun j=>(⟨(j:Int)⟩:p6)) (c:=fun x=>decide (rm p x > 0)) (u:=1) (fin:=2) tX X hX
  (fun j hj=>by
   simp only[H7,E9,Int.toNat_natCast,hw,o2 hj (by omega)]
   rw[btD (l0 hj),bt (e8 hj)])
  (by simp only[H7,E9];rw[bfD (y5 (Nat.lt_irrefl _))]) 0 (Nat.zero_le _)
 rw[List.drop_zero] at h
 unfold ja0 N7 ba5 B5 ja9 G4 pos
 simp only[l8,l6]
 rw[show (⟨0⟩:p6)=⟨((0:Nat):Int)⟩ from rfl,h]
 cases X.any fun x=>decide (rm p x > 0) with
 | false=>rfl
 | true =>
  simp only[if_true,Nat.zero_add]
  show X4.mk 1 (!(decide (((X.findIdx fun x=>decide (rm p x > 0):Nat):Int)≥0)))=_
  rw[show decide (((X.findIdx fun x=>decide (rm p x > 0):Nat):Int)≥0)=true from decide_eq_true (by omega)]
theorem Cd5 (r:List Pln) (hb:Bds r) (hr:r.length≤200):ea9 r=some (b (Ac7 r),[]):=by
 have hX:(cor r).length≤1000000000:=Nat.le_trans (Xc5 r hb hr) (by omega)
 have h:=Xa0 (step:=F4 ⟨r,(r.length:Int)⟩) (mk:=fun j=>(⟨(j:Int),cor r⟩:o6)) (c:=fun p=>!pos (cor r) p) (u:=1) (fin:=2) tP r (by omega)
  (fun j hj=>by
   simp only[F4,D0,Int.toNat_natCast,l8,l6,Ud7 _ _ hX,o2 hj (by omega)]
   rw[btD (l0 hj),bt (e8 hj)]
   rfl)
  (by simp only[F4,D0];rw[bfD (y5 (Nat.lt_irrefl _))]) 0 (Nat.zero_le _)
 rw[List.drop_zero] at h
 have e:(r.any fun p=>!pos (cor r) p)=!r.all (pos (cor r)):=by rw[List.not_all_eq_any_not]
 unfold ea9 Z8 A6 ga9 D7 Ac7
 simp only[l8,l6,L0,Qc2 r hb hr,Qc3 r hb hr]
 rw[show (⟨0,cor r⟩:o6)=⟨((0:Nat):Int),cor r⟩ from rfl,h,e]
 cases r.all (pos (cor r)) with
 | true=>rfl
 | false =>
  simp only[Bool.not_false,if_true,Nat.zero_add]
  show some (b (!(decide (((r.findIdx fun p=>!pos (cor r) p:Nat):Int)≥0))),[])=_
  rw[show decide (((r.findIdx fun p=>!pos (cor r) p:Nat):Int)≥0)=true from decide_eq_true (by omega)]
  rfl
theorem Ud8 (r:List Pln) (hb:Bds r) (hr:r.length≤200):fa0 r=Ac7 r:=by unfold fa0;rw[Cd5 r hb hr];rfl
theorem Ud9 (r:List Pln) (hb:Bds r) (hr:r.length≤200):fa1 r=true:=by unfold fa1;rw[Cd5 r hb hr];rfl
theorem wd6 (r:List Pln) (X:List Pt) (hr:r.length≤200) (hX:X.length≤1000000000) (a:Nat) (ha:a < r.length):∃ m,lp (sa0 ⟨r,X,(a:Int)⟩) ⟨false,0⟩=(1,⟨pos X r[a],m⟩):=by
 have h:=Ib6 (step:=sa0 ⟨r,X,(a:Int)⟩) (mk:=fun j (c:Bool)=>(⟨c,(j:Int)⟩:ia4)) (f:=fun c x=>c||decide (rm r[a] x > 0)) (fin:=1) tX X (fun _ _=>True) hX
  (fun j c hj _=>⟨by
   simp only[sa0,ua5,Int.toNat_natCast,Xc2,o2 hj (by omega),Pa4 tP ha,e8 ha,e8 hj]
   rw[btD (l0 hj)]
   cases c<;>rfl,trivial⟩)
  (fun c _=>by simp only[sa0,ua5];rw[bfD (y5 (Nat.lt_irrefl _))]) 0 (Nat.zero_le _) false trivial
 have h:=h.1
 rw[List.drop_zero] at h
 have e:∀ (l:List Pt) (c:Bool),l.foldl (fun c x=>c||decide (rm r[a] x > 0)) c=(c||l.any fun x=>decide (rm r[a] x > 0)):=by
  intro l
  induction l with
  | nil=>intro c;simp
  | cons x l ih=>intro c;rw[List.foldl_cons,ih,List.any_cons,Bool.or_assoc]
 rw[e,Bool.false_or] at h
 exact⟨_,h⟩
theorem Cd6 (r:List Pln) (hb:Bds r) (hr:r.length≤200):cb1 r=some (b (Ac7 r),[]):=by
 have hX:(cor r).length≤1000000000:=Nat.le_trans (Xc5 r hb hr) (by omega)
 have h:=Ta1 (step:=Aa1 ⟨⟩) (mk:=fun j=>(⟨r,cor r,(j:Int)⟩:aa7)) (c:=fun p=>!pos (cor r) p) (u:=1) (fin:=2) tP r (by omega)
  (fun j hj=>by
   obtain⟨m,hm⟩:=wd6 r (cor r) hr hX j hj
   simp only[Aa1,ua6,l8,l6,hm,o2 hj (by omega),Pa4 tP hj]
   rw[btD (l0 hj)]
   rfl)
  (by simp only[Aa1,ua6];rw[bfD (y5 (Nat.lt_irrefl _))]) 0 (Nat.zero_le _)
 rw[List.drop_zero] at h
 have e:(r.any fun p=>!pos (cor r) p)=!r.all (pos (cor r)):=by rw[List.not_all_eq_any_not]
 unfold cb1 Ac7
 simp only[l8,l6,L0,wd4 r hb hr,wd5 r hb hr]
 rw[show (⟨r,cor r,0⟩:aa7)=⟨r,cor r,((0:Nat):Int)⟩ from rfl,h,e]
 cases r.all (pos (cor r))<;>rfl
theorem ue4 (r:List Pln) (hb:Bds r) (hr:r.length≤200):tb2 r=Ac7 r:=by unfold tb2;rw[Cd6 r hb hr];rfl
theorem ue5 (r:List Pln) (hb:Bds r) (hr:r.length≤200):tb3 r=true:=by unfold tb3;rw[Cd6 r hb hr];rfl
theorem Oa5 {c:List Pln} (h:(chk c==0)=true):Bds (c++ws)∧(c++ws).length≤200:=by
 rw[beq_iff_eq,Fb0] at h
 refine⟨fun p hp=>?_,by rw[List.length_append,show ws.length=6 from rfl];omega⟩
 rcases List.mem_append.1 hp with hp | hp
 ·exact Ma6 (h.2 p hp)
 ·exact oe3 p hp
noncomputable def pts (c:List Pln):List Pt:=if chk c==0 then cor (c++ws) else []
noncomputable def ful (c:List Pln):Bool:=(chk c==0)&&Ac7 (c++ws)
theorem ld8 {c:List Pln} (hc:c.length≤1000000000):∃ x,Aa8 c=some x∧(one (r1L tX)).rd x=some (pts c):=by
 unfold Aa8 pts
 simp only[l8,L0,Zb0 c hc,Zb1 c hc,oe5 c hc,oe6 c hc]
 cases h:chk c==0 with
 | false=>exact⟨_,rfl,rfl⟩
 | true =>
  obtain⟨h1,h2⟩:=Oa5 h
  rw[Qc2 _ h1 h2,Qc3 _ h1 h2]
  exact⟨_,rfl,Cd4 tX _⟩
theorem pb7 {c:List Pln} (hc:c.length≤1000000000):W4 c=pts c:=by
 obtain⟨x,h1,h2⟩:=ld8 hc
 unfold W4;rw[h1];exact Fa1 _ h2
theorem pb8 {c:List Pln} (hc:c.length≤1000000000):J5 c=true:=by
 obtain⟨x,h1,h2⟩:=ld8 hc
 unfold J5;rw[h1];exact Ra5 _ h2
theorem Cd7 {c:List Pln} (hc:c.length≤1000000000):Ra4 c=some (b (ful c),[]):=by
 unfold Ra4 ful
 simp only[l8,L0,Zb0 c hc,Zb1 c hc,oe5 c hc,oe6 c hc]
 cases h:chk c==0 with
 | false=>rfl
 | true =>
  obtain⟨h1,h2⟩:=Oa5 h
  rw[Ud8 _ h1 h2,Ud9 _ h1 h2]
  rfl
theorem ub5 {c:List Pln} (hc:c.length≤1000000000):R9 c=ful c:=by unfold R9;rw[Cd7 hc];rfl
theorem ub6 {c:List Pln} (hc:c.length≤1000000000):G8 c=true:=by unfold G8;rw[Cd7 hc];rfl
theorem ld9 {c:List Pln} (hc:c.length≤1000000000):cb2 c=some (b (ful c),[]):=by
 unfold cb2 ful
 simp only[l8,L0,Td5 c hc,Td6 c hc,Ee8 c hc,Ee9 c hc]
 cases h:chk c==0 with
 | false=>rfl
 | true =>
  obtain⟨h1,h2⟩:=Oa5 h
  rw[ue4 _ h1 h2,ue5 _ h1 h2]
  rfl
theorem he6 {c:List Pln} (hc:c.length≤1000000000):La6 c=ful c:=by unfold La6;rw[ld9 hc];rfl
theorem Cd8 {c:List Pln} (hc:c.length≤1000000000):Da4 c=true:=by unfold Da4;rw[ld9 hc];rfl
end Go.Ev.Ce
section
namespace Go.Ev.Ce
open Go Go.Ev Go.Ev.L Go.Proofs
set_option maxRecDepth 100000
structure Ca0 where
 is1:Int
 g8:List Int
 c8:Int
noncomputable def gc6:List (Nat×Sum):=[(47,fc5)]
theorem Zb2:l5 prog G gc6:=⟨yc2,trivial⟩
structure Ca1 where
 alt:Nat
 is0:Int
 c8:Int
noncomputable def ha8 {α:Type} (kk:Ca1→α) (x:Ca0):α:=let t1:=(ob9 (gL tI x.g8 (W ((W (x.c8+1)) - 1)).toNat) x.is1);(sl (decide (x.c8≥(↑(List.length x.g8):Int))) (kk ⟨1,0,x.c8⟩) (sl (inB (W ((W (x.c8+1)) - 1)) (List.length x.g8)) (sl (Za5 (gL tI x.g8 (W ((W (x.c8+1)) - 1)).toNat) x.is1) (kk ⟨1,t1,(W (x.c8+1))⟩) (kk ⟨0,0,0⟩)) (kk ⟨0,0,0⟩)))
noncomputable def m0 (x:Ca0):Ca1:=ha8 (fun r=>r) x
noncomputable def Ma7 (x:Ca0) (r:Ca1):DT (b7×List b8):=(.ite (Nat.beq r.alt 1) (.ret ((i r.is0),[⟨0,2,[[(eL tI x.g8),(i r.c8)]],true,false,0⟩])) .fail)
theorem oc4 {α β:Type} (F:α→β) (kk:Ca1→α) (x:Ca0):F (ha8 kk x)=ha8 (fun r=>F (kk r)) x:=by unfold ha8;(repeat' apply o0 (f:=F))<;>rfl
noncomputable def qa8:Sum:=ab8 ⟨[(.s (.o (.ptr 0 0 0 0))),(.s (.o (.int .i64)))],[⟨0,2,true,(some [[(.c 1 (nL tI)),(.o (.int .i64))]])⟩],fun a H=>(⟨(toI (slT a 1)),(rL tI (slT (rwT (elT H 0) 0) 0)),(toI (slT (rwT (elT H 0) 0) 1))⟩,())⟩ (fun x=>Ma7 x (m0 x))
theorem xa9:j6 prog G 98 qa8:=S1 (enc:=fun x=>⟨[(.ptr 0 0 0 0),(i x.is1)],[⟨0,2,[[(eL tI x.g8),(i x.c8)]],true,false,0⟩]⟩) (fun a H=>by kernel_rfl) (bd b98 Zb2) fun x=>w6 (Eq.trans (b:=ha8 (fun r=>(Ma7 x r).run) x) (by kernel_rfl) (oc4 (fun r=>(Ma7 x r).run) (fun r=>r) x).symm)
structure Jb7 where
 is1:Int
 g8:List Int
 c8:Int
noncomputable def wd7:List (Nat×Sum):=[(98,qa8)]
theorem md0:l5 prog G wd7:=⟨xa9,trivial⟩
structure Jb8 where
 alt:Nat
 oa2:Int
 oa3:Int
 oa4:Int
 g8:List Int
 c8:Int
noncomputable def Za6 {α:Type} (kk:Jb8→α) (x:Jb7):α:=let t1:=(m0 ⟨(W ((W (2*x.is1))+1)),(rt tI x.g8),x.c8⟩);let t2:=(m0 ⟨(W ((W (2*x.is1))+1)),(rt tI (rt tI x.g8)),t1.c8⟩);let t3:=(m0 ⟨(W ((W (2*x.is1))+1)),(rt tI (rt tI (rt tI x.g8))),t2.c8⟩);(sl ((cnE tI x.g8)&&true) (sl (Nat.beq t1.alt 1) (sl ((cnE tI (rt tI x.g8))&&true) (sl (Nat.beq t2.alt 1) (sl ((cnE tI (rt tI (rt tI x.g8)))&&true) (sl (Nat.beq t3.alt 1) (kk ⟨1,(W (t1.is0 - x.is1)),(W (t2.is0 - x.is1)),(W (t3.is0 - x.is1)),(rt tI (rt tI (rt tI x.g8))),t3.c8⟩) (kk ⟨0,0,0,0,[],0⟩)) (kk ⟨0,0,0,0,[],0⟩)) (kk ⟨0,0,0,0,[],0⟩)) (kk ⟨0,0,0,0,[],0⟩)) (kk ⟨0,0,0,0,[],0⟩)) (kk ⟨0,0,0,0,[],0⟩))
noncomputable def Ma8 (x:Jb7):Jb8:=Za6 (fun r=>r) x
noncomputable def Rb6 (x:Jb7) (r:Jb8):DT (b7×List b8):=(.ite (Nat.beq r.alt 1) (.ret ((.agg [(i r.oa2),(i r.oa3),(i r.oa4)]),[⟨0,2,[[(eL tI r.g8),(i r.c8)]],true,false,0⟩])) .fail)
theorem Kd2 {α β:Type} (F:α→β) (kk:Jb8→α) (x:Jb7):F (Za6 kk x)=Za6 (fun r=>F (kk r)) x:=by unfold Za6;(repeat' apply o0 (f:=F))<;>rfl
noncomputable def gc7:Sum:=ab8 ⟨[(.s (.o (.ptr 0 0 0 0))),(.s (.o (.int .i64)))],[⟨0,2,true,(some [[(.c 1 (nL tI)),(.o (.int .i64))]])⟩],fun a H=>(⟨(toI (slT a 1)),(rL tI (slT (rwT (elT H 0) 0) 0)),(toI (slT (rwT (elT H 0) 0) 1))⟩,())⟩ (fun x=>Rb6 x (Ma8 x))
theorem Ac8:j6 prog G 97 gc7:=S1 (enc:=fun x=>⟨[(.ptr 0 0 0 0),(i x.is1)],[⟨0,2,[[(eL tI x.g8),(i x.c8)]],true,false,0⟩]⟩) (fun a H=>by kernel_rfl) (bd b97 md0) fun x=>w6 (Eq.trans (b:=Za6 (fun r=>(Rb6 x r).run) x) (by kernel_rfl) (Kd2 (fun r=>(Rb6 x r).run) (fun r=>r) x).symm)
noncomputable def wd8:List (Nat×Sum):=[]
theorem md1:l5 prog G wd8:=trivial
noncomputable def ya0 (x:V3) (y:V3):V3:=(⟨(W (x.x - y.x)),(W (x.y - y.y)),(W (x.z - y.z))⟩:V3)
noncomputable def gc8:Sum:=la2 (W9 tV) (W9 tV) (fun x y=>.ret ((one r1V).enc (ya0 x y),[]))
theorem Ac9:j6 prog G 187 gc8:=ta3 (bd Pe3 md1) fun x y=>w6 (by kernel_rfl)
noncomputable def Kd3:List (Nat×Sum):=[(166,xa5)]
theorem wd9:l5 prog G Kd3:=⟨Ga7,trivial⟩
noncomputable def Fb1 (x:V3):Option (b7×List b8):=(sl (decide (x.x < (-24))) (some ((b false),[])) (sl (decide (x.x > 24)) (some ((b false),[])) (sl (decide (x.y < (-24))) (some ((b false),[])) (sl (decide (x.y > 24)) (some ((b false),[])) (sl (decide (x.z < (-24))) (some ((b false),[])) (sl (decide (x.z > 24)) (some ((b false),[])) (some ((b true),[]))))))))
noncomputable def Ra6 (x:V3):Bool:=P4 (one r1B) (Fb1 x)
noncomputable def Ra7 (x:V3):Bool:=okO (one r1B) (Fb1 x)
noncomputable def Zb3:Sum:=ja7 (W9 tV) (fun x=>.guard (Ra7 x) (.ret ((one r1B).enc (Ra6 x),[])))
theorem gc9:j6 prog G 109 Zb3:=Da0 (bd Me0 wd9) (one r1B) (o:=Fb1) fun x=>w6 (by kernel_rfl)
noncomputable def Bc0:List (Nat×Sum):=[(109,Zb3),(187,gc8),(186,Db5),(167,Qb6),(130,Jb2)]
theorem oc5:l5 prog G Bc0:=⟨gc9,Ac9,Wb2,kc7,Qb3,trivial⟩
noncomputable def Aa9 (x:V3) (y:V3) (z:V3):Option (b7×List b8):=let t1:=(Ra6 x);let t2:=(Ra6 y);let t3:=(Ra6 z);let t4:=(ya0 y x);let t5:=(ya0 z x);let t6:=(R7 t4 t5);let t7:=(Da3 t6);let t8:=(ra9 t7.1 x);(sl (Ra7 x) (sl (!t1) (some ((.tup [(.agg [(i 0),(i 0),(i 0),(i 0)]),(b false)]),[])) (sl (Ra7 y) (sl (!t2) (some ((.tup [(.agg [(i 0),(i 0),(i 0),(i 0)]),(b false)]),[])) (sl (Ra7 z) (sl (!t3) (some ((.tup [(.agg [(i 0),(i 0),(i 0),(i 0)]),(b false)]),[])) (sl (cb0 t6) (sl (t7.2==0) (some ((.tup [(.agg [(i 0),(i 0),(i 0),(i 0)]),(b false)]),[])) (some ((.tup [(.agg [(i t7.1.x),(i t7.1.y),(i t7.1.z),(i t8)]),(b true)]),[]))) none)) none)) none)) none)
noncomputable def ka0 (x:V3) (y:V3) (z:V3):Pln×Bool:=P4 (two r1P r1B) (Aa9 x y z)
noncomputable def ka1 (x:V3) (y:V3) (z:V3):Bool:=okO (two r1P r1B) (Aa9 x y z)
noncomputable def Oa6:Sum:=Uc0 (W9 tV) (W9 tV) (W9 tV) (fun x y z=>.guard (ka1 x y z) (.ret ((two r1P r1B).enc (ka0 x y z),[])))
theorem db2:j6 prog G 115 Oa6:=ze8 (bd Me4 oc5) (two r1P r1B) (o:=Aa9) fun x y z=>w6 (by kernel_rfl)
noncomputable def md2:List (Nat×Sum):=[(98,qa8),(97,gc7),(115,Oa6),(47,fc5)]
theorem Xc9:l5 prog G md2:=⟨xa9,Ac8,db2,yc2,trivial⟩
noncomputable def Da6 (x:List Int):Option (b7×List b8):=let t1:=(m0 ⟨8,(rt tI x),0⟩);let t2:=(m0 ⟨17,(rt tI (rt tI x)),t1.c8⟩);let t3:=(Ma8 ⟨8,(rt tI (rt tI (rt tI x))),t2.c8⟩);let t4:=(Ma8 ⟨8,(rt tI t3.g8),t3.c8⟩);let t5:=(Ma8 ⟨8,(rt tI t4.g8),t4.c8⟩);let t6:=(ka0 (⟨t3.oa2,t3.oa3,t3.oa4⟩:V3) (⟨t4.oa2,t4.oa3,t4.oa4⟩:V3) (⟨t5.oa2,t5.oa3,t5.oa4⟩:V3));let t7:=(ob9 (W (t2.is0 - 8)) 3);(sl ((cnE tI x)&&true) (sl (Nat.beq t1.alt 1) (sl ((cnE tI (rt tI x))&&true) (sl (Nat.beq t2.alt 1) (sl ((cnE tI (rt tI (rt tI x)))&&true) (sl (Nat.beq t3.alt 1) (sl ((cnE tI t3.g8)&&true) (sl (Nat.beq t4.alt 1) (sl ((cnE tI t4.g8)&&true) (sl (Nat.beq t5.alt 1) (sl (ka1 (⟨t3.oa2,t3.oa3,t3.oa4⟩:V3) (⟨t4.oa2,t4.oa3,t4.oa4⟩:V3) (⟨t5.oa2,t5.oa3,t5.oa4⟩:V3)) (sl (decide (t1.is0 > 1)) (sl t6.2 (some ((.agg [(i t6.1.n.x),(i t6.1.n.y),(i t6.1.n.z),(i t6.1.b)]),[])) (sl (Za5 (W (t2.is0 - 8)) 3) (sl (t7==1) (some ((.agg [(i 0),(i (W (1 - (W (2*(Int.tmod t1.is0 2)))))),(i 0),(i (W (t2.is0 - 8)))]),[])) (sl (t7==2) (some ((.agg [(i 0),(i 0),(i (W (1 - (W (2*(Int.tmod t1.is0 2)))))),(i (W (t2.is0 - 8)))]),[])) (some ((.agg [(i (W (1 - (W (2*(Int.tmod t1.is0 2)))))),(i 0),(i 0),(i (W (t2.is0 - 8)))]),[])))) none)) (sl (Za5 (W (t2.is0 - 8)) 3) (sl (t7==1) (some ((.agg [(i 0),(i (W (1 - (W (2*(Int.tmod t1.is0 2)))))),(i 0),(i (W (t2.is0 - 8)))]),[])) (sl (t7==2) (some ((.agg [(i 0),(i 0),(i (W (1 - (W (2*(Int.tmod t1.is0 2)))))),(i (W (t2.is0 - 8)))]),[])) (some ((.agg [(i (W (1 - (W (2*(Int.tmod t1.is0 2)))))),(i 0),(i 0),(i (W (t2.is0 - 8)))]),[])))) none)) none) none) none) none) none) none) none) none) none) none) none)
noncomputable def Da7 (x:List Int):Pln:=P4 (one r1P) (Da6 x)
noncomputable def db3 (x:List Int):Bool:=okO (one r1P) (Da6 x)
noncomputable def Rb7:Sum:=ja7 (ia2 tI) (fun x=>.guard (db3 x) (.ret ((one r1P).enc (Da7 x),[])))
theorem lc2:j6 prog G 35 Rb7:=Da0 (bd b35 Xc9) (one r1P) (o:=Da6) fun x=>w6 (by kernel_rfl)
noncomputable def md3:List (Nat×Sum):=[(187,gc8)]
theorem Yc0:l5 prog G md3:=⟨Ac9,trivial⟩
noncomputable def Ma9 (x:Pln):Pln:=let t1:=(ya0 (⟨0,0,0⟩:V3) x.n);(⟨t1,(W (0 - x.b))⟩:Pln)
noncomputable def Bc1:Sum:=ja7 (W9 tP) (fun x=>.ret ((one r1P).enc (Ma9 x),[]))
theorem md4:j6 prog G 119 Bc1:=Ib4 (bd Me6 Yc0) fun x=>w6 (by kernel_rfl)
noncomputable def md5:List (Nat×Sum):=[(86,Db8),(109,Zb3),(130,Jb2)]
theorem Yc1:l5 prog G md5:=⟨Xb2,gc9,Qb3,trivial⟩
noncomputable def Da8 (x:Pln) (y:V3):Option (b7×List b8):=let t1:=(Pa8 x);let t2:=(Ra6 y);let t3:=(ra9 x.n y);(sl (Pa9 x) (sl (!t1) (some ((i 0),[])) (sl (Ra7 y) (sl (!t2) (some ((i 0),[])) (sl (decide ((W (t3 - x.b)) < 0)) (some ((i (-1)),[])) (sl (decide ((W (t3 - x.b)) > 0)) (some ((i 1),[])) (some ((i 0),[]))))) none)) none)
noncomputable def Na0 (x:Pln) (y:V3):Int:=P4 (one r1I) (Da8 x y)
noncomputable def ub7 (x:Pln) (y:V3):Bool:=okO (one r1I) (Da8 x y)
noncomputable def Rb8:Sum:=la2 (W9 tP) (W9 tV) (fun x y=>.guard (ub7 x y) (.ret ((one r1I).enc (Na0 x y),[])))
theorem lc3:j6 prog G 194 Rb8:=nb9 (bd Pe4 Yc1) (one r1I) (o:=Da8) fun x y=>w6 (by kernel_rfl)
noncomputable def Fb2:List (Nat×Sum):=[]
theorem oc6:l5 prog G Fb2:=trivial
structure qa9 where
 f9:Int
 c8:Int
 g7:Int
 d9:Int
 I5:Int
 I6:Int
 I7:Int
 I8:Int
structure M6 where
 is7:Int
noncomputable def hc3 (p:qa9) (s:M6):St:=⟨(ra 5 ((.ptr 0 0 0 0)::((.ptr 1 0 0 0)::((i s.is7)::(ra 42 []))))),[⟨0,4,[[(i p.f9),(i p.c8),(i p.g7),(i p.d9)]],true,false,0⟩,⟨0,4,[[(i p.I5),(i p.I6),(i p.I7),(i p.I8)]],true,false,0⟩]⟩
noncomputable def Q9 {α:Type} (k:M6→α) (e:Nat→α) (z:α) (p:qa9) (s:M6):α:=(sl (decide (s.is7 < 4)) (sl (inB s.is7 4) (sl ((Nat.ble ((0+(s.is7.toNat*1))+1) 4)&&(R5 [(CK.int .i64)] (g9 [(i p.f9),(i p.c8),(i p.g7),(i p.d9)] (0+(s.is7.toNat*1))))) (sl (inB s.is7 4) (sl ((Nat.ble ((0+(s.is7.toNat*1))+1) 4)&&(R5 [(CK.int .i64)] (g9 [(i p.I5),(i p.I6),(i p.I7),(i p.I8)] (0+(s.is7.toNat*1))))) (sl (decide ((toI (hdA (g9 [(i p.f9),(i p.c8),(i p.g7),(i p.d9)] (0+(s.is7.toNat*1))))) < (toI (hdA (g9 [(i p.I5),(i p.I6),(i p.I7),(i p.I8)] (0+(s.is7.toNat*1))))))) (e 1) (sl (inB s.is7 4) (sl ((Nat.ble ((0+(s.is7.toNat*1))+1) 4)&&(R5 [(CK.int .i64)] (g9 [(i p.f9),(i p.c8),(i p.g7),(i p.d9)] (0+(s.is7.toNat*1))))) (sl (inB s.is7 4) (sl ((Nat.ble ((0+(s.is7.toNat*1))+1) 4)&&(R5 [(CK.int .i64)] (g9 [(i p.I5),(i p.I6),(i p.I7),(i p.I8)] (0+(s.is7.toNat*1))))) (sl (decide ((toI (hdA (g9 [(i p.f9),(i p.c8),(i p.g7),(i p.d9)] (0+(s.is7.toNat*1))))) > (toI (hdA (g9 [(i p.I5),(i p.I6),(i p.I7),(i p.I8)] (0+(s.is7.toNat*1))))))) (e 2) (k ⟨(W (s.is7+1))⟩)) z) z) z) z)) z) z) z) z) (e 3))
noncomputable def G5 (p:qa9) (s:M6):Stp M6:=Q9 .next .exit .fail p s
noncomputable def Va1:Lo qa9 M6:=⟨En Fb2,0,ne3,[1,1,1,0,1,4,4],[5,6,7],.p,[⟨(ru2 5 ((.s (.o (.ptr 0 0 0 0)))::((.s (.o (.ptr 1 0 0 0)))::((.s (.o (.int .i64)))::(ru2 42 []))))),[⟨0,4,true,(some [[(.o (.int .i64)),(.o (.int .i64)),(.o (.int .i64)),(.o (.int .i64))]])⟩,⟨0,4,true,(some [[(.o (.int .i64)),(.o (.int .i64)),(.o (.int .i64)),(.o (.int .i64))]])⟩],fun a H=>(⟨(toI (slT (rwT (elT H 0) 0) 0)),(toI (slT (rwT (elT H 0) 0) 1)),(toI (slT (rwT (elT H 0) 0) 2)),(toI (slT (rwT (elT H 0) 0) 3)),(toI (slT (rwT (elT H 1) 0) 0)),(toI (slT (rwT (elT H 1) 0) 1)),(toI (slT (rwT (elT H 1) 0) 2)),(toI (slT (rwT (elT H 1) 0) 3))⟩,⟨(toI (slT a 7))⟩)⟩],G5,[(none,fun p s=>⟨[(i (-1))],[]⟩),(none,fun p s=>⟨[(i 1)],[]⟩),(some 0,fun p s=>⟨(ra 5 ((.ptr 0 0 0 0)::((.ptr 1 0 0 0)::((i s.is7)::(ra 24 ((i s.is7)::((b (decide (s.is7 < 4)))::(ra 16 [])))))))),[⟨0,4,[[(i p.f9),(i p.c8),(i p.g7),(i p.d9)]],true,false,0⟩,⟨0,4,[[(i p.I5),(i p.I6),(i p.I7),(i p.I8)]],true,false,0⟩]⟩)],hc3⟩
theorem hc5:Va1.Ok:=Lo.ok [] (by kernel_rfl) .nil rfl (.cons (fun a H=>by kernel_rfl) .nil) fun p s=>(.of @Q9 (fun F _ _ _ _ _=>by unfold Q9;(repeat' apply o0 (f:=F))<;>rfl) (by kernel_rfl))
noncomputable def ka2 (x:Pln) (y:Pln):Option (b7×List b8):=let t1:=(lp (G5 (⟨x.n.x,x.n.y,x.n.z,x.b,y.n.x,y.n.y,y.n.z,y.b⟩:qa9)) (⟨0⟩:M6));(sl (Nat.beq t1.1 1) (some ((i (-1)),[])) (sl (Nat.beq t1.1 2) (some ((i 1),[])) (sl (Nat.beq t1.1 3) (some ((i 0),[])) none)))
noncomputable def ka3 (x:Pln) (y:Pln):Int:=P4 (one r1I) (ka2 x y)
noncomputable def mb3 (x:Pln) (y:Pln):Bool:=okO (one r1I) (ka2 x y)
noncomputable def Nb7:Sum:=la2 (W9 tP) (W9 tP) (fun x y=>.guard (mb3 x y) (.ret ((one r1I).enc (ka3 x y),[])))
theorem Bc2:j6 prog G 180 Nb7:=nb9 (bd Oe7 oc6) (one r1I) (o:=ka2) fun x y=>Da2 (.s .p (.s .p (.s .p (.s (.s .p (.b (.u Va1.ls))) .p)))) [Va1.pr] (by kernel_rfl) (.cons hc5 .nil) (by kernel_rfl)
end Go.Ev.Ce
end
section
namespace Go.Ev.Ce
open Go Go.Ev Go.Ev.L Go.Proofs
set_option maxRecDepth 100000
noncomputable def Ra8:List (Nat×Sum):=[(115,Oa6),(194,Rb8)]
theorem Yc2:l5 prog G Ra8:=⟨db2,lc3,trivial⟩
structure pa5 where
 f0:List V3
 is3:Int
 is4:Int
 is5:Int
 bs7:Bool
 f9:Int
 c8:Int
 g7:Int
 d9:Int
structure ba9 where
 is8:Int
noncomputable def Jc2 (p:pa5) (s:ba9):St:=⟨((eL tV p.f0)::(.unk::(.unk::((i p.is3)::((i p.is4)::((i p.is5)::((.ptr 0 0 0 0)::((b p.bs7)::((i s.is8)::(ra 48 [])))))))))),[⟨0,4,[[(i p.f9),(i p.c8),(i p.g7),(i p.d9)]],true,false,0⟩]⟩
noncomputable def X7 {α:Type} (k:ba9→α) (e:Nat→α) (z:α) (p:pa5) (s:ba9):α:=let t1:=(Na0 (⟨(⟨p.f9,p.c8,p.g7⟩:V3),p.d9⟩:Pln) (gL tV p.f0 s.is8.toNat));(sl (decide (s.is8 < (↑(List.length p.f0):Int))) (sl p.bs7 (sl (inB s.is8 (List.length p.f0)) (sl (ub7 (⟨(⟨p.f9,p.c8,p.g7⟩:V3),p.d9⟩:Pln) (gL tV p.f0 s.is8.toNat)) (sl (t1 != 0) (e 1) (k ⟨(W (s.is8+1))⟩)) z) z) (e 2)) (e 3))
noncomputable def B3 (p:pa5) (s:ba9):Stp ba9:=X7 .next .exit .fail p s
noncomputable def ub8:Lo pa5 ba9:=⟨En Ra8,0,id9,[1,0,1,4,4,1,0,4,1,4,4,1,0,4,1,4,4,1,0,4,1,1,4,4],[0,3,4,5,6,7,8],.p,[⟨((.s (.c 3 (nL tV)))::((.s (.o .unk))::((.s (.o .unk))::((.s (.o (.int .i64)))::((.s (.o (.int .i64)))::((.s (.o (.int .i64)))::((.s (.o (.ptr 0 0 0 0)))::((.s (.o .bool))::((.s (.o (.int .i64)))::(ru2 48 [])))))))))),[⟨0,4,true,(some [[(.o (.int .i64)),(.o (.int .i64)),(.o (.int .i64)),(.o (.int .i64))]])⟩],fun a H=>(⟨(rL tV (slT a 0)),(toI (slT a 3)),(toI (slT a 4)),(toI (slT a 5)),(toB (slT a 7)),(toI (slT (rwT (elT H 0) 0) 0)),(toI (slT (rwT (elT H 0) 0) 1)),(toI (slT (rwT (elT H 0) 0) 2)),(toI (slT (rwT (elT H 0) 0) 3))⟩,⟨(toI (slT a 8))⟩)⟩],B3,[(none,fun p s=>⟨[(b false)],[]⟩),(some 6,fun p s=>⟨((eL tV p.f0)::(.unk::(.unk::((i p.is3)::((i p.is4)::((i p.is5)::((.ptr 0 0 0 0)::((b p.bs7)::((i s.is8)::(ra 32 ((i s.is8)::((eL tV p.f0)::((i (↑(List.length p.f0):Int))::((b (decide (s.is8 < (↑(List.length p.f0):Int))))::((b true)::((b p.bs7)::((b p.bs7)::(ra 9 [])))))))))))))))))),[⟨0,4,[[(i p.f9),(i p.c8),(i p.g7),(i p.d9)]],true,false,0⟩]⟩),(some 6,fun p s=>⟨((eL tV p.f0)::(.unk::(.unk::((i p.is3)::((i p.is4)::((i p.is5)::((.ptr 0 0 0 0)::((b p.bs7)::((i s.is8)::(ra 32 ((i s.is8)::((eL tV p.f0)::((i (↑(List.length p.f0):Int))::((b (decide (s.is8 < (↑(List.length p.f0):Int))))::((b false)::(u::((b false)::(ra 9 [])))))))))))))))))),[⟨0,4,[[(i p.f9),(i p.c8),(i p.g7),(i p.d9)]],true,false,0⟩]⟩)],Jc2⟩
theorem Jc3:ub8.Ok:=Lo.ok [] (by kernel_rfl) .nil rfl (.cons (fun a H=>by kernel_rfl) .nil) fun p s=>(.of @X7 (fun F _ _ _ _ _=>by unfold X7;(repeat' apply o0 (f:=F))<;>rfl) (by kernel_rfl))
structure Ia9 where
 is3:Int
 is4:Int
structure ca0 where
 f0:List V3
 is5:Int
noncomputable def Jc4 (p:Ia9) (s:ca0):St:=⟨((eL tV s.f0)::(.unk::(.unk::((i p.is3)::((i p.is4)::((i s.is5)::(ra 51 []))))))),[]⟩
noncomputable def fa2 {α:Type} (k:ca0→α) (e:Nat→α) (z:α) (p:Ia9) (s:ca0):α:=let t1:=(ka0 (gL tV s.f0 p.is3.toNat) (gL tV s.f0 p.is4.toNat) (gL tV s.f0 s.is5.toNat));let t2:=(lp (B3 (⟨(rt tV s.f0),p.is3,p.is4,s.is5,t1.2,t1.1.n.x,t1.1.n.y,t1.1.n.z,t1.1.b⟩:pa5)) (⟨0⟩:ba9));(sl (decide (s.is5 < p.is4)) (sl (inB p.is3 (List.length s.f0)) (sl (inB p.is4 (List.length s.f0)) (sl (inB s.is5 (List.length s.f0)) (sl (ka1 (gL tV s.f0 p.is3.toNat) (gL tV s.f0 p.is4.toNat) (gL tV s.f0 s.is5.toNat)) (sl ((cnE tV s.f0)&&true) (sl (Nat.beq t2.1 1) (e 1) (sl (Nat.beq t2.1 2) (k ⟨(rt tV s.f0),(W (s.is5+1))⟩) (sl (Nat.beq t2.1 3) (k ⟨(rt tV s.f0),(W (s.is5+1))⟩) z))) z) z) z) z) z) (e 2))
noncomputable def O9 (p:Ia9) (s:ca0):Stp ca0:=fa2 .next .exit .fail p s
noncomputable def ub9:Lo Ia9 ca0:=⟨En Ra8,0,id9,[1,0,1,4,4,1,0,4,1,4,4,1,0,4,1,4,4],[0,3,4,5],(.s .p (.s (.b (.s .p (.s .p (.b (.u ub8.ls))))) .p)),[⟨((.s (.c 3 (nL tV)))::((.s (.o .unk))::((.s (.o .unk))::((.s (.o (.int .i64)))::((.s (.o (.int .i64)))::((.s (.o (.int .i64)))::(ru2 51 []))))))),[],fun a H=>(⟨(toI (slT a 3)),(toI (slT a 4))⟩,⟨(rL tV (slT a 0)),(toI (slT a 5))⟩)⟩],O9,[(none,fun p s=>⟨[(b false)],[]⟩),(some 4,fun p s=>⟨((eL tV s.f0)::(.unk::(.unk::((i p.is3)::((i p.is4)::((i s.is5)::(ra 14 ((i s.is5)::((i p.is4)::((b (decide (s.is5 < p.is4)))::(ra 34 []))))))))))),[]⟩)],Jc4⟩
theorem Jc5:ub9.Ok:=Lo.ok [ub8.pr] (by kernel_rfl) (.cons Jc3 .nil) rfl (.cons (fun a H=>by kernel_rfl) .nil) fun p s=>(.of @fa2 (fun F _ _ _ _ _=>by unfold fa2;(repeat' apply o0 (f:=F))<;>rfl) (by kernel_rfl))
structure Ja0 where
 is3:Int
structure ca1 where
 f0:List V3
 is4:Int
noncomputable def Jc6 (p:Ja0) (s:ca1):St:=⟨((eL tV s.f0)::(.unk::(.unk::((i p.is3)::((i s.is4)::(ra 52 [])))))),[]⟩
noncomputable def fa3 {α:Type} (k:ca1→α) (e:Nat→α) (z:α) (p:Ja0) (s:ca1):α:=let t1:=(lp (O9 (⟨p.is3,s.is4⟩:Ia9)) (⟨(rt tV s.f0),0⟩:ca0));(sl (decide (s.is4 < p.is3)) (sl ((cnE tV s.f0)&&true) (sl (Nat.beq t1.1 1) (e 1) (sl (Nat.beq t1.1 2) (k ⟨t1.2.f0,(W (s.is4+1))⟩) z)) z) (e 2))
noncomputable def P0 (p:Ja0) (s:ca1):Stp ca1:=fa3 .next .exit .fail p s
noncomputable def vb0:Lo Ja0 ca1:=⟨En Ra8,0,id9,[1,0,1,4,4,1,0,4,1,4,4],[0,3,4],(.s .p (.s (.b (.s .p (.b (.u ub9.ls)))) .p)),[⟨((.s (.c 3 (nL tV)))::((.s (.o .unk))::((.s (.o .unk))::((.s (.o (.int .i64)))::((.s (.o (.int .i64)))::(ru2 52 [])))))),[],fun a H=>(⟨(toI (slT a 3))⟩,⟨(rL tV (slT a 0)),(toI (slT a 4))⟩)⟩],P0,[(none,fun p s=>⟨[(b false)],[]⟩),(some 2,fun p s=>⟨((eL tV s.f0)::(.unk::(.unk::((i p.is3)::((i s.is4)::(ra 10 ((i s.is4)::((i p.is3)::((b (decide (s.is4 < p.is3)))::(ra 39 [])))))))))),[]⟩)],Jc6⟩
theorem Jc7:vb0.Ok:=Lo.ok [ub9.pr] (by kernel_rfl) (.cons Jc5 .nil) rfl (.cons (fun a H=>by kernel_rfl) .nil) fun p s=>(.of @fa3 (fun F _ _ _ _ _=>by unfold fa3;(repeat' apply o0 (f:=F))<;>rfl) (by kernel_rfl))
structure Ja1 where
structure ca2 where
 f0:List V3
 is3:Int
noncomputable def Jc8 (p:Ja1) (s:ca2):St:=⟨((eL tV s.f0)::(.unk::(.unk::((i s.is3)::(ra 53 []))))),[]⟩
noncomputable def fa4 {α:Type} (k:ca2→α) (e:Nat→α) (z:α) (p:Ja1) (s:ca2):α:=let t1:=(lp (P0 (⟨s.is3⟩:Ja0)) (⟨(rt tV s.f0),0⟩:ca1));(sl (decide (s.is3 < (↑(List.length s.f0):Int))) (sl ((cnE tV s.f0)&&true) (sl (Nat.beq t1.1 1) (e 1) (sl (Nat.beq t1.1 2) (k ⟨t1.2.f0,(W (s.is3+1))⟩) z)) z) (e 2))
noncomputable def P1 (p:Ja1) (s:ca2):Stp ca2:=fa4 .next .exit .fail p s
noncomputable def vb1:Lo Ja1 ca2:=⟨En Ra8,0,id9,[1,0,1,4,4],[0,3],(.s .p (.s (.b (.s .p (.b (.u vb0.ls)))) .p)),[⟨((.s (.c 3 (nL tV)))::((.s (.o .unk))::((.s (.o .unk))::((.s (.o (.int .i64)))::(ru2 53 []))))),[],fun a H=>(⟨⟩,⟨(rL tV (slT a 0)),(toI (slT a 3))⟩)⟩],P1,[(none,fun p s=>⟨[(b false)],[]⟩),(some 0,fun p s=>⟨((eL tV s.f0)::(.unk::(.unk::((i s.is3)::(ra 5 ((i s.is3)::((eL tV s.f0)::((i (↑(List.length s.f0):Int))::((b (decide (s.is3 < (↑(List.length s.f0):Int))))::(ra 44 [])))))))))),[]⟩)],Jc8⟩
theorem Jc9:vb1.Ok:=Lo.ok [vb0.pr] (by kernel_rfl) (.cons Jc7 .nil) rfl (.cons (fun a H=>by kernel_rfl) .nil) fun p s=>(.of @fa4 (fun F _ _ _ _ _=>by unfold fa4;(repeat' apply o0 (f:=F))<;>rfl) (by kernel_rfl))
noncomputable def Da9 (x:List V3):Option (b7×List b8):=let t1:=(lp (P1 (⟨⟩:Ja1)) (⟨(rt tV x),0⟩:ca2));(sl ((cnE tV x)&&true) (sl (Nat.beq t1.1 1) (some ((b false),[])) (sl (Nat.beq t1.1 2) (some ((b true),[])) none)) none)
noncomputable def Ea0 (x:List V3):Bool:=P4 (one r1B) (Da9 x)
noncomputable def Na1 (x:List V3):Bool:=okO (one r1B) (Da9 x)
noncomputable def Rb9:Sum:=ja7 (ia2 tV) (fun x=>.guard (Na1 x) (.ret ((one r1B).enc (Ea0 x),[])))
theorem lc4:j6 prog G 124 Rb9:=Da0 (bd Me7 Yc2) (one r1B) (o:=Da9) fun x=>Da2 (.s .p (.s (.s .p (.b (.u vb1.ls))) .p)) [vb1.pr] (by kernel_rfl) (.cons Jc9 .nil) (by kernel_rfl)
noncomputable def Zb4:List (Nat×Sum):=[(109,Zb3),(124,Rb9)]
theorem Kc0:l5 prog G Zb4:=⟨gc9,lc4,trivial⟩
structure Ba0 where
 f0:List V3
structure L2 where
 is3:Int
noncomputable def Bc3 (p:Ba0) (s:L2):St:=⟨((eL tV p.f0)::(.unk::(.unk::((i s.is3)::(ra 17 []))))),[]⟩
noncomputable def Z9 {α:Type} (k:L2→α) (e:Nat→α) (z:α) (p:Ba0) (s:L2):α:=let t1:=(Ra6 (gL tV p.f0 s.is3.toNat));(sl (decide (s.is3 < (↑(List.length p.f0):Int))) (sl (inB s.is3 (List.length p.f0)) (sl (Ra7 (gL tV p.f0 s.is3.toNat)) (sl (!t1) (e 1) (k ⟨(W (s.is3+1))⟩)) z) z) (e 2))
noncomputable def X8 (p:Ba0) (s:L2):Stp L2:=Z9 .next .exit .fail p s
noncomputable def mb4:Lo Ba0 L2:=⟨En Zb4,0,ne4,[1,1,0,1,4,4],[0,3],.p,[⟨((.s (.c 3 (nL tV)))::((.s (.o .unk))::((.s (.o .unk))::((.s (.o (.int .i64)))::(ru2 17 []))))),[],fun a H=>(⟨(rL tV (slT a 0))⟩,⟨(toI (slT a 3))⟩)⟩],X8,[(none,fun p s=>⟨[(i 3)],[]⟩),(some 0,fun p s=>⟨((eL tV p.f0)::(.unk::(.unk::((i s.is3)::(ra 3 ((i s.is3)::((eL tV p.f0)::((i (↑(List.length p.f0):Int))::((b (decide (s.is3 < (↑(List.length p.f0):Int))))::(ra 10 [])))))))))),[]⟩)],Bc3⟩
theorem Bc4:mb4.Ok:=Lo.ok [] (by kernel_rfl) .nil rfl (.cons (fun a H=>by kernel_rfl) .nil) fun p s=>(.of @Z9 (fun F _ _ _ _ _=>by unfold Z9;(repeat' apply o0 (f:=F))<;>rfl) (by kernel_rfl))
noncomputable def va9 (x:List V3):Option (b7×List b8):=let t1:=(lp (X8 (⟨(rt tV x)⟩:Ba0)) (⟨0⟩:L2));let t2:=(Ea0 (rt tV (rt tV x)));(sl (decide ((↑(List.length x):Int) > 48)) (some ((i 2),[])) (sl ((cnE tV x)&&true) (sl (Nat.beq t1.1 1) (some ((i 3),[])) (sl (Nat.beq t1.1 2) (sl (okE tV (rt tV x)) (sl (Na1 (rt tV (rt tV x))) (sl t2 (some ((i 11),[])) (some ((i 0),[]))) none) none) none)) none))
noncomputable def Ra9 (x:List V3):Int:=P4 (one r1I) (va9 x)
noncomputable def Fb3 (x:List V3):Bool:=okO (one r1I) (va9 x)
noncomputable def lc5:Sum:=ja7 (ia2 tV) (fun x=>.guard (Fb3 x) (.ret ((one r1I).enc (Ra9 x),[])))
theorem Yc3:j6 prog G 182 lc5:=Da0 (bd Oe9 Kc0) (one r1I) (o:=va9) fun x=>Da2 (.s .p (.s .p (.s (.s .p (.b (.u mb4.ls))) .p))) [mb4.pr] (by kernel_rfl) (.cons Bc4 .nil) (by kernel_rfl)
noncomputable def Zb5:List (Nat×Sum):=[(194,Rb8)]
theorem Kc1:l5 prog G Zb5:=⟨lc3,trivial⟩
structure Ba1 where
 cc4:List V3
 f9:Int
 c8:Int
 g7:Int
 d9:Int
structure L3 where
 is5:Int
noncomputable def Bc5 (p:Ba1) (s:L3):St:=⟨(.unk::((eL tV p.cc4)::((.ptr 0 0 0 0)::(.unk::(.unk::((i s.is5)::(ra 13 []))))))),[⟨0,4,[[(i p.f9),(i p.c8),(i p.g7),(i p.d9)]],true,false,0⟩]⟩
noncomputable def aa0 {α:Type} (k:L3→α) (e:Nat→α) (z:α) (p:Ba1) (s:L3):α:=let t1:=(Na0 (⟨(⟨p.f9,p.c8,p.g7⟩:V3),p.d9⟩:Pln) (gL tV p.cc4 s.is5.toNat));(sl (decide (s.is5 < (↑(List.length p.cc4):Int))) (sl (inB s.is5 (List.length p.cc4)) (sl (ub7 (⟨(⟨p.f9,p.c8,p.g7⟩:V3),p.d9⟩:Pln) (gL tV p.cc4 s.is5.toNat)) (sl (decide (t1 > 0)) (e 1) (k ⟨(W (s.is5+1))⟩)) z) z) (e 2))
noncomputable def X9 (p:Ba1) (s:L3):Stp L3:=aa0 .next .exit .fail p s
noncomputable def mb5:Lo Ba1 L3:=⟨En Zb5,0,ne5,[1,0,1,4,4],[1,2,5],.p,[⟨((.s (.o .unk))::((.s (.c 3 (nL tV)))::((.s (.o (.ptr 0 0 0 0)))::((.s (.o .unk))::((.s (.o .unk))::((.s (.o (.int .i64)))::(ru2 13 []))))))),[⟨0,4,true,(some [[(.o (.int .i64)),(.o (.int .i64)),(.o (.int .i64)),(.o (.int .i64))]])⟩],fun a H=>(⟨(rL tV (slT a 1)),(toI (slT (rwT (elT H 0) 0) 0)),(toI (slT (rwT (elT H 0) 0) 1)),(toI (slT (rwT (elT H 0) 0) 2)),(toI (slT (rwT (elT H 0) 0) 3))⟩,⟨(toI (slT a 5))⟩)⟩],X9,[(none,fun p s=>⟨[(b false)],[]⟩),(some 0,fun p s=>⟨(.unk::((eL tV p.cc4)::((.ptr 0 0 0 0)::(.unk::(.unk::((i s.is5)::((i s.is5)::((eL tV p.cc4)::((i (↑(List.length p.cc4):Int))::((b (decide (s.is5 < (↑(List.length p.cc4):Int))))::(ra 9 []))))))))))),[⟨0,4,[[(i p.f9),(i p.c8),(i p.g7),(i p.d9)]],true,false,0⟩]⟩)],Bc5⟩
theorem Bc6:mb5.Ok:=Lo.ok [] (by kernel_rfl) .nil rfl (.cons (fun a H=>by kernel_rfl) .nil) fun p s=>(.of @aa0 (fun F _ _ _ _ _=>by unfold aa0;(repeat' apply o0 (f:=F))<;>rfl) (by kernel_rfl))
noncomputable def wa0 (x:Pln) (y:List V3):Option (b7×List b8):=let t1:=(lp (X9 (⟨(rt tV y),x.n.x,x.n.y,x.n.z,x.b⟩:Ba1)) (⟨0⟩:L3));(sl ((cnE tV y)&&true) (sl (Nat.beq t1.1 1) (some ((b false),[])) (sl (Nat.beq t1.1 2) (some ((b true),[])) none)) none)
noncomputable def pa0 (x:Pln) (y:List V3):Bool:=P4 (one r1B) (wa0 x y)
noncomputable def da5 (x:Pln) (y:List V3):Bool:=okO (one r1B) (wa0 x y)
noncomputable def lc6:Sum:=la2 (W9 tP) (ia2 tV) (fun x y=>.guard (da5 x y) (.ret ((one r1B).enc (pa0 x y),[])))
theorem Yc4:j6 prog G 183 lc6:=nb9 (bd Pe0 Kc1) (one r1B) (o:=wa0) fun x y=>Da2 (.s .p (.s (.s .p (.b (.u mb5.ls))) .p)) [mb5.pr] (by kernel_rfl) (.cons Bc6 .nil) (by kernel_rfl)
noncomputable def Bc7:List (Nat×Sum):=[(180,Nb7)]
theorem md6:l5 prog G Bc7:=⟨Bc2,trivial⟩
structure Sa0 where
 c9:List Pln
 f9:Int
 c8:Int
 g7:Int
 d9:Int
structure Y0 where
 is5:Int
noncomputable def Yc5 (p:Sa0) (s:Y0):St:=⟨((eL tP p.c9)::(.unk::(.unk::((.ptr 0 0 0 0)::(.unk::((i s.is5)::(ra 42 []))))))),[⟨0,4,[[(i p.f9),(i p.c8),(i p.g7),(i p.d9)]],true,false,0⟩]⟩
noncomputable def ka4 {α:Type} (k:Y0→α) (e:Nat→α) (z:α) (p:Sa0) (s:Y0):α:=let t1:=(ka3 (gL tP p.c9 s.is5.toNat) (⟨(⟨p.f9,p.c8,p.g7⟩:V3),p.d9⟩:Pln));(sl (decide (s.is5 < (↑(List.length p.c9):Int))) (sl (inB s.is5 (List.length p.c9)) (sl (mb3 (gL tP p.c9 s.is5.toNat) (⟨(⟨p.f9,p.c8,p.g7⟩:V3),p.d9⟩:Pln)) (sl (decide (t1 < 0)) (k ⟨(W (s.is5+1))⟩) (e 1)) z) z) (e 2))
noncomputable def W5 (p:Sa0) (s:Y0):Stp Y0:=ka4 .next .exit .fail p s
noncomputable def Fb4:Lo Sa0 Y0:=⟨En Bc7,0,ne6,[1,1,0,4,4],[0,3,5],.p,[⟨((.s (.c 4 (nL tP)))::((.s (.o .unk))::((.s (.o .unk))::((.s (.o (.ptr 0 0 0 0)))::((.s (.o .unk))::((.s (.o (.int .i64)))::(ru2 42 []))))))),[⟨0,4,true,(some [[(.o (.int .i64)),(.o (.int .i64)),(.o (.int .i64)),(.o (.int .i64))]])⟩],fun a H=>(⟨(rL tP (slT a 0)),(toI (slT (rwT (elT H 0) 0) 0)),(toI (slT (rwT (elT H 0) 0) 1)),(toI (slT (rwT (elT H 0) 0) 2)),(toI (slT (rwT (elT H 0) 0) 3))⟩,⟨(toI (slT a 5))⟩)⟩],W5,[(some 0,fun p s=>let t1:=(ka3 (gL tP p.c9 s.is5.toNat) (⟨(⟨p.f9,p.c8,p.g7⟩:V3),p.d9⟩:Pln));⟨((eL tP p.c9)::(.unk::(.unk::((.ptr 0 0 0 0)::(.unk::((i s.is5)::(.unk::((i s.is5)::((eL tP p.c9)::((i (↑(List.length p.c9):Int))::((b (decide (s.is5 < (↑(List.length p.c9):Int))))::((b true)::((eL tP p.c9)::((i s.is5)::((.tptr [(i (gL tP p.c9 s.is5.toNat).n.x),(i (gL tP p.c9 s.is5.toNat).n.y),(i (gL tP p.c9 s.is5.toNat).n.z),(i (gL tP p.c9 s.is5.toNat).b)])::((.agg [(i (gL tP p.c9 s.is5.toNat).n.x),(i (gL tP p.c9 s.is5.toNat).n.y),(i (gL tP p.c9 s.is5.toNat).n.z),(i (gL tP p.c9 s.is5.toNat).b)])::((.agg [(i p.f9),(i p.c8),(i p.g7),(i p.d9)])::((i t1)::((b (decide (t1 < 0)))::((b (decide (t1 < 0)))::(ra 28 []))))))))))))))))))))),[⟨0,4,[[(i p.f9),(i p.c8),(i p.g7),(i p.d9)]],true,false,0⟩]⟩),(some 0,fun p s=>⟨((eL tP p.c9)::(.unk::(.unk::((.ptr 0 0 0 0)::(.unk::((i s.is5)::(.unk::((i s.is5)::((eL tP p.c9)::((i (↑(List.length p.c9):Int))::((b (decide (s.is5 < (↑(List.length p.c9):Int))))::((b false)::(u::(u::(u::(u::(u::(u::(u::((b false)::(ra 28 []))))))))))))))))))))),[⟨0,4,[[(i p.f9),(i p.c8),(i p.g7),(i p.d9)]],true,false,0⟩]⟩)],Yc5⟩
theorem Yc6:Fb4.Ok:=Lo.ok [] (by kernel_rfl) .nil rfl (.cons (fun a H=>by kernel_rfl) .nil) fun p s=>(.of @ka4 (fun F _ _ _ _ _=>by unfold ka4;(repeat' apply o0 (f:=F))<;>rfl) (by kernel_rfl))
noncomputable def Na2 (x:List Pln) (y:Pln):Option (b7×List b8):=let t1:=(lp (W5 (⟨(rt tP x),y.n.x,y.n.y,y.n.z,y.b⟩:Sa0)) (⟨0⟩:Y0));let a0:=(n7 (fun k=>(fun k=>(tP).row (gL tP (rt tP x) k)) (0+k)) (List.range (t1.2.is5.toNat - 0)));let a1:=(n7 (fun k=>(fun k=>(tP).row (gL tP (rt tP x) k)) (t1.2.is5.toNat+k)) (List.range ((List.length (rt tP x)) - t1.2.is5.toNat)));let a2:=(inB t1.2.is5 ((List.length (rt tP x))+1));let a3:=(Nat.beq (0+(len a0)) (len (app [] a0))&&Nat.ble (((0+(len a0))+1)*32) room);let a4:=(((0+(len a0))+1)+(len a1));let a5:=(gL tP (rt tP x) t1.2.is5.toNat);let a6:=(Nat.beq 1 1&&Nat.ble ((1+(len a1))*32) room);let a7:=(Nat.beq 0 0&&Nat.ble ((0+(len a0))*32) room);(sl ((cnE tP x)&&true) (sl (Nat.beq t1.1 1) (sl (decide (t1.2.is5 < (↑(List.length (rt tP x)):Int))) (sl (inB t1.2.is5 (List.length (rt tP x))) (sl ((a5.n.x==y.n.x)&&((a5.n.y==y.n.y)&&((a5.n.z==y.n.z)&&((a5.b==y.b)&&true)))) (some ((eL tP (rt tP x)),[])) (sl a2 (sl (Nat.beq (len a0) 0) (sl a2 (sl (Nat.beq (len a1) 0) (some ((.sl 0 0 1 0),[⟨50,4,[[(i y.n.x),(i y.n.y),(i y.n.z),(i y.b)]],true,false,0⟩])) (sl a6 (some ((.sl 0 0 (1+(len a1)) 0),[⟨50,4,(app [[(i y.n.x),(i y.n.y),(i y.n.z),(i y.b)]] a1),true,false,0⟩])) none)) none) (sl a7 (sl a3 (sl a2 (sl (Nat.beq (len a1) 0) (some ((.sl 0 0 ((0+(len a0))+1) 0),[⟨50,4,(app (app [] a0) [[(i y.n.x),(i y.n.y),(i y.n.z),(i y.b)]]),true,false,0⟩])) (sl (Nat.beq ((0+(len a0))+1) (len (app (app [] a0) [[(i y.n.x),(i y.n.y),(i y.n.z),(i y.b)]]))&&Nat.ble (a4*32) room) (some ((.sl 0 0 a4 0),[⟨50,4,(app (app (app [] a0) [[(i y.n.x),(i y.n.y),(i y.n.z),(i y.b)]]) a1),true,false,0⟩])) none)) none) none) none)) none)) none) (sl a2 (sl (Nat.beq (len a0) 0) (sl a2 (sl (Nat.beq (len a1) 0) (some ((.sl 0 0 1 0),[⟨50,4,[[(i y.n.x),(i y.n.y),(i y.n.z),(i y.b)]],true,false,0⟩])) (sl a6 (some ((.sl 0 0 (1+(len a1)) 0),[⟨50,4,(app [[(i y.n.x),(i y.n.y),(i y.n.z),(i y.b)]] a1),true,false,0⟩])) none)) none) (sl a7 (sl a3 (sl a2 (sl (Nat.beq (len a1) 0) (some ((.sl 0 0 ((0+(len a0))+1) 0),[⟨50,4,(app (app [] a0) [[(i y.n.x),(i y.n.y),(i y.n.z),(i y.b)]]),true,false,0⟩])) (sl (Nat.beq ((0+(len a0))+1) (len (app (app [] a0) [[(i y.n.x),(i y.n.y),(i y.n.z),(i y.b)]]))&&Nat.ble (a4*32) room) (some ((.sl 0 0 a4 0),[⟨50,4,(app (app (app [] a0) [[(i y.n.x),(i y.n.y),(i y.n.z),(i y.b)]]) a1),true,false,0⟩])) none)) none) none) none)) none)) (sl (Nat.beq t1.1 2) (sl (decide (t1.2.is5 < (↑(List.length (rt tP x)):Int))) (sl (inB t1.2.is5 (List.length (rt tP x))) (sl ((a5.n.x==y.n.x)&&((a5.n.y==y.n.y)&&((a5.n.z==y.n.z)&&((a5.b==y.b)&&true)))) (some ((eL tP (rt tP x)),[])) (sl a2 (sl (Nat.beq (len a0) 0) (sl a2 (sl (Nat.beq (len a1) 0) (some ((.sl 0 0 1 0),[⟨50,4,[[(i y.n.x),(i y.n.y),(i y.n.z),(i y.b)]],true,false,0⟩])) (sl a6 (some ((.sl 0 0 (1+(len a1)) 0),[⟨50,4,(app [[(i y.n.x),(i y.n.y),(i y.n.z),(i y.b)]] a1),true,false,0⟩])) none)) none) (sl a7 (sl a3 (sl a2 (sl (Nat.beq (len a1) 0) (some ((.sl 0 0 ((0+(len a0))+1) 0),[⟨50,4,(app (app [] a0) [[(i y.n.x),(i y.n.y),(i y.n.z),(i y.b)]]),true,false,0⟩])) (sl (Nat.beq ((0+(len a0))+1) (len (app (app [] a0) [[(i y.n.x),(i y.n.y),(i y.n.z),(i y.b)]]))&&Nat.ble (a4*32) room) (some ((.sl 0 0 a4 0),[⟨50,4,(app (app (app [] a0) [[(i y.n.x),(i y.n.y),(i y.n.z),(i y.b)]]) a1),true,false,0⟩])) none)) none) none) none)) none)) none) (sl a2 (sl (Nat.beq (len a0) 0) (sl a2 (sl (Nat.beq (len a1) 0) (some ((.sl 0 0 1 0),[⟨50,4,[[(i y.n.x),(i y.n.y),(i y.n.z),(i y.b)]],true,false,0⟩])) (sl a6 (some ((.sl 0 0 (1+(len a1)) 0),[⟨50,4,(app [[(i y.n.x),(i y.n.y),(i y.n.z),(i y.b)]] a1),true,false,0⟩])) none)) none) (sl a7 (sl a3 (sl a2 (sl (Nat.beq (len a1) 0) (some ((.sl 0 0 ((0+(len a0))+1) 0),[⟨50,4,(app (app [] a0) [[(i y.n.x),(i y.n.y),(i y.n.z),(i y.b)]]),true,false,0⟩])) (sl (Nat.beq ((0+(len a0))+1) (len (app (app [] a0) [[(i y.n.x),(i y.n.y),(i y.n.z),(i y.b)]]))&&Nat.ble (a4*32) room) (some ((.sl 0 0 a4 0),[⟨50,4,(app (app (app [] a0) [[(i y.n.x),(i y.n.y),(i y.n.z),(i y.b)]]) a1),true,false,0⟩])) none)) none) none) none)) none)) none)) none)
noncomputable def D8 (x:List Pln) (y:Pln):List Pln:=P4 (one (r1L tP)) (Na2 x y)
noncomputable def ha9 (x:List Pln) (y:Pln):Bool:=okO (one (r1L tP)) (Na2 x y)
noncomputable def Qc5:Sum:=la2 (ia2 tP) (W9 tP) (fun x y=>.guard (ha9 x y) (.ret ((one (r1L tP)).enc (D8 x y),[])))
theorem xd0:j6 prog G 184 Qc5:=nb9 (bd Pe1 md6) (one (r1L tP)) (o:=Na2) fun x y=>Da2 (.s .p (.s .p (.s (.b (.u Fb4.ls)) .p))) [Fb4.pr] (by kernel_rfl) (.cons Yc6 .nil) (by kernel_rfl)
noncomputable def Ya1:List (Nat×Sum):=[(182,lc5),(115,Oa6),(183,lc6),(184,Qc5),(119,Bc1)]
theorem Kc2:l5 prog G Ya1:=⟨Yc3,db2,Yc4,xd0,md4,trivial⟩
structure W6 where
 f0:List V3
 is6:Int
 is7:Int
structure s7 where
 ph:Nat
 is8:Int
 ga0:List Pln
noncomputable def oc7 (p:W6) (s:s7):St:=⟨((eL tV p.f0)::(ra 4 ((.v (.slice none 0 0))::((i p.is6)::((i p.is7)::((i s.is8)::(ra 56 []))))))),[]⟩
noncomputable def oc8 (p:W6) (s:s7):St:=⟨((eL tV p.f0)::(ra 4 ((eL tP s.ga0)::((i p.is6)::((i p.is7)::((i s.is8)::(ra 56 []))))))),[]⟩
noncomputable def Bc8 (p:W6) (s:s7):St:=(sel (Nat.beq s.ph 1) (oc8 p s) (oc7 p s))
noncomputable def F5 {α:Type} (k:s7→α) (e:Nat→α) (z:α) (p:W6) (s:s7):α:=let t1:=(ka0 (gL tV p.f0 p.is6.toNat) (gL tV p.f0 p.is7.toNat) (gL tV p.f0 s.is8.toNat));let t2:=(pa0 t1.1 (rt tV p.f0));let t3:=(D8 [] t1.1);let t4:=(Ma9 t1.1);let t5:=(pa0 t4 (rt tV p.f0));let t6:=(D8 (rt tP t3) t4);let t7:=(D8 [] t4);(sl (decide (s.is8 < p.is7)) (sl (inB p.is6 (List.length p.f0)) (sl (inB p.is7 (List.length p.f0)) (sl (inB s.is8 (List.length p.f0)) (sl (ka1 (gL tV p.f0 p.is6.toNat) (gL tV p.f0 p.is7.toNat) (gL tV p.f0 s.is8.toNat)) (sl (!t1.2) (k ⟨0,(W (s.is8+1)),[]⟩) (sl (okE tV p.f0) (sl (da5 t1.1 (rt tV p.f0)) (sl t2 (sl (ha9 [] t1.1) (sl (okE tV p.f0) (sl (da5 t4 (rt tV p.f0)) (sl t5 (sl (okE tP t3) (sl (ha9 (rt tP t3) t4) (k ⟨1,(W (s.is8+1)),t6⟩) z) z) (k ⟨1,(W (s.is8+1)),t3⟩)) z) z) z) (sl (okE tV p.f0) (sl (da5 t4 (rt tV p.f0)) (sl t5 (sl (ha9 [] t4) (k ⟨1,(W (s.is8+1)),t7⟩) z) (k ⟨0,(W (s.is8+1)),[]⟩)) z) z)) z) z)) z) z) z) z) (e 1))
noncomputable def F6 {α:Type} (k:s7→α) (e:Nat→α) (z:α) (p:W6) (s:s7):α:=let t1:=(ka0 (gL tV p.f0 p.is6.toNat) (gL tV p.f0 p.is7.toNat) (gL tV p.f0 s.is8.toNat));let t2:=(pa0 t1.1 (rt tV p.f0));let t3:=(D8 (rt tP s.ga0) t1.1);let t4:=(Ma9 t1.1);let t5:=(pa0 t4 (rt tV p.f0));let t6:=(D8 (rt tP t3) t4);let t7:=(D8 (rt tP s.ga0) t4);(sl (decide (s.is8 < p.is7)) (sl (inB p.is6 (List.length p.f0)) (sl (inB p.is7 (List.length p.f0)) (sl (inB s.is8 (List.length p.f0)) (sl (ka1 (gL tV p.f0 p.is6.toNat) (gL tV p.f0 p.is7.toNat) (gL tV p.f0 s.is8.toNat)) (sl (!t1.2) (k ⟨1,(W (s.is8+1)),s.ga0⟩) (sl (okE tV p.f0) (sl (da5 t1.1 (rt tV p.f0)) (sl t2 (sl (okE tP s.ga0) (sl (ha9 (rt tP s.ga0) t1.1) (sl (okE tV p.f0) (sl (da5 t4 (rt tV p.f0)) (sl t5 (sl (okE tP t3) (sl (ha9 (rt tP t3) t4) (k ⟨1,(W (s.is8+1)),t6⟩) z) z) (k ⟨1,(W (s.is8+1)),t3⟩)) z) z) z) z) (sl (okE tV p.f0) (sl (da5 t4 (rt tV p.f0)) (sl t5 (sl (okE tP s.ga0) (sl (ha9 (rt tP s.ga0) t4) (k ⟨1,(W (s.is8+1)),t7⟩) z) z) (k ⟨1,(W (s.is8+1)),s.ga0⟩)) z) z)) z) z)) z) z) z) z) (e 2))
noncomputable def R2 (p:W6) (s:s7):Stp s7:=(sel (Nat.beq s.ph 1) (F6 .next .exit .fail p s) (F5 .next .exit .fail p s))
noncomputable def mb6:Lo W6 s7:=⟨En Ya1,0,Bd6,[1,1,1,1,0,1,4,4,1,0,4,1,4,4,1,0,4,1,4,4],[0,5,6,7,8],.p,[⟨((.s (.c 3 (nL tV)))::(ru2 4 ((.s (.o .nil))::((.s (.o (.int .i64)))::((.s (.o (.int .i64)))::((.s (.o (.int .i64)))::(ru2 56 []))))))),[],fun a H=>(⟨(rL tV (slT a 0)),(toI (slT a 6)),(toI (slT a 7))⟩,⟨0,(toI (slT a 8)),[]⟩)⟩,⟨((.s (.c 3 (nL tV)))::(ru2 4 ((.s (.c 4 (nL tP)))::((.s (.o (.int .i64)))::((.s (.o (.int .i64)))::((.s (.o (.int .i64)))::(ru2 56 []))))))),[],fun a H=>(⟨(rL tV (slT a 0)),(toI (slT a 6)),(toI (slT a 7))⟩,⟨1,(toI (slT a 8)),(rL tP (slT a 5))⟩)⟩],R2,[(some 4,fun p s=>⟨((eL tV p.f0)::(ra 4 ((.v (.slice none 0 0))::((i p.is6)::((i p.is7)::((i s.is8)::(ra 18 ((i s.is8)::((i p.is7)::((b (decide (s.is8 < p.is7)))::(ra 35 []))))))))))),[]⟩),(some 4,fun p s=>⟨((eL tV p.f0)::(ra 4 ((eL tP s.ga0)::((i p.is6)::((i p.is7)::((i s.is8)::(ra 18 ((i s.is8)::((i p.is7)::((b (decide (s.is8 < p.is7)))::(ra 35 []))))))))))),[]⟩)],Bc8⟩
theorem Bc9:mb6.Ok:=Lo.ok [] (by kernel_rfl) .nil rfl (.cons (fun a H=>by kernel_rfl) (.cons (fun a H=>by kernel_rfl) .nil)) fun p s=>(.sel (Nat.beq s.ph 1) (.of @F6 (fun F _ _ _ _ _=>by unfold F6;(repeat' apply o0 (f:=F))<;>rfl) (by kernel_rfl)) (.of @F5 (fun F _ _ _ _ _=>by unfold F5;(repeat' apply o0 (f:=F))<;>rfl) (by kernel_rfl)))
structure W7 where
 is6:Int
structure s8 where
 ph:Nat
 f0:List V3
 is7:Int
 ga0:List Pln
noncomputable def oc9 (p:W7) (s:s8):St:=⟨((eL tV s.f0)::(ra 4 ((.v (.slice none 0 0))::((i p.is6)::((i s.is7)::(ra 57 [])))))),[]⟩
noncomputable def pc0 (p:W7) (s:s8):St:=⟨((eL tV s.f0)::(ra 4 ((eL tP s.ga0)::((i p.is6)::((i s.is7)::(ra 57 [])))))),[]⟩
noncomputable def Cc0 (p:W7) (s:s8):St:=(sel (Nat.beq s.ph 1) (pc0 p s) (oc9 p s))
noncomputable def F7 {α:Type} (k:s8→α) (e:Nat→α) (z:α) (p:W7) (s:s8):α:=let t1:=(lp (R2 (⟨(rt tV s.f0),p.is6,s.is7⟩:W6)) (⟨0,0,[]⟩:s7));(sl (decide (s.is7 < p.is6)) (sl ((cnE tV s.f0)&&true) (sl (Nat.beq t1.1 1) (k ⟨0,(rt tV s.f0),(W (s.is7+1)),[]⟩) (sl (Nat.beq t1.1 2) (k ⟨1,(rt tV s.f0),(W (s.is7+1)),t1.2.ga0⟩) z)) z) (e 1))
noncomputable def F8 {α:Type} (k:s8→α) (e:Nat→α) (z:α) (p:W7) (s:s8):α:=let t1:=(lp (R2 (⟨(rt tV s.f0),p.is6,s.is7⟩:W6)) (⟨1,0,(rt tP s.ga0)⟩:s7));(sl (decide (s.is7 < p.is6)) (sl ((cnE tV s.f0)&&((cnE tP s.ga0)&&true)) (sl (Nat.beq t1.1 1) (k ⟨0,(rt tV s.f0),(W (s.is7+1)),[]⟩) (sl (Nat.beq t1.1 2) (k ⟨1,(rt tV s.f0),(W (s.is7+1)),t1.2.ga0⟩) z)) z) (e 2))
noncomputable def R3 (p:W7) (s:s8):Stp s8:=(sel (Nat.beq s.ph 1) (F8 .next .exit .fail p s) (F7 .next .exit .fail p s))
noncomputable def mb7:Lo W7 s8:=⟨En Ya1,0,Bd6,[1,1,1,1,0,1,4,4,1,0,4,1,4,4],[0,5,6,7],(.s .p (.s (.b (.s .p (.b (.u mb6.ls)))) .p)),[⟨((.s (.c 3 (nL tV)))::(ru2 4 ((.s (.o .nil))::((.s (.o (.int .i64)))::((.s (.o (.int .i64)))::(ru2 57 [])))))),[],fun a H=>(⟨(toI (slT a 6))⟩,⟨0,(rL tV (slT a 0)),(toI (slT a 7)),[]⟩)⟩,⟨((.s (.c 3 (nL tV)))::(ru2 4 ((.s (.c 4 (nL tP)))::((.s (.o (.int .i64)))::((.s (.o (.int .i64)))::(ru2 57 [])))))),[],fun a H=>(⟨(toI (slT a 6))⟩,⟨1,(rL tV (slT a 0)),(toI (slT a 7)),(rL tP (slT a 5))⟩)⟩],R3,[(some 2,fun p s=>⟨((eL tV s.f0)::(ra 4 ((.v (.slice none 0 0))::((i p.is6)::((i s.is7)::(ra 14 ((i s.is7)::((i p.is6)::((b (decide (s.is7 < p.is6)))::(ra 40 [])))))))))),[]⟩),(some 2,fun p s=>⟨((eL tV s.f0)::(ra 4 ((eL tP s.ga0)::((i p.is6)::((i s.is7)::(ra 14 ((i s.is7)::((i p.is6)::((b (decide (s.is7 < p.is6)))::(ra 40 [])))))))))),[]⟩)],Cc0⟩
theorem Cc1:mb7.Ok:=Lo.ok [mb6.pr] (by kernel_rfl) (.cons Bc9 .nil) rfl (.cons (fun a H=>by kernel_rfl) (.cons (fun a H=>by kernel_rfl) .nil)) fun p s=>(.sel (Nat.beq s.ph 1) (.of @F8 (fun F _ _ _ _ _=>by unfold F8;(repeat' apply o0 (f:=F))<;>rfl) (by kernel_rfl)) (.of @F7 (fun F _ _ _ _ _=>by unfold F7;(repeat' apply o0 (f:=F))<;>rfl) (by kernel_rfl)))
structure da6 where
structure w8 where
 ph:Nat
 f0:List V3
 is6:Int
 ga0:List Pln
noncomputable def pc1 (p:da6) (s:w8):St:=⟨((eL tV s.f0)::(ra 4 ((.v (.slice none 0 0))::((i s.is6)::(ra 58 []))))),[]⟩
noncomputable def pc2 (p:da6) (s:w8):St:=⟨((eL tV s.f0)::(ra 4 ((eL tP s.ga0)::((i s.is6)::(ra 58 []))))),[]⟩
noncomputable def Cc2 (p:da6) (s:w8):St:=(sel (Nat.beq s.ph 1) (pc2 p s) (pc1 p s))
noncomputable def F9 {α:Type} (k:w8→α) (e:Nat→α) (z:α) (p:da6) (s:w8):α:=let t1:=(lp (R3 (⟨s.is6⟩:W7)) (⟨0,(rt tV s.f0),0,[]⟩:s8));(sl (decide (s.is6 < (↑(List.length s.f0):Int))) (sl ((cnE tV s.f0)&&true) (sl (Nat.beq t1.1 1) (k ⟨0,t1.2.f0,(W (s.is6+1)),[]⟩) (sl (Nat.beq t1.1 2) (k ⟨1,t1.2.f0,(W (s.is6+1)),t1.2.ga0⟩) z)) z) (e 1))
noncomputable def G0 {α:Type} (k:w8→α) (e:Nat→α) (z:α) (p:da6) (s:w8):α:=let t1:=(lp (R3 (⟨s.is6⟩:W7)) (⟨1,(rt tV s.f0),0,(rt tP s.ga0)⟩:s8));(sl (decide (s.is6 < (↑(List.length s.f0):Int))) (sl ((cnE tV s.f0)&&((cnE tP s.ga0)&&true)) (sl (Nat.beq t1.1 1) (k ⟨0,t1.2.f0,(W (s.is6+1)),[]⟩) (sl (Nat.beq t1.1 2) (k ⟨1,t1.2.f0,(W (s.is6+1)),t1.2.ga0⟩) z)) z) (e 2))
noncomputable def na3 (p:da6) (s:w8):Stp w8:=(sel (Nat.beq s.ph 1) (G0 .next .exit .fail p s) (F9 .next .exit .fail p s))
noncomputable def mb8:Lo da6 w8:=⟨En Ya1,0,Bd6,[1,1,1,1,0,1,4,4],[0,5,6],(.s .p (.s (.b (.s .p (.b (.u mb7.ls)))) .p)),[⟨((.s (.c 3 (nL tV)))::(ru2 4 ((.s (.o .nil))::((.s (.o (.int .i64)))::(ru2 58 []))))),[],fun a H=>(⟨⟩,⟨0,(rL tV (slT a 0)),(toI (slT a 6)),[]⟩)⟩,⟨((.s (.c 3 (nL tV)))::(ru2 4 ((.s (.c 4 (nL tP)))::((.s (.o (.int .i64)))::(ru2 58 []))))),[],fun a H=>(⟨⟩,⟨1,(rL tV (slT a 0)),(toI (slT a 6)),(rL tP (slT a 5))⟩)⟩],na3,[(some 0,fun p s=>⟨((eL tV s.f0)::(ra 4 ((.v (.slice none 0 0))::((i s.is6)::(ra 9 ((i s.is6)::((eL tV s.f0)::((i (↑(List.length s.f0):Int))::((b (decide (s.is6 < (↑(List.length s.f0):Int))))::(ra 45 [])))))))))),[]⟩),(some 0,fun p s=>⟨((eL tV s.f0)::(ra 4 ((eL tP s.ga0)::((i s.is6)::(ra 9 ((i s.is6)::((eL tV s.f0)::((i (↑(List.length s.f0):Int))::((b (decide (s.is6 < (↑(List.length s.f0):Int))))::(ra 45 [])))))))))),[]⟩)],Cc2⟩
theorem Cc3:mb8.Ok:=Lo.ok [mb7.pr] (by kernel_rfl) (.cons Cc1 .nil) rfl (.cons (fun a H=>by kernel_rfl) (.cons (fun a H=>by kernel_rfl) .nil)) fun p s=>(.sel (Nat.beq s.ph 1) (.of @G0 (fun F _ _ _ _ _=>by unfold G0;(repeat' apply o0 (f:=F))<;>rfl) (by kernel_rfl)) (.of @F9 (fun F _ _ _ _ _=>by unfold F9;(repeat' apply o0 (f:=F))<;>rfl) (by kernel_rfl)))
noncomputable def wa1 (x:List V3):Option (b7×List b8):=let t1:=(Ra9 (rt tV x));let t2:=(lp (na3 (⟨⟩:da6)) (⟨0,(rt tV x),0,[]⟩:w8));(sl (okE tV x) (sl (Fb3 (rt tV x)) (sl (t1 != 0) (some ((.tup [(.v (.slice none 0 0)),(i t1)]),[])) (sl ((cnE tV x)&&true) (sl (Nat.beq t2.1 1) (some ((.tup [(.v (.slice none 0 0)),(i 0)]),[])) (sl (Nat.beq t2.1 2) (some ((.tup [(eL tP t2.2.ga0),(i 0)]),[])) none)) none)) none) none)
noncomputable def Sa1 (x:List V3):List Pln×Int:=P4 (two (r1L tP) r1I) (wa1 x)
noncomputable def wa2 (x:List V3):Bool:=okO (two (r1L tP) r1I) (wa1 x)
noncomputable def lc7:Sum:=ja7 (ia2 tV) (fun x=>.guard (wa2 x) (.ret ((two (r1L tP) r1I).enc (Sa1 x),[])))
theorem Yc7:j6 prog G 112 lc7:=Da0 (bd Me2 Kc2) (two (r1L tP) r1I) (o:=wa1) fun x=>Da2 (.s .p (.s .p (.s .p (.s .p (.s (.s .p (.b (.u mb8.ls))) .p))))) [mb8.pr] (by kernel_rfl) (.cons Cc3 .nil) (by kernel_rfl)
noncomputable def Nb8:List (Nat×Sum):=[(98,qa8),(124,Rb9)]
theorem Cc4:l5 prog G Nb8:=⟨xa9,lc4,trivial⟩
structure Y1 where
 is4:Int
structure B0 where
 ph:Nat
 is6:Int
 g8:List Int
 c8:Int
 ns5:Nat
 eh1:List (List b7)
noncomputable def hc6 (p:Y1) (s:B0):St:=⟨(ra 3 ((.ptr 0 0 0 0)::((i p.is4)::((.v (.slice none 0 0))::((i s.is6)::(ra 127 [])))))),[⟨0,2,[[(eL tI s.g8),(i s.c8)]],true,false,0⟩]⟩
noncomputable def hc7 (p:Y1) (s:B0):St:=⟨(ra 3 ((.ptr 0 0 0 0)::((i p.is4)::((.sl 1 0 s.ns5 0)::((i s.is6)::(ra 127 [])))))),[⟨0,2,[[(eL tI s.g8),(i s.c8)]],true,false,0⟩,⟨36,3,s.eh1,true,false,0⟩]⟩
noncomputable def pc3 (p:Y1) (s:B0):St:=(sel (Nat.beq s.ph 1) (hc7 p s) (hc6 p s))
noncomputable def na4 {α:Type} (k:B0→α) (e:Nat→α) (z:α) (p:Y1) (s:B0):α:=let t1:=(m0 ⟨17,(rt tI s.g8),s.c8⟩);let t2:=(m0 ⟨17,(rt tI (rt tI s.g8)),t1.c8⟩);let t3:=(m0 ⟨17,(rt tI (rt tI (rt tI s.g8))),t2.c8⟩);let t4:=(m0 ⟨6,(rt tI (rt tI (rt tI (rt tI s.g8)))),t3.c8⟩);(sl (decide (s.is6 < p.is4)) (sl ((cnE tI s.g8)&&true) (sl (Nat.beq t1.alt 1) (sl ((cnE tI (rt tI s.g8))&&true) (sl (Nat.beq t2.alt 1) (sl ((cnE tI (rt tI (rt tI s.g8)))&&true) (sl (Nat.beq t3.alt 1) (sl ((cnE tI (rt tI (rt tI (rt tI s.g8))))&&true) (sl (Nat.beq t4.alt 1) (sl (t4.is0==1) (sl (decide (s.is6 > 1)) z (sl (t4.is0==2) (sl (decide (s.is6 > 0)) z (sl (t4.is0==3) (sl (decide (s.is6 > 2)) z (k ⟨1,(W (s.is6+1)),(rt tI (rt tI (rt tI (rt tI s.g8)))),t4.c8,1,[[(i (W (t1.is0 - 8))),(i (W (t2.is0 - 8))),(i (W (t3.is0 - 8)))]]⟩)) (k ⟨1,(W (s.is6+1)),(rt tI (rt tI (rt tI (rt tI s.g8)))),t4.c8,1,[[(i (W (t1.is0 - 8))),(i (W (t2.is0 - 8))),(i (W (t3.is0 - 8)))]]⟩))) (sl (t4.is0==3) (sl (decide (s.is6 > 2)) z (k ⟨1,(W (s.is6+1)),(rt tI (rt tI (rt tI (rt tI s.g8)))),t4.c8,1,[[(i (W (t1.is0 - 8))),(i (W (t2.is0 - 8))),(i (W (t3.is0 - 8)))]]⟩)) (k ⟨1,(W (s.is6+1)),(rt tI (rt tI (rt tI (rt tI s.g8)))),t4.c8,1,[[(i (W (t1.is0 - 8))),(i (W (t2.is0 - 8))),(i (W (t3.is0 - 8)))]]⟩)))) (sl (t4.is0==2) (sl (decide (s.is6 > 0)) z (sl (t4.is0==3) (sl (decide (s.is6 > 2)) z (k ⟨1,(W (s.is6+1)),(rt tI (rt tI (rt tI (rt tI s.g8)))),t4.c8,1,[[(i (W (t1.is0 - 8))),(i (W (t2.is0 - 8))),(i (W (t3.is0 - 8)))]]⟩)) (k ⟨1,(W (s.is6+1)),(rt tI (rt tI (rt tI (rt tI s.g8)))),t4.c8,1,[[(i (W (t1.is0 - 8))),(i (W (t2.is0 - 8))),(i (W (t3.is0 - 8)))]]⟩))) (sl (t4.is0==3) (sl (decide (s.is6 > 2)) z (k ⟨1,(W (s.is6+1)),(rt tI (rt tI (rt tI (rt tI s.g8)))),t4.c8,1,[[(i (W (t1.is0 - 8))),(i (W (t2.is0 - 8))),(i (W (t3.is0 - 8)))]]⟩)) (k ⟨1,(W (s.is6+1)),(rt tI (rt tI (rt tI (rt tI s.g8)))),t4.c8,1,[[(i (W (t1.is0 - 8))),(i (W (t2.is0 - 8))),(i (W (t3.is0 - 8)))]]⟩)))) z) z) z) z) z) z) z) z) (e 1))
noncomputable def J9 {α:Type} (k:B0→α) (e:Nat→α) (z:α) (p:Y1) (s:B0):α:=let t1:=(m0 ⟨17,(rt tI s.g8),s.c8⟩);let a0:=(m8 s.eh1 (0+(W (s.is6 - 1)).toNat));let a1:=(Nat.beq s.ns5 (len s.eh1)&&Nat.ble ((s.ns5+1)*24) room);let a3:=(g9 (m8 s.eh1 (0+(W (s.is6 - 2)).toNat)) 0);let a4:=((Nat.blt (0+(W (s.is6 - 1)).toNat) (len s.eh1))&&(Nat.ble (2+1) (len a0)));let a5:=(i (W (Int.tdiv (W ((toI (hdA (tlA (g9 a0 0))))+(toI (hdA (tlA a3))))) 2)));let a6:=(i (W (Int.tdiv (W ((toI (hdA (g9 a0 0)))+(toI (hdA a3)))) 2)));let a7:=(app s.eh1 [[a6,a5,(i (W (Int.tdiv (W ((toI (hdA (tlA (tlA (g9 a0 0)))))+(toI (hdA (tlA (tlA a3)))))) 2)))]]);let a8:=(inB (W (s.is6 - 1)) s.ns5);let a9:=(i (toI (hdA (tlA (g9 a0 0)))));let a10:=((Nat.blt (0+(W (s.is6 - 1)).toNat) (len s.eh1))&&(Nat.ble (0+3) (len a0)));let a11:=(i (toI (hdA (g9 a0 0))));let a12:=(app s.eh1 [[a11,a9,(i (toI (hdA (tlA (tlA (g9 a0 0))))))]]);let a13:=(i (toI (hdA (g9 a0 2))));let a14:=(rt tI (rt tI s.g8));let t2:=(m0 ⟨17,a14,t1.c8⟩);let t3:=(m0 ⟨17,(rt tI a14),t2.c8⟩);let a2:=(rt tI (rt tI a14));let t4:=(m0 ⟨6,a2,t3.c8⟩);(sl (decide (s.is6 < p.is4)) (sl ((cnE tI s.g8)&&true) (sl (Nat.beq t1.alt 1) (sl ((cnE tI (rt tI s.g8))&&true) (sl (Nat.beq t2.alt 1) (sl ((cnE tI a14)&&true) (sl (Nat.beq t3.alt 1) (sl ((cnE tI (rt tI a14))&&true) (sl (Nat.beq t4.alt 1) (sl (t4.is0==1) (sl (decide (s.is6 > 1)) (sl a8 (sl (a10&&(R5 [(CK.int .i64),(CK.int .i64),(CK.int .i64)] (g9 a0 0))) (sl (inB (W (s.is6 - 2)) s.ns5) (sl (((Nat.blt (0+(W (s.is6 - 2)).toNat) (len s.eh1))&&(Nat.ble (0+3) (len (m8 s.eh1 (0+(W (s.is6 - 2)).toNat)))))&&(R5 [(CK.int .i64),(CK.int .i64),(CK.int .i64)] a3)) (sl (t4.is0==2) (sl (decide (s.is6 > 0)) (sl a8 (sl (a10&&(R5 [(CK.int .i64),(CK.int .i64),(CK.int .i64)] (g9 a0 0))) (sl (t4.is0==3) (sl (decide (s.is6 > 2)) (sl a8 (sl (a4&&(R5 [(CK.int .i64)] (g9 a0 2))) (sl a1 (k ⟨1,(W (s.is6+1)),a2,t4.c8,(s.ns5+1),(app s.eh1 [[a11,a9,a13]])⟩) z) z) z) (sl a1 (k ⟨1,(W (s.is6+1)),a2,t4.c8,(s.ns5+1),a12⟩) z)) (sl a1 (k ⟨1,(W (s.is6+1)),a2,t4.c8,(s.ns5+1),a12⟩) z)) z) z) (sl (t4.is0==3) (sl (decide (s.is6 > 2)) (sl a8 (sl (a4&&(R5 [(CK.int .i64)] (g9 a0 2))) (sl a1 (k ⟨1,(W (s.is6+1)),a2,t4.c8,(s.ns5+1),(app s.eh1 [[a6,a5,a13]])⟩) z) z) z) (sl a1 (k ⟨1,(W (s.is6+1)),a2,t4.c8,(s.ns5+1),a7⟩) z)) (sl a1 (k ⟨1,(W (s.is6+1)),a2,t4.c8,(s.ns5+1),a7⟩) z))) (sl (t4.is0==3) (sl (decide (s.is6 > 2)) (sl a8 (sl (a4&&(R5 [(CK.int .i64)] (g9 a0 2))) (sl a1 (k ⟨1,(W (s.is6+1)),a2,t4.c8,(s.ns5+1),(app s.eh1 [[a6,a5,a13]])⟩) z) z) z) (sl a1 (k ⟨1,(W (s.is6+1)),a2,t4.c8,(s.ns5+1),a7⟩) z)) (sl a1 (k ⟨1,(W (s.is6+1)),a2,t4.c8,(s.ns5+1),a7⟩) z))) z) z) z) z) (sl (t4.is0==2) (sl (decide (s.is6 > 0)) (sl a8 (sl (a10&&(R5 [(CK.int .i64),(CK.int .i64),(CK.int .i64)] (g9 a0 0))) (sl (t4.is0==3) (sl (decide (s.is6 > 2)) (sl a8 (sl (a4&&(R5 [(CK.int .i64)] (g9 a0 2))) (sl a1 (k ⟨1,(W (s.is6+1)),a2,t4.c8,(s.ns5+1),(app s.eh1 [[a11,a9,a13]])⟩) z) z) z) (sl a1 (k ⟨1,(W (s.is6+1)),a2,t4.c8,(s.ns5+1),a12⟩) z)) (sl a1 (k ⟨1,(W (s.is6+1)),a2,t4.c8,(s.ns5+1),a12⟩) z)) z) z) (sl (t4.is0==3) (sl (decide (s.is6 > 2)) (sl a8 (sl (a4&&(R5 [(CK.int .i64)] (g9 a0 2))) (sl a1 (k ⟨1,(W (s.is6+1)),a2,t4.c8,(s.ns5+1),(app s.eh1 [[(i (W (t1.is0 - 8))),(i (W (t2.is0 - 8))),a13]])⟩) z) z) z) (sl a1 (k ⟨1,(W (s.is6+1)),a2,t4.c8,(s.ns5+1),(app s.eh1 [[(i (W (t1.is0 - 8))),(i (W (t2.is0 - 8))),(i (W (t3.is0 - 8)))]])⟩) z)) (sl a1 (k ⟨1,(W (s.is6+1)),a2,t4.c8,(s.ns5+1),(app s.eh1 [[(i (W (t1.is0 - 8))),(i (W (t2.is0 - 8))),(i (W (t3.is0 - 8)))]])⟩) z))) (sl (t4.is0==3) (sl (decide (s.is6 > 2)) (sl a8 (sl (a4&&(R5 [(CK.int .i64)] (g9 a0 2))) (sl a1 (k ⟨1,(W (s.is6+1)),a2,t4.c8,(s.ns5+1),(app s.eh1 [[(i (W (t1.is0 - 8))),(i (W (t2.is0 - 8))),a13]])⟩) z) z) z) (sl a1 (k ⟨1,(W (s.is6+1)),a2,t4.c8,(s.ns5+1),(app s.eh1 [[(i (W (t1.is0 - 8))),(i (W (t2.is0 - 8))),(i (W (t3.is0 - 8)))]])⟩) z)) (sl a1 (k ⟨1,(W (s.is6+1)),a2,t4.c8,(s.ns5+1),(app s.eh1 [[(i (W (t1.is0 - 8))),(i (W (t2.is0 - 8))),(i (W (t3.is0 - 8)))]])⟩) z)))) (sl (t4.is0==2) (sl (decide (s.is6 > 0)) (sl a8 (sl (a10&&(R5 [(CK.int .i64),(CK.int .i64),(CK.int .i64)] (g9 a0 0))) (sl (t4.is0==3) (sl (decide (s.is6 > 2)) (sl a8 (sl (a4&&(R5 [(CK.int .i64)] (g9 a0 2))) (sl a1 (k ⟨1,(W (s.is6+1)),a2,t4.c8,(s.ns5+1),(app s.eh1 [[a11,a9,a13]])⟩) z) z) z) (sl a1 (k ⟨1,(W (s.is6+1)),a2,t4.c8,(s.ns5+1),a12⟩) z)) (sl a1 (k ⟨1,(W (s.is6+1)),a2,t4.c8,(s.ns5+1),a12⟩) z)) z) z) (sl (t4.is0==3) (sl (decide (s.is6 > 2)) (sl a8 (sl (a4&&(R5 [(CK.int .i64)] (g9 a0 2))) (sl a1 (k ⟨1,(W (s.is6+1)),a2,t4.c8,(s.ns5+1),(app s.eh1 [[(i (W (t1.is0 - 8))),(i (W (t2.is0 - 8))),a13]])⟩) z) z) z) (sl a1 (k ⟨1,(W (s.is6+1)),a2,t4.c8,(s.ns5+1),(app s.eh1 [[(i (W (t1.is0 - 8))),(i (W (t2.is0 - 8))),(i (W (t3.is0 - 8)))]])⟩) z)) (sl a1 (k ⟨1,(W (s.is6+1)),a2,t4.c8,(s.ns5+1),(app s.eh1 [[(i (W (t1.is0 - 8))),(i (W (t2.is0 - 8))),(i (W (t3.is0 - 8)))]])⟩) z))) (sl (t4.is0==3) (sl (decide (s.is6 > 2)) (sl a8 (sl (a4&&(R5 [(CK.int .i64)] (g9 a0 2))) (sl a1 (k ⟨1,(W (s.is6+1)),a2,t4.c8,(s.ns5+1),(app s.eh1 [[(i (W (t1.is0 - 8))),(i (W (t2.is0 - 8))),a13]])⟩) z) z) z) (sl a1 (k ⟨1,(W (s.is6+1)),a2,t4.c8,(s.ns5+1),(app s.eh1 [[(i (W (t1.is0 - 8))),(i (W (t2.is0 - 8))),(i (W (t3.is0 - 8)))]])⟩) z)) (sl a1 (k ⟨1,(W (s.is6+1)),a2,t4.c8,(s.ns5+1),(app s.eh1 [[(i (W (t1.is0 - 8))),(i (W (t2.is0 - 8))),(i (W (t3.is0 - 8)))]])⟩) z)))) z) z) z) z) z) z) z) z) (e 2))
noncomputable def Ca2 (p:Y1) (s:B0):Stp B0:=(sel (Nat.beq s.ph 1) (J9 .next .exit .fail p s) (na4 .next .exit .fail p s))
noncomputable def db4:Lo Y1 B0:=⟨En Nb8,0,Be0,[1,1,1,1,0,1,4,4],[3,4,5,6],.p,[⟨(ru2 3 ((.s (.o (.ptr 0 0 0 0)))::((.s (.o (.int .i64)))::((.s (.o .nil))::((.s (.o (.int .i64)))::(ru2 127 [])))))),[⟨0,2,true,(some [[(.c 1 (nL tI)),(.o (.int .i64))]])⟩],fun a H=>(⟨(toI (slT a 4))⟩,⟨0,(toI (slT a 6)),(rL tI (slT (rwT (elT H 0) 0) 0)),(toI (slT (rwT (elT H 0) 0) 1)),0,[]⟩)⟩,⟨(ru2 3 ((.s (.o (.ptr 0 0 0 0)))::((.s (.o (.int .i64)))::((.s (.o (.sl 1 0 (some 0) none)))::((.s (.o (.int .i64)))::(ru2 127 [])))))),[⟨0,2,true,(some [[(.c 1 (nL tI)),(.o (.int .i64))]])⟩,⟨36,3,true,none⟩],fun a H=>(⟨(toI (slT a 4))⟩,⟨1,(toI (slT a 6)),(rL tI (slT (rwT (elT H 0) 0) 0)),(toI (slT (rwT (elT H 0) 0) 1)),(slN (slT a 5)),(elT H 1)⟩)⟩],Ca2,[(some 0,fun p s=>⟨(ra 3 ((.ptr 0 0 0 0)::((i p.is4)::((.v (.slice none 0 0))::((i s.is6)::(ra 11 ((i s.is6)::((i p.is4)::((b (decide (s.is6 < p.is4)))::(ra 113 [])))))))))),[⟨0,2,[[(eL tI s.g8),(i s.c8)]],true,false,0⟩]⟩),(some 0,fun p s=>⟨(ra 3 ((.ptr 0 0 0 0)::((i p.is4)::((.sl 1 0 s.ns5 0)::((i s.is6)::(ra 11 ((i s.is6)::((i p.is4)::((b (decide (s.is6 < p.is4)))::(ra 113 [])))))))))),[⟨0,2,[[(eL tI s.g8),(i s.c8)]],true,false,0⟩,⟨36,3,s.eh1,true,false,0⟩]⟩)],pc3⟩
theorem pc4:db4.Ok:=Lo.ok [] (by kernel_rfl) .nil rfl (.cons (fun a H=>by kernel_rfl) (.cons (fun a H=>by kernel_rfl) .nil)) fun p s=>(.sel (Nat.beq s.ph 1) (.of @J9 (fun F _ _ _ _ _=>by unfold J9;(repeat' apply o0 (f:=F))<;>rfl) (by kernel_rfl)) (.of @na4 (fun F _ _ _ _ _=>by unfold na4;(repeat' apply o0 (f:=F))<;>rfl) (by kernel_rfl)))
noncomputable def Ja2 (x:List Int):Option (b7×List b8):=let t1:=(m0 ⟨5,(rt tI x),0⟩);let t2:=(lp (Ca2 (⟨(W (4+t1.is0))⟩:Y1)) (⟨0,0,(rt tI (rt tI x)),t1.c8,0,[]⟩:B0));let t3:=(Ea0 []);let t4:=(Ea0 (lsL tV t2.2.ns5 (fun k=>m8 t2.2.eh1 (0+k))));let a0:=(g9 (m8 t2.2.eh1 0) 0);let a1:=(i (toI (hdA (tlA (tlA a0)))));let a2:=(i (W ((toI (hdA a0)) - 3)));let a3:=(setAt t2.2.eh1 1 (U4 (m8 t2.2.eh1 1) 0 [a2,(i (toI (hdA (tlA a0)))),a1]));let a4:=(i (W ((toI (hdA (tlA a0))) - 2)));(sl ((cnE tI x)&&true) (sl (Nat.beq t1.alt 1) (sl ((cnE tI (rt tI x))&&true) (sl (Nat.beq t2.1 1) (sl (Na1 []) (sl t3 none (some ((.v (.slice none 0 0)),[]))) none) (sl (Nat.beq t2.1 2) (sl (okL tV t2.2.ns5 (fun k=>m8 t2.2.eh1 (0+k))) (sl (Na1 (lsL tV t2.2.ns5 (fun k=>m8 t2.2.eh1 (0+k)))) (sl t4 (sl (inB 0 t2.2.ns5) (sl (((Nat.blt 0 (len t2.2.eh1))&&(Nat.ble (0+3) (len (m8 t2.2.eh1 0))))&&(R5 [(CK.int .i64),(CK.int .i64),(CK.int .i64)] a0)) (sl (inB 1 t2.2.ns5) (sl ((Nat.blt 1 (len t2.2.eh1))&&(Nat.ble (0+3) (len (m8 t2.2.eh1 1)))) (sl (inB 2 t2.2.ns5) (sl ((Nat.blt 2 (len a3))&&(Nat.ble (0+3) (len (m8 a3 2)))) (sl (inB 3 t2.2.ns5) (sl ((Nat.blt 3 (len (setAt a3 2 (U4 (m8 a3 2) 0 [(i (toI (hdA a0))),a4,a1]))))&&(Nat.ble (0+3) (len (m8 (setAt a3 2 (U4 (m8 a3 2) 0 [(i (toI (hdA a0))),a4,a1])) 3)))) (some ((.sl 0 0 t2.2.ns5 0),[⟨36,3,(setAt (setAt a3 2 (U4 (m8 a3 2) 0 [(i (toI (hdA a0))),a4,a1])) 3 (U4 (m8 (setAt a3 2 (U4 (m8 a3 2) 0 [(i (toI (hdA a0))),a4,a1])) 3) 0 [(i (toI (hdA a0))),(i (toI (hdA (tlA a0)))),(i (W ((toI (hdA (tlA (tlA a0)))) - 1)))])),true,false,0⟩])) none) none) none) none) none) none) none) none) (some ((.sl 0 0 t2.2.ns5 0),[⟨36,3,t2.2.eh1,true,false,0⟩]))) none) none) none)) none) none) none)
noncomputable def M7 (x:List Int):List V3:=P4 (one (r1L tV)) (Ja2 x)
noncomputable def Ja3 (x:List Int):Bool:=okO (one (r1L tV)) (Ja2 x)
noncomputable def Zb6:Sum:=ja7 (ia2 tI) (fun x=>.guard (Ja3 x) (.ret ((one (r1L tV)).enc (M7 x),[])))
theorem Kc3:j6 prog G 46 Zb6:=Da0 (bd b46 Cc4) (one (r1L tV)) (o:=Ja2) fun x=>Da2 (.s .p (.s .p (.s .p (.s .p (.s (.s .p (.b (.u db4.ls))) .p))))) [db4.pr] (by kernel_rfl) (.cons pc4 .nil) (by kernel_rfl)
end Go.Ev.Ce
end
section
namespace Go.Ev.Ce
open Go Go.Ev Go.Ev.L Go.Proofs
set_option maxRecDepth 100000
noncomputable def md7:List (Nat×Sum):=[(98,qa8),(97,gc7),(111,fc4),(35,Rb7),(21,yc1),(46,Zb6),(112,lc7)]
theorem Yc8:l5 prog G md7:=⟨xa9,Ac8,xc9,lc2,kd2,Kc3,Yc7,trivial⟩
noncomputable def Ea1 (x:List Int):Option (b7×List b8):=let t1:=(m0 ⟨4,(rt tI x),0⟩);let t2:=(Ma8 ⟨6,(rt tI (rt tI x)),t1.c8⟩);let t3:=(m0 ⟨6,(rt tI t2.g8),t2.c8⟩);let t4:=(m0 ⟨6,(rt tI (rt tI t2.g8)),t3.c8⟩);let t5:=(m0 ⟨6,(rt tI (rt tI (rt tI t2.g8))),t4.c8⟩);let t6:=(ob6 (⟨t2.oa2,t2.oa3,t2.oa4⟩:V3) (⟨(W ((W (t2.oa2+1))+t3.is0)),(W ((W (t2.oa3+1))+t4.is0)),(W ((W (t2.oa4+1))+t5.is0))⟩:V3));let a0:=(if 7 < (↑(List.length x):Int) then 7 else (↑(List.length x):Int));let a1:=(n7 (fun k=>(tP).row (gL tP t6 k)) (List.range (List.length t6)));let a2:=(fun k=>(fun k=>(tI).row (gL tI x k)) (a0.toNat+k));let a3:=((List.length x) - a0.toNat);let t7:=(Da7 (lsL tI a3 a2));let t8:=(La6 [t7]);let t9:=(M7 (lsL tI a3 a2));let t10:=(Sa1 (rt tV t9));let t11:=(La6 (slR tP (app (app [] a1) [[(i t7.n.x),(i t7.n.y),(i t7.n.z),(i t7.b)]]) 0 ((0+(len a1))+1)));(sl ((cnE tI x)&&true) (sl (Nat.beq t1.alt 1) (sl ((cnE tI (rt tI x))&&true) (sl (Nat.beq t2.alt 1) (sl ((cnE tI t2.g8)&&true) (sl (Nat.beq t3.alt 1) (sl ((cnE tI (rt tI t2.g8))&&true) (sl (Nat.beq t4.alt 1) (sl ((cnE tI (rt tI (rt tI t2.g8)))&&true) (sl (Nat.beq t5.alt 1) (sl (Za4 (⟨t2.oa2,t2.oa3,t2.oa4⟩:V3) (⟨(W ((W (t2.oa2+1))+t3.is0)),(W ((W (t2.oa3+1))+t4.is0)),(W ((W (t2.oa4+1))+t5.is0))⟩:V3)) (sl (inB a0 ((List.length x)+1)) (sl (t1.is0==2) (sl (Nat.beq (len a1) 0) (sl (okL tI a3 a2) (sl (db3 (lsL tI a3 a2)) (sl (Da4 [t7]) (sl t8 (some ((.sl 0 0 1 0),[⟨50,4,[[(i t7.n.x),(i t7.n.y),(i t7.n.z),(i t7.b)]],true,false,0⟩])) (sl (t1.is0==3) (sl (okL tI a3 a2) (sl (Ja3 (lsL tI a3 a2)) (sl (okE tV t9) (sl (wa2 (rt tV t9)) (sl (t10.2==0) (some ((eL tP t10.1),[])) (some ((eL tP t6),[]))) none) none) none) none) (some ((eL tP t6),[])))) none) none) none) (sl (Nat.beq 0 0&&Nat.ble ((0+(len a1))*32) room) (sl (okL tI a3 a2) (sl (db3 (lsL tI a3 a2)) (sl (Nat.beq (0+(len a1)) (len (app [] a1))&&Nat.ble (((0+(len a1))+1)*32) room) (sl (okS tP (app (app [] a1) [[(i t7.n.x),(i t7.n.y),(i t7.n.z),(i t7.b)]]) 0 ((0+(len a1))+1)) (sl (Da4 (slR tP (app (app [] a1) [[(i t7.n.x),(i t7.n.y),(i t7.n.z),(i t7.b)]]) 0 ((0+(len a1))+1))) (sl t11 (some ((.sl 0 0 ((0+(len a1))+1) 0),[⟨50,4,(app (app [] a1) [[(i t7.n.x),(i t7.n.y),(i t7.n.z),(i t7.b)]]),true,false,0⟩])) (sl (t1.is0==3) (sl (okL tI a3 a2) (sl (Ja3 (lsL tI a3 a2)) (sl (okE tV t9) (sl (wa2 (rt tV t9)) (sl (t10.2==0) (some ((eL tP t10.1),[])) (some ((eL tP t6),[]))) none) none) none) none) (some ((eL tP t6),[])))) none) none) none) none) none) none)) (sl (t1.is0==3) (sl (okL tI a3 a2) (sl (Ja3 (lsL tI a3 a2)) (sl (okE tV t9) (sl (wa2 (rt tV t9)) (sl (t10.2==0) (some ((eL tP t10.1),[])) (some ((eL tP t6),[]))) none) none) none) none) (some ((eL tP t6),[])))) none) none) none) none) none) none) none) none) none) none) none) none)
noncomputable def db5 (x:List Int):List Pln:=P4 (one (r1L tP)) (Ea1 x)
noncomputable def Sb0 (x:List Int):Bool:=okO (one (r1L tP)) (Ea1 x)
noncomputable def Cc5:Sum:=ja7 (ia2 tI) (fun x=>.guard (Sb0 x) (.ret ((one (r1L tP)).enc (db5 x),[])))
theorem md8:j6 prog G 30 Cc5:=Da0 (bd b30 Yc8) (one (r1L tP)) (o:=Ea1) fun x=>w6 (by kernel_rfl)
noncomputable def jb5:List (Nat×Sum):=[]
theorem Sb1:l5 prog G jb5:=trivial
structure fa5 where
 B8:List Pt
 Fc2:List Pt
structure E4 where
 is5:Int
noncomputable def Lb5 (p:fa5) (s:E4):St:=⟨((eL tX p.B8)::((eL tX p.Fc2)::(ra 3 ((i s.is5)::(ra 20 []))))),[]⟩
noncomputable def Y2 {α:Type} (k:E4→α) (e:Nat→α) (z:α) (p:fa5) (s:E4):α:=(sl (decide (s.is5 < (↑(List.length p.B8):Int))) (sl (inB s.is5 (List.length p.B8)) (sl (inB s.is5 (List.length p.Fc2)) (sl (!(((gL tX p.B8 s.is5.toNat).px==(gL tX p.Fc2 s.is5.toNat).px)&&(((gL tX p.B8 s.is5.toNat).py==(gL tX p.Fc2 s.is5.toNat).py)&&(((gL tX p.B8 s.is5.toNat).pz==(gL tX p.Fc2 s.is5.toNat).pz)&&(((gL tX p.B8 s.is5.toNat).pw==(gL tX p.Fc2 s.is5.toNat).pw)&&true))))) (e 1) (k ⟨(W (s.is5+1))⟩)) z) z) (e 2))
noncomputable def aa5 (p:fa5) (s:E4):Stp E4:=Y2 .next .exit .fail p s
noncomputable def Ea2:Lo fa5 E4:=⟨En jb5,0,Ae7,[1,1,0,1,4,4],[0,1,5],.p,[⟨((.s (.c 4 (nL tX)))::((.s (.c 4 (nL tX)))::(ru2 3 ((.s (.o (.int .i64)))::(ru2 20 []))))),[],fun a H=>(⟨(rL tX (slT a 0)),(rL tX (slT a 1))⟩,⟨(toI (slT a 5))⟩)⟩],aa5,[(none,fun p s=>⟨[(b false)],[]⟩),(some 0,fun p s=>⟨((eL tX p.B8)::((eL tX p.Fc2)::(ra 3 ((i s.is5)::(ra 5 ((i s.is5)::((eL tX p.B8)::((i (↑(List.length p.B8):Int))::((b (decide (s.is5 < (↑(List.length p.B8):Int))))::(ra 11 [])))))))))),[]⟩)],Lb5⟩
theorem Lb6:Ea2.Ok:=Lo.ok [] (by kernel_rfl) .nil rfl (.cons (fun a H=>by kernel_rfl) .nil) fun p s=>(.of @Y2 (fun F _ _ _ _ _=>by unfold Y2;(repeat' apply o0 (f:=F))<;>rfl) (by kernel_rfl))
noncomputable def na5 (x:List Pt) (y:List Pt):Option (b7×List b8):=let t1:=(lp (aa5 (⟨(rt tX x),(rt tX y)⟩:fa5)) (⟨0⟩:E4));(sl ((↑(List.length x):Int) != (↑(List.length y):Int)) (some ((b false),[])) (sl ((cnE tX x)&&((cnE tX y)&&true)) (sl (Nat.beq t1.1 1) (some ((b false),[])) (sl (Nat.beq t1.1 2) (some ((b true),[])) none)) none))
noncomputable def na6 (x:List Pt) (y:List Pt):Bool:=P4 (one r1B) (na5 x y)
noncomputable def na7 (x:List Pt) (y:List Pt):Bool:=okO (one r1B) (na5 x y)
noncomputable def pb9:Sum:=la2 (ia2 tX) (ia2 tX) (fun x y=>.guard (na7 x y) (.ret ((one r1B).enc (na6 x y),[])))
theorem Zb7:j6 prog G 17 pb9:=nb9 (bd b17 Sb1) (one r1B) (o:=na5) fun x y=>Da2 (.s .p (.s .p (.s (.s .p (.b (.u Ea2.ls))) .p))) [Ea2.pr] (by kernel_rfl) (.cons Lb6 .nil) (by kernel_rfl)
noncomputable def lc8:List (Nat×Sum):=[]
theorem Yc9:l5 prog G lc8:=trivial
structure Ja4 where
 c9:List Pln
 mc2:List Pln
structure ca3 where
 is5:Int
noncomputable def Kc4 (p:Ja4) (s:ca3):St:=⟨((eL tP p.c9)::((eL tP p.mc2)::(ra 3 ((i s.is5)::(ra 20 []))))),[]⟩
noncomputable def wa3 {α:Type} (k:ca3→α) (e:Nat→α) (z:α) (p:Ja4) (s:ca3):α:=(sl (decide (s.is5 < (↑(List.length p.c9):Int))) (sl (inB s.is5 (List.length p.c9)) (sl (inB s.is5 (List.length p.mc2)) (sl (!(((gL tP p.c9 s.is5.toNat).n.x==(gL tP p.mc2 s.is5.toNat).n.x)&&(((gL tP p.c9 s.is5.toNat).n.y==(gL tP p.mc2 s.is5.toNat).n.y)&&(((gL tP p.c9 s.is5.toNat).n.z==(gL tP p.mc2 s.is5.toNat).n.z)&&(((gL tP p.c9 s.is5.toNat).b==(gL tP p.mc2 s.is5.toNat).b)&&true))))) (e 1) (k ⟨(W (s.is5+1))⟩)) z) z) (e 2))
noncomputable def Ba2 (p:Ja4) (s:ca3):Stp ca3:=wa3 .next .exit .fail p s
noncomputable def vb2:Lo Ja4 ca3:=⟨En lc8,0,Ae9,[1,1,0,1,4,4],[0,1,5],.p,[⟨((.s (.c 4 (nL tP)))::((.s (.c 4 (nL tP)))::(ru2 3 ((.s (.o (.int .i64)))::(ru2 20 []))))),[],fun a H=>(⟨(rL tP (slT a 0)),(rL tP (slT a 1))⟩,⟨(toI (slT a 5))⟩)⟩],Ba2,[(none,fun p s=>⟨[(b false)],[]⟩),(some 0,fun p s=>⟨((eL tP p.c9)::((eL tP p.mc2)::(ra 3 ((i s.is5)::(ra 5 ((i s.is5)::((eL tP p.c9)::((i (↑(List.length p.c9):Int))::((b (decide (s.is5 < (↑(List.length p.c9):Int))))::(ra 11 [])))))))))),[]⟩)],Kc4⟩
theorem Kc5:vb2.Ok:=Lo.ok [] (by kernel_rfl) .nil rfl (.cons (fun a H=>by kernel_rfl) .nil) fun p s=>(.of @wa3 (fun F _ _ _ _ _=>by unfold wa3;(repeat' apply o0 (f:=F))<;>rfl) (by kernel_rfl))
noncomputable def db6 (x:List Pln) (y:List Pln):Option (b7×List b8):=let t1:=(lp (Ba2 (⟨(rt tP x),(rt tP y)⟩:Ja4)) (⟨0⟩:ca3));(sl ((↑(List.length x):Int) != (↑(List.length y):Int)) (some ((b false),[])) (sl ((cnE tP x)&&((cnE tP y)&&true)) (sl (Nat.beq t1.1 1) (some ((b false),[])) (sl (Nat.beq t1.1 2) (some ((b true),[])) none)) none))
noncomputable def vb3 (x:List Pln) (y:List Pln):Bool:=P4 (one r1B) (db6 x y)
noncomputable def vb4 (x:List Pln) (y:List Pln):Bool:=okO (one r1B) (db6 x y)
noncomputable def Cc6:Sum:=la2 (ia2 tP) (ia2 tP) (fun x y=>.guard (vb4 x y) (.ret ((one r1B).enc (vb3 x y),[])))
theorem md9:j6 prog G 26 Cc6:=nb9 (bd b26 Yc9) (one r1B) (o:=db6) fun x y=>Da2 (.s .p (.s .p (.s (.s .p (.b (.u vb2.ls))) .p))) [vb2.pr] (by kernel_rfl) (.cons Kc5 .nil) (by kernel_rfl)
structure oe7 where
 is6:Int
structure oe8 where
 ns5:Nat
 eh0:List (List b7)
end Go.Ev.Ce
end
namespace Go.Ev.Ce
open Go Go.Ev Go.Ev.L Go.Proofs
theorem nd0 {Q:Pt→Prop} (r:List Pln) (p q:Pln):∀ (l:List Pln) (out:List Pt),(∀ s∈l,(mpt p q s).2=true→inn r (mpt p q s).1=true→Q (mpt p q s).1)→(∀ x∈out,Q x)→∀ x∈Va0 r p q l out,Q x
 | [],out,_,h=>h
 | s::l,out,hs,h=>nd0 r p q l (va8 r p q out s) (fun t ht=>hs t (List.mem_cons_of_mem _ ht)) fun x hx=>by
  unfold va8 at hx
  split at hx
  ·rename_i hc
   rw[Bool.and_eq_true,Bool.and_eq_true] at hc
   rcases List.mem_append.1 hx with hx | hx
   ·exact h x hx
   ·rw[List.mem_singleton] at hx
    subst hx
    exact hs s List.mem_cons_self hc.1 hc.2.2
  ·exact h x hx
theorem nd1 {Q:Pt→Prop} (r:List Pln) (p:Pln):∀ (l:List Pln) (out:List Pt),(∀ q∈l,∀ s∈l,(mpt p q s).2=true→inn r (mpt p q s).1=true→Q (mpt p q s).1)→(∀ x∈out,Q x)→∀ x∈Ia8 r p l out,Q x
 | [],out,_,h=>h
 | q::l,out,hs,h=>nd1 r p l _ (fun a ha t ht=>hs a (List.mem_cons_of_mem _ ha) t (List.mem_cons_of_mem _ ht)) (nd0 r p q l out (fun t ht=>hs q List.mem_cons_self t (List.mem_cons_of_mem _ ht)) h)
theorem nd2 {Q:Pt→Prop} (r:List Pln):∀ (l:List Pln) (out:List Pt),(∀ p∈l,∀ q∈l,∀ s∈l,(mpt p q s).2=true→inn r (mpt p q s).1=true→Q (mpt p q s).1)→(∀ x∈out,Q x)→∀ x∈Yb7 r l out,Q x
 | [],out,_,h=>h
 | p::l,out,hs,h=>nd2 r l _ (fun a ha c hc t ht=>hs a (List.mem_cons_of_mem _ ha) c (List.mem_cons_of_mem _ hc) t (List.mem_cons_of_mem _ ht)) (nd1 r p l out (fun c hc t ht=>hs p List.mem_cons_self c (List.mem_cons_of_mem _ hc) t (List.mem_cons_of_mem _ ht)) h)
theorem Cd9 {Q:Pt→Prop} {r:List Pln} (hs:∀ p∈r,∀ q∈r,∀ s∈r,(mpt p q s).2=true→inn r (mpt p q s).1=true→Q (mpt p q s).1):∀ x∈cor r,Q x :=
 nd2 r r [] hs fun x hx=>by cases hx
structure Okx (x:Pt):Prop where
 w1:0 < x.pw
 w2:x.pw≤600000000000
 c1:Sm 300000000000000 x.px
 c2:Sm 300000000000000 x.py
 c3:Sm 300000000000000 x.pz
theorem jb6 {r:List Pln} (hb:Bds r):∀ x∈cor r,Okx x:=Cd9 fun p hp q hq s hs h _=>by
 obtain⟨h1,h2,h3,h4,h5⟩:=wd2 (hb p hp) (hb q hq) (hb s hs) h
 exact⟨h1,h5,h2,h3,h4⟩
theorem he7 {c:List Pln}:∀ x∈pts c,Okx x:=by
 unfold pts
 cases h:chk c==0 with
 | false=>intro x hx;cases hx
 | true=>exact jb6 (Oa5 h).1
theorem rc2 (c:List Pln):(pts c).length≤8000000:=by
 unfold pts
 cases h:chk c==0 with
 | false=>exact Nat.zero_le _
 | true=>exact Xc5 _ (Oa5 h).1 (Oa5 h).2
theorem nd3 {x y:Int} (hy:0 < y):Int.tmod x y+y*Int.tdiv x y=x∧-y < Int.tmod x y∧Int.tmod x y < y:=by
 refine⟨Int.tmod_add_mul_tdiv x y,?_,Int.tmod_lt_of_pos x hy⟩
 have:=Int.lt_tmod_of_pos x hy
 omega
theorem Dd0 {x y q r:Int} (hy:0 < y) (h:r+y*q=x) (h1:0≤r) (h2:r < y):x / y=q:=((Int.ediv_emod_unique hy).2 ⟨h,h1,h2⟩).1
theorem he8 {x y:Int} (hx:Sm 300000000000000 x) (hy:0 < y):Sm 300000000000000 (Int.tdiv x y):=E3 hx hy
theorem nd4 {x y:Int} (hx:Sm 300000000000000 x) (hy:0 < y):Ia5 x y=some (i (x / y),[]):=by
 have hz:(y==0)=false:=by rw[beq_eq_false_iff_ne];omega
 obtain⟨h1,h2,h3⟩:=nd3 (x:=x) hy
 have hb:=he8 hx hy
 unfold Ia5
 rw[bf hz,bf hz,ta6 (hb.mono (by omega))]
 by_cases h:Int.tmod x y < 0
 ·rw[btD h,Dd0 hy (q:=Int.tdiv x y - 1) (r:=Int.tmod x y+y) (by rw[Int.mul_sub];omega) (by omega) (by omega),Z3 (by have:=hb.1;omega) (by have:=hb.2;omega)]
 ·rw[bfD h,Dd0 hy h1 (by omega) h3]
theorem Jb9 {x y:Int} (hx:Sm 300000000000000 x) (hy:0 < y):ba7 x y=x / y:=by unfold ba7;rw[nd4 hx hy];rfl
theorem Kb0 {x y:Int} (hx:Sm 300000000000000 x) (hy:0 < y):ba8 x y=true:=by unfold ba8;rw[nd4 hx hy];rfl
theorem Vd0 (x:Int) {y:Int} (hy:0 < y) (hy2:y≤4000000000000000000):ob8 x y=some (i (x % y),[]):=by
 have hz:(y==0)=false:=by rw[beq_eq_false_iff_ne];omega
 obtain⟨h1,h2,h3⟩:=nd3 (x:=x) hy
 unfold ob8
 rw[bfD (by omega),bf hz,bf hz,Z3 (by omega) (by omega),Int.tmod_eq_emod_of_nonneg (by omega)]
 congr 3
 rw[Int.add_emod_right]
 conv=>rhs;rw[← h1]
 rw[Int.add_mul_emod_self_left]
theorem Fe2 (x:Int) {y:Int} (hy:0 < y) (hy2:y≤4000000000000000000):ob9 x y=x % y:=by unfold ob9;rw[Vd0 x hy hy2];rfl
theorem Vd1 (x:Int) {y:Int} (hy:0 < y) (hy2:y≤4000000000000000000):Za5 x y=true:=by unfold Za5;rw[Vd0 x hy hy2];rfl
noncomputable def Zb8 (s:V3×V3) (x:Pt):V3×V3 :=
 (⟨if x.px / x.pw < s.1.x then x.px / x.pw else s.1.x,if x.py / x.pw < s.1.y then x.py / x.pw else s.1.y,if x.pz / x.pw < s.1.z then x.pz / x.pw else s.1.z⟩,
  ⟨if W (0 - -x.px / x.pw) > s.2.x then W (0 - -x.px / x.pw) else s.2.x,if W (0 - -x.py / x.pw) > s.2.y then W (0 - -x.py / x.pw) else s.2.y,if W (0 - -x.pz / x.pw) > s.2.z then W (0 - -x.pz / x.pw) else s.2.z⟩)
noncomputable def bnd (c:List Pln):V3×V3×Bool :=
 if ful c then (((pts c).foldl Zb8 (⟨24,24,24⟩,⟨-24,-24,-24⟩)).1,((pts c).foldl Zb8 (⟨24,24,24⟩,⟨-24,-24,-24⟩)).2,true) else (⟨0,0,0⟩,⟨0,0,0⟩,false)
theorem Vd2 {x:Int} (h:Sm 300000000000000 x):W (0 - x)=-x:=by obtain⟨h1,h2⟩:=h;rw[Z3 (by omega) (by omega)];omega
theorem Sm.neg {n x:Int} (h:Sm n x):Sm n (-x):=⟨by have:=h.2;omega,by have:=h.1;omega⟩
noncomputable def Fe3 (r:V3×V3×Bool):b7:=.tup [.agg (tV.row r.1),.agg (tV.row r.2.1),b r.2.2]
theorem xd1 (X:List Pt) (hX:X.length≤8000000) (hok:∀ x∈X,Okx x) (s:V3×V3):∃ m,lp (ha7 ⟨X,(X.length:Int)⟩) ⟨0,s.1.x,s.1.y,s.1.z,s.2.x,s.2.y,s.2.z⟩=(1,⟨m,(X.foldl Zb8 s).1.x,(X.foldl Zb8 s).1.y,(X.foldl Zb8 s).1.z,(X.foldl Zb8 s).2.x,(X.foldl Zb8 s).2.y,(X.foldl Zb8 s).2.z⟩):=by
 have h:=Ib6 (step:=ha7 ⟨X,(X.length:Int)⟩) (mk:=fun j (s:V3×V3)=>(⟨(j:Int),s.1.x,s.1.y,s.1.z,s.2.x,s.2.y,s.2.z⟩:X6)) (f:=Zb8) (fin:=1) tX X (fun _ _=>True) (by omega)
  (fun j s hj _=>⟨by
   have hx:=hok _ (wc0 tX hj)
   simp only[ha7,na2,Int.toNat_natCast,Vd2 hx.c1,Vd2 hx.c2,Vd2 hx.c3,Jb9 hx.c1 hx.w1,Jb9 hx.c2 hx.w1,Jb9 hx.c3 hx.w1,Kb0 hx.c1 hx.w1,Kb0 hx.c2 hx.w1,Kb0 hx.c3 hx.w1,
    Jb9 hx.c1.neg hx.w1,Jb9 hx.c2.neg hx.w1,Jb9 hx.c3.neg hx.w1,Kb0 hx.c1.neg hx.w1,Kb0 hx.c2.neg hx.w1,Kb0 hx.c3.neg hx.w1,o2 hj (by omega)]
   rw[btD (l0 hj),bt (e8 hj)]
   rfl,trivial⟩)
  (fun s _=>by simp only[ha7,na2];rw[bfD (y5 (Nat.lt_irrefl _))]) 0 (Nat.zero_le _) s trivial
 have h:=h.1
 rw[List.drop_zero] at h
 exact⟨_,h⟩
theorem nd5 {c:List Pln} (hc:c.length≤1000000000):Ia6 c=some (Fe3 (bnd c),[]):=by
 have ht:Q6 ⟨24,24,24⟩ (-1)=⟨-24,-24,-24⟩:=by
  unfold Q6
  rw[show W (24*-1)=-24 from by rw[Id0];rfl]
 obtain⟨m,hm⟩:=xd1 (pts c) (rc2 c) he7 (⟨24,24,24⟩,⟨-24,-24,-24⟩)
 unfold Ia6 bnd
 simp only[l8,L0,l6,ub5 hc,ub6 hc,pb7 hc,pb8 hc,ht,hm]
 cases ful c<;>rfl
theorem Dd1 (r:V3×V3×Bool):(fd7 r1V r1V r1B).rd (Fe3 r,[])=some r:=rfl
theorem he9 {c:List Pln} (hc:c.length≤1000000000):Xa8 c=bnd c:=by unfold Xa8;rw[nd5 hc];exact Fa1 _ (Dd1 _)
theorem ie0 {c:List Pln} (hc:c.length≤1000000000):Xa9 c=true:=by unfold Xa9;rw[nd5 hc];exact Ra5 _ (Dd1 _)
theorem Vd3 (x:Pt):(x.px==x.px&&(x.py==x.py&&(x.pz==x.pz&&(x.pw==x.pw&&true))))=true:=(Xc3 x x).2 rfl
theorem Vd4 (x:Pln):(x.n.x==x.n.x&&(x.n.y==x.n.y&&(x.n.z==x.n.z&&(x.b==x.b&&true))))=true:=by simp
theorem Nb9 (l:List Pt) (hl:l.length≤1000000000):na5 l l=some (b true,[]):=by
 have h:=Ta1 (step:=aa5 ⟨l,l⟩) (mk:=fun j=>(⟨(j:Int)⟩:E4)) (c:=fun _=>false) (u:=1) (fin:=2) tX l hl
  (fun j hj=>by
   simp only[aa5,Y2,Int.toNat_natCast,o2 hj (by omega),Vd3]
   rw[btD (l0 hj),bt (e8 hj),bt (e8 hj)]
   rfl)
  (by simp only[aa5,Y2];rw[bfD (y5 (Nat.lt_irrefl _))]) 0 (Nat.zero_le _)
 rw[List.drop_zero,show (l.any fun _=>false)=false by simp] at h
 unfold na5
 simp only[l8,l6]
 rw[show (⟨0⟩:E4)=⟨((0:Nat):Int)⟩ from rfl,h,bf (by simp)]
 rfl
theorem Zb9 (l:List Pt) (hl:l.length≤1000000000):na6 l l=true:=by unfold na6;rw[Nb9 l hl];rfl
theorem ac0 (l:List Pt) (hl:l.length≤1000000000):na7 l l=true:=by unfold na7;rw[Nb9 l hl];rfl
theorem Dd2 (l:List Pln) (hl:l.length≤1000000000):db6 l l=some (b true,[]):=by
 have h:=Ta1 (step:=Ba2 ⟨l,l⟩) (mk:=fun j=>(⟨(j:Int)⟩:ca3)) (c:=fun _=>false) (u:=1) (fin:=2) tP l hl
  (fun j hj=>by
   simp only[Ba2,wa3,Int.toNat_natCast,o2 hj (by omega),Vd4]
   rw[btD (l0 hj),bt (e8 hj),bt (e8 hj)]
   rfl)
  (by simp only[Ba2,wa3];rw[bfD (y5 (Nat.lt_irrefl _))]) 0 (Nat.zero_le _)
 rw[List.drop_zero,show (l.any fun _=>false)=false by simp] at h
 unfold db6
 simp only[l8,l6]
 rw[show (⟨0⟩:ca3)=⟨((0:Nat):Int)⟩ from rfl,h,bf (by simp)]
 rfl
theorem ue6 (l:List Pln) (hl:l.length≤1000000000):vb3 l l=true:=by unfold vb3;rw[Dd2 l hl];rfl
theorem ue7 (l:List Pln) (hl:l.length≤1000000000):vb4 l l=true:=by unfold vb4;rw[Dd2 l hl];rfl
end Go.Ev.Ce
