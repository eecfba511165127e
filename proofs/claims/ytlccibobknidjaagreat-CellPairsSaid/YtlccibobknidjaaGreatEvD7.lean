/- Own work: a part of the proof. -/
import Derived.Test.YtlccibobknidjaaGreatEvSp3
import Derived.Test.YtlccibobknidjaaGreatEvD4
set_option linter.unusedVariables false
set_option linter.unusedSimpArgs false
set_option linter.unnecessarySimpa false
set_option linter.unusedSectionVars false
namespace Go.Ev.Ce
open Go Go.Ev Go.Ev.L Go.Proofs
theorem Hd4 (P:xa6) (g n:Int) (hn:n.natAbs≤9223372036854775808):lp (Aa7 P) ⟨g,n⟩=(1,⟨eu g n,0⟩) :=
 zd2 (mk:=fun g n=>(⟨g,n⟩:fa2)) (fun g n h=>by simp[Aa7,ua0,bb1,h]) (fun g=>by simp[Aa7,ua0,bb1]) g n hn
theorem Hd5 (l:List Int) (hl:l.length≤1000000000) (hb:∀ x∈l,x.natAbs≤9223372036854775808):lp (qa6 ⟨(l.length:Int)⟩) ⟨0,l,0⟩=(1,⟨l.foldl eu 0,l,l.length⟩):=by
 have := Vb9 (step := qa6 ⟨(l.length : Int)⟩) (mk := fun j a => (⟨a, l, (j : Int)⟩ : fa3)) (f := eu) (fin := 1) tI l (fun _ _ => True) hl (fun j a hj _ => ⟨by
   simp only[qa6,ua1,Int.toNat_natCast,n5,o7,Hd4 _ _ _ (hb _ (wc2 tI hj)),q8 hj (by omega)]
   rw[bt (Cb3 hj),bt (g9 hj)]
   rfl,trivial⟩) (fun a _=>by simp[qa6,ua1,bb1]) 0 (Nat.zero_le _) 0 trivial
 simpa using this.1
theorem Zb0:∀ (l:List Int) (g:Int),(l.foldl eu g).natAbs=l.foldl (fun a x=>Nat.gcd a x.natAbs) g.natAbs
 | [],_=>rfl
 | x::l,g=>by rw[List.foldl_cons,Zb0 l,List.foldl_cons,Ld7];rfl
theorem le9 (l:List Int) (hl:l.length≤1000000000) (hb:∀ x∈l,x.natAbs≤9223372036854775807) (h0:(l.foldl eu 0).natAbs≤9223372036854775807):db1 l=some (i ((l.foldl eu 0).natAbs:Int),[]):=by
 unfold db1
 simp only[n5,o7,Hd5 l hl (fun x hx=>Nat.le_succ_of_le (hb x hx))]
 generalize l.foldl eu 0=e at *
 have:W (0 - e)=-e:=by rw[Da8 (by omega) (by omega)];omega
 rw[this]
 show some (i (if -e > e then -e else e),[])=_
 congr 3
 split<;>omega
theorem Pc6 (x y:Int) (hx:0≤x) (hy:0≤y) (hb:y≤9223372036854775807):Ga6 x y=some (i (Int.gcd x y:Int),[]):=by
 unfold Ga6
 have:=zd2 (step:=oa1 ⟨⟩) (mk:=fun g n=>(⟨g,n⟩:U3)) (fun g n h=>by simp[oa1,ja5,bb1,h]) (fun g=>by simp[oa1,ja5,bb1]) x y (by omega)
 simp only[this,Ld8 hx hy]
 rfl
theorem zc5 (x y:Int) (hx:0≤x) (hy:0≤y) (hb:y≤9223372036854775807):N4 x y=(Int.gcd x y:Int):=by unfold N4;rw[Pc6 x y hx hy hb];rfl
theorem zc6 (x y:Int) (hx:0≤x) (hy:0≤y) (hb:y≤9223372036854775807):N5 x y=true:=by unfold N5;rw[Pc6 x y hx hy hb];rfl
noncomputable def rm (p:Pln) (x:Pt):Int:=W (p.b*x.pw - (p.n.x*x.px+p.n.y*x.py+p.n.z*x.pz))
theorem Xc4 (p:Pln) (x:Pt):ma7 p x=rm p x:=by
 unfold ma7 Fa1 rm
 simp only[lb3,Pb9,wc1,Vc0]
theorem zd9 (p:Pln) (x:Pt):bb9 p x=rm p x:=by
 unfold bb9 rm
 simp only[lb3,Pb9,wc1,Vc0]
 congr 1
 omega
structure Bd (p:Pln):Prop where
 x1:-4608≤p.n.x
 x2:p.n.x≤4608
 y1:-4608≤p.n.y
 y2:p.n.y≤4608
 z1:-4608≤p.n.z
 z2:p.n.z≤4608
 b1:-2097152≤p.b
 b2:p.b≤2097152
def mv (p q r:Pln):V3 :=
 ⟨(F6 q.n r.n).x*p.b+(F6 r.n p.n).x*q.b+(F6 p.n q.n).x*r.b,
  (F6 q.n r.n).y*p.b+(F6 r.n p.n).y*q.b+(F6 p.n q.n).y*r.b,
  (F6 q.n r.n).z*p.b+(F6 r.n p.n).z*q.b+(F6 p.n q.n).z*r.b⟩
def gc (v:V3) (w:Int):Int:=(Nat.gcd (Nat.gcd v.x.natAbs v.y.natAbs) (Nat.gcd v.z.natAbs w.natAbs):Nat)
def mpt (p q r:Pln):Pt×Bool :=
 if mw p q r=0 then (⟨0,0,0,0⟩,false)
 else if mw p q r < 0 then (⟨Int.tdiv (-(mv p q r).x) (gc (mv p q r) (mw p q r)),Int.tdiv (-(mv p q r).y) (gc (mv p q r) (mw p q r)),Int.tdiv (-(mv p q r).z) (gc (mv p q r) (mw p q r)),Int.tdiv (-(mw p q r)) (gc (mv p q r) (mw p q r))⟩,true)
 else (⟨Int.tdiv (mv p q r).x (gc (mv p q r) (mw p q r)),Int.tdiv (mv p q r).y (gc (mv p q r) (mw p q r)),Int.tdiv (mv p q r).z (gc (mv p q r) (mw p q r)),Int.tdiv (mw p q r) (gc (mv p q r) (mw p q r))⟩,true)
def Sm (n:Int) (x:Int):Prop:=-n≤x∧x≤n
theorem Zb1 {a b:V3} (ha:Sm 4608 a.x∧Sm 4608 a.y∧Sm 4608 a.z) (hb:Sm 4608 b.x∧Sm 4608 b.y∧Sm 4608 b.z):Sm 42467328 (F6 a b).x∧Sm 42467328 (F6 a b).y∧Sm 42467328 (F6 a b).z:=by
 obtain⟨⟨a1,a2⟩,⟨a3,a4⟩,a5,a6⟩:=ha
 obtain⟨⟨b1,b2⟩,⟨b3,b4⟩,b5,b6⟩:=hb
 have h1:=mb a3 a4 b5 b6;have h2:=mb a5 a6 b3 b4;have h3:=mb a5 a6 b1 b2;have h4:=mb a1 a2 b5 b6;have h5:=mb a1 a2 b3 b4;have h6:=mb a3 a4 b1 b2
 unfold Sm F6
 simp only
 omega
theorem Bd.n {p:Pln} (h:Bd p):Sm 4608 p.n.x∧Sm 4608 p.n.y∧Sm 4608 p.n.z:=⟨⟨h.x1,h.x2⟩,⟨h.y1,h.y2⟩,h.z1,h.z2⟩
theorem Pd3 {p q r:Pln} (hp:Bd p) (hq:Bd q) (hr:Bd r):Sm 600000000000 (mw p q r):=by
 obtain⟨⟨c1,c2⟩,⟨c3,c4⟩,c5,c6⟩:=Zb1 hq.n hr.n
 have h1:=mb hp.x1 hp.x2 c1 c2;have h2:=mb hp.y1 hp.y2 c3 c4;have h3:=mb hp.z1 hp.z2 c5 c6
 unfold Sm mw dot
 omega
theorem Pd4 {p q r:Pln} (hp:Bd p) (hq:Bd q) (hr:Bd r):Sm 300000000000000 (mv p q r).x∧Sm 300000000000000 (mv p q r).y∧Sm 300000000000000 (mv p q r).z:=by
 obtain⟨⟨c1,c2⟩,⟨c3,c4⟩,c5,c6⟩:=Zb1 hq.n hr.n
 obtain⟨⟨d1,d2⟩,⟨d3,d4⟩,d5,d6⟩:=Zb1 hr.n hp.n
 obtain⟨⟨e1,e2⟩,⟨e3,e4⟩,e5,e6⟩:=Zb1 hp.n hq.n
 have a1:=mb c1 c2 hp.b1 hp.b2;have a2:=mb c3 c4 hp.b1 hp.b2;have a3:=mb c5 c6 hp.b1 hp.b2
 have b1:=mb d1 d2 hq.b1 hq.b2;have b2:=mb d3 d4 hq.b1 hq.b2;have b3:=mb d5 d6 hq.b1 hq.b2
 have f1:=mb e1 e2 hr.b1 hr.b2;have f2:=mb e3 e4 hr.b1 hr.b2;have f3:=mb e5 e6 hr.b1 hr.b2
 unfold Sm mv
 simp only
 omega
theorem rc7 (a b:V3):N2 a b=⟨W (F6 a b).x,W (F6 a b).y,W (F6 a b).z⟩:=by
 unfold N2 F6
 simp only[wc1,Vc0]
theorem Zb2 (a b:V3):P0 a b=⟨W (F6 a b).x,W (F6 a b).y,W (F6 a b).z⟩:=by
 unfold P0 F6
 simp only[wc1,Vc0]
theorem me0 (p q r:Pln):dot r.n (F6 p.n q.n)=mw p q r:=by unfold mw dot F6;grind
theorem He0 (a b c d:Nat):[a,b,c,d].foldl Nat.gcd 0=Nat.gcd (Nat.gcd a b) (Nat.gcd c d):=by
 simp only[List.foldl_cons,List.foldl_nil,Nat.gcd_zero_left]
 rw[Nat.gcd_assoc]
theorem Xc5 {v:V3} {w:Int} (h:w≠0):0 < gc v w:=by
 unfold gc
 have:0 < Nat.gcd v.z.natAbs w.natAbs:=Nat.gcd_pos_of_pos_right _ (by omega)
 have:=Nat.gcd_pos_of_pos_right (Nat.gcd v.x.natAbs v.y.natAbs) this
 omega
theorem Pd5 {v:V3} {w:Int} (h:w≠0):gc v w≤w.natAbs:=by
 unfold gc
 have h1:Nat.gcd v.z.natAbs w.natAbs≤w.natAbs:=Nat.gcd_le_right _ (by omega)
 have h2:0 < Nat.gcd v.z.natAbs w.natAbs:=Nat.gcd_pos_of_pos_right _ (by omega)
 have h3:=Nat.gcd_le_right (m:=Nat.gcd v.x.natAbs v.y.natAbs) (n:=Nat.gcd v.z.natAbs w.natAbs) h2
 omega
theorem va0 {x:Int} (h:Sm 1000000000000000000 x):W x=x:=Da8 (by have:=h.1;omega) (by have:=h.2;omega)
theorem Sm.mono {n m x:Int} (h:Sm n x) (hn:n≤m):Sm m x:=⟨by have:=h.1;omega,by have:=h.2;omega⟩
theorem G6 {n x g:Int} (h:Sm n x) (hg:0 < g):Sm n (Int.tdiv x g):=by
 have h1:(Int.tdiv x g).natAbs≤x.natAbs:=by rw[Int.natAbs_tdiv];exact Nat.div_le_self _ _
 have:=h.1;have:=h.2
 constructor<;>omega
theorem me1 {p q r:Pln} (hp:Bd p) (hq:Bd q) (hr:Bd r) (h:(mpt p q r).2=true):0 < (mpt p q r).1.pw∧Sm 300000000000000 (mpt p q r).1.px∧Sm 300000000000000 (mpt p q r).1.py∧Sm 300000000000000 (mpt p q r).1.pz∧(mpt p q r).1.pw≤600000000000:=by
 have hw:=Pd3 hp hq hr
 obtain⟨v1,v2,v3⟩:=Pd4 hp hq hr
 have neg:∀ {n x:Int},Sm n x→Sm n (-x):=fun h=>⟨by have:=h.2;omega,by have:=h.1;omega⟩
 have pos:∀ {x:Int},0 < x→x.natAbs=(mw p q r).natAbs→0 < Int.tdiv x (gc (mv p q r) (mw p q r)):=fun {x} hx he=>by
  have h0:mw p q r≠0:=by omega
  have h1:=Xc5 (v:=mv p q r) h0
  have h2:=Pd5 (v:=mv p q r) h0
  rw[Int.tdiv_eq_ediv_of_nonneg (by omega)]
  exact Int.ediv_pos_of_pos_of_dvd hx (by omega) (by
   rw[← Int.dvd_natAbs,he]
   exact Int.natCast_dvd_natCast.2 (Nat.dvd_trans (Nat.gcd_dvd_right _ _) (Nat.gcd_dvd_right _ _)))
 unfold mpt at h ⊢
 by_cases h0:mw p q r=0
 ·rw[if_pos h0] at h;cases h
 ·rw[if_neg h0]
  have hg:=Xc5 (v:=mv p q r) h0
  by_cases h1:mw p q r < 0
  ·rw[if_pos h1]
   exact⟨pos (by omega) (by omega),G6 (neg v1) hg,G6 (neg v2) hg,G6 (neg v3) hg,(G6 (neg hw) hg).2⟩
  ·rw[if_neg h1]
   exact⟨pos (by omega) rfl,G6 v1 hg,G6 v2 hg,G6 v3 hg,(G6 hw hg).2⟩
theorem Ad0 {p q r:Pln} (hp:Bd p) (hq:Bd q) (hr:Bd r):Pa8 ⟨p,q,r⟩=some (.tup [.agg (tX.row (mpt p q r).1),b (mpt p q r).2],[]):=by
 have hw:=Pd3 hp hq hr
 obtain⟨v1,v2,v3⟩:=Pd4 hp hq hr
 have e1:Fa1 r.n (N2 p.n q.n)=mw p q r:=by
  rw[rc7]
  unfold Fa1
  simp only[lb3,Pb9,Ld5]
  show W (dot r.n (F6 p.n q.n))=_
  rw[me0,va0 (hw.mono (by omega))]
 have e2:ma6 (ma6 (ma6 ⟨0,0,0⟩ (O3 (N2 q.n r.n) p.b)) (O3 (N2 r.n p.n) q.b)) (O3 (N2 p.n q.n) r.b)=mv p q r:=by
  rw[rc7,rc7,rc7]
  unfold ma6 O3
  simp only[lb3,Pb9,sd9,Int.zero_add]
  show (⟨W (mv p q r).x,W (mv p q r).y,W (mv p q r).z⟩:V3)=_
  rw[va0 (v1.mono (by omega)),va0 (v2.mono (by omega)),va0 (v3.mono (by omega))]
 unfold Pa8
 simp only[e1,e2]
 have hb:∀ x∈[(mv p q r).x,(mv p q r).y,(mv p q r).z,mw p q r],x.natAbs≤9223372036854775807:=by
  intro x hx
  simp only[List.mem_cons,List.not_mem_nil,or_false] at hx
  unfold Sm at *
  rcases hx with rfl | rfl | rfl | rfl<;>omega
 have hf:([(mv p q r).x,(mv p q r).y,(mv p q r).z,mw p q r].foldl eu 0).natAbs=Nat.gcd (Nat.gcd (mv p q r).x.natAbs (mv p q r).y.natAbs) (Nat.gcd (mv p q r).z.natAbs (mw p q r).natAbs):=by
  rw[Zb0,← He0];rfl
 unfold mpt
 by_cases h0:mw p q r=0
 ·rw[bt (by rw[h0];rfl),if_pos h0]
  rfl
 ·have hz:(mw p q r==0)=false:=by simpa using h0
  rw[bf hz,if_neg h0]
  have hgp:=Xc5 (v:=mv p q r) h0
  have hgl:=Pd5 (v:=mv p q r) h0
  have hge:=le9 _ (by simp) hb (by rw[hf];unfold gc at hgl;unfold Sm at hw;omega)
  have hgv:ub0 [(mv p q r).x,(mv p q r).y,(mv p q r).z,mw p q r]=gc (mv p q r) (mw p q r):=by
   unfold ub0;rw[hge,hf];rfl
  have hgg:ub1 [(mv p q r).x,(mv p q r).y,(mv p q r).z,mw p q r]=true:=by
   unfold ub1;rw[hge];rfl
  rw[hgv,bt hgg]
  generalize hG:gc (mv p q r) (mw p q r)=G at *
  have hGW:W (0 - G)=-G:=by unfold Sm at hw;rw[Da8 (by omega) (by omega)];omega
  have hGn:(-G==0)=false:=by simp;omega
  have hGp:(G==0)=false:=by simp;omega
  by_cases h1:mw p q r < 0
  ·rw[bt (decide_eq_true h1),if_pos h1]
   simp only[hGW]
   rw[bf hGn,bf hGn,bf hGn,bf hGn]
   simp only[Int.tdiv_neg,← Int.neg_tdiv]
   have neg:∀ {n x:Int},Sm n x→Sm n (-x):=fun h=>⟨by have:=h.2;omega,by have:=h.1;omega⟩
   rw[va0 ((G6 (neg v1) hgp).mono (by omega)),va0 ((G6 (neg v2) hgp).mono (by omega)),va0 ((G6 (neg v3) hgp).mono (by omega)),va0 ((G6 (neg hw) hgp).mono (by omega))]
   rfl
  ·rw[bf (decide_eq_false h1),if_neg h1,bf hGp,bf hGp,bf hGp,bf hGp]
   rw[va0 ((G6 v1 hgp).mono (by omega)),va0 ((G6 v2 hgp).mono (by omega)),va0 ((G6 v3 hgp).mono (by omega)),va0 ((G6 hw hgp).mono (by omega))]
   rfl
theorem me2 {p q r:Pln} (hp:Bd p) (hq:Bd q) (hr:Bd r):Pa9 ⟨p,q,r⟩=mpt p q r:=by unfold Pa9;rw[Ad0 hp hq hr];rfl
theorem me3 {p q r:Pln} (hp:Bd p) (hq:Bd q) (hr:Bd r):Qa0 ⟨p,q,r⟩=true:=by unfold Qa0;rw[Ad0 hp hq hr];rfl
theorem kd2 {p q r:Pln} (hp:Bd p) (hq:Bd q) (hr:Bd r):cb1 p q r=some (.tup [.agg (tX.row (mpt p q r).1),b (mpt p q r).2],[]):=by
 have hw:=Pd3 hp hq hr
 obtain⟨v1,v2,v3⟩:=Pd4 hp hq hr
 have e1:Ea8 p.n (P0 q.n r.n)=mw p q r:=by
  rw[Zb2]
  unfold Ea8
  simp only[lb3,Pb9,Ld5]
  show W (dot p.n (F6 q.n r.n))=_
  rw[show dot p.n (F6 q.n r.n)=mw p q r from rfl,va0 (hw.mono (by omega))]
 have e2:Za8 (Za8 (N3 (P0 q.n r.n) p.b) (N3 (P0 r.n p.n) q.b)) (N3 (P0 p.n q.n) r.b)=mv p q r:=by
  rw[Zb2,Zb2,Zb2]
  unfold Za8 N3
  simp only[lb3,Pb9,sd9]
  show (⟨W (mv p q r).x,W (mv p q r).y,W (mv p q r).z⟩:V3)=_
  rw[va0 (v1.mono (by omega)),va0 (v2.mono (by omega)),va0 (v3.mono (by omega))]
 have neg:∀ {n x:Int},Sm n x→Sm n (-x):=fun h=>⟨by have:=h.2;omega,by have:=h.1;omega⟩
 have e3:N3 (mv p q r) (-1)=⟨-(mv p q r).x,-(mv p q r).y,-(mv p q r).z⟩:=by
  unfold N3
  have:∀ x:Int,x*-1=-x:=fun x=>by omega
  simp only[this]
  rw[va0 ((neg v1).mono (by omega)),va0 ((neg v2).mono (by omega)),va0 ((neg v3).mono (by omega))]
 have ab:∀ {x:Int},Sm 300000000000000 x→(if W (0 - x) > x then W (0 - x) else x)=(x.natAbs:Int):=fun {x} h=>by
  have:W (0 - x)=-x:=by rw[show 0 - x=-x by omega];exact va0 ((neg h).mono (by omega))
  rw[this]
  split<;>omega
 unfold cb1
 simp only[e1,e2,e3]
 rw[ab v1,ab v2,ab v3,ab (neg v1),ab (neg v2),ab (neg v3)]
 simp only[Int.natAbs_neg]
 unfold mpt
 by_cases h0:mw p q r=0
 ·rw[bt (by rw[h0];rfl),if_pos h0]
  rfl
 ·have hz:(mw p q r==0)=false:=by simpa using h0
  rw[bf hz,if_neg h0]
  have hgp:=Xc5 (v:=mv p q r) h0
  have hgl:=Pd5 (v:=mv p q r) h0
  have hw0:=hw
  unfold Sm at hw0
  have q1:((mv p q r).y.natAbs:Int)≤9223372036854775807:=by unfold Sm at v2;omega
  have k1:=zc5 ((mv p q r).x.natAbs:Int) ((mv p q r).y.natAbs:Int) (by omega) (by omega) q1
  have k2:=zc6 ((mv p q r).x.natAbs:Int) ((mv p q r).y.natAbs:Int) (by omega) (by omega) q1
  have c1:Int.gcd ((mv p q r).x.natAbs:Int) ((mv p q r).y.natAbs:Int)=Nat.gcd (mv p q r).x.natAbs (mv p q r).y.natAbs:=by simp[Int.gcd]
  have fin : ∀ w : Int, 0 < w → w.natAbs = (mw p q r).natAbs → N4 ((mv p q r).z.natAbs : Int) w = (Nat.gcd (mv p q r).z.natAbs (mw p q r).natAbs : Nat) ∧ N5 ((mv p q r).z.natAbs : Int) w = true ∧
    N4 (Nat.gcd (mv p q r).x.natAbs (mv p q r).y.natAbs:Nat) (Nat.gcd (mv p q r).z.natAbs (mw p q r).natAbs:Nat)=gc (mv p q r) (mw p q r)∧N5 (Nat.gcd (mv p q r).x.natAbs (mv p q r).y.natAbs:Nat) (Nat.gcd (mv p q r).z.natAbs (mw p q r).natAbs:Nat)=true:=by
   intro w hw1 hw2
   have l1:Nat.gcd (mv p q r).z.natAbs (mw p q r).natAbs≤(mw p q r).natAbs:=Nat.gcd_le_right _ (by omega)
   refine⟨?_,zc6 _ _ (by omega) (by omega) (by omega),?_,zc6 _ _ (by omega) (by omega) (by omega)⟩
   ·rw[zc5 _ _ (by omega) (by omega) (by omega)]
    have:Int.gcd ((mv p q r).z.natAbs:Int) w=Nat.gcd (mv p q r).z.natAbs (mw p q r).natAbs:=by unfold Int.gcd;rw[hw2];simp
    rw[this]
   ·rw[zc5 _ _ (by omega) (by omega) (by omega)]
    rfl
  by_cases h1:mw p q r < 0
  ·rw[bt (decide_eq_true h1),if_pos h1]
   have hWw:W (0 - mw p q r)=-mw p q r:=by rw[Da8 (by omega) (by omega)];omega
   rw[hWw]
   obtain⟨f1,f2,f3,f4⟩:=fin (-mw p q r) (by omega) (by omega)
   simp only[k1,k2,c1,f1,f2,f3,f4]
   generalize gc (mv p q r) (mw p q r)=G at *
   have hGp:(G==0)=false:=by simp;omega
   simp only[hGp]
   rw[va0 ((G6 (neg v1) hgp).mono (by omega)),va0 ((G6 (neg v2) hgp).mono (by omega)),va0 ((G6 (neg v3) hgp).mono (by omega)),va0 ((G6 (neg hw) hgp).mono (by omega))]
   rfl
  ·rw[bf (decide_eq_false h1),if_neg h1]
   obtain⟨f1,f2,f3,f4⟩:=fin (mw p q r) (by omega) rfl
   simp only[k1,k2,c1,f1,f2,f3,f4]
   generalize gc (mv p q r) (mw p q r)=G at *
   have hGp:(G==0)=false:=by simp;omega
   simp only[hGp]
   rw[va0 ((G6 v1 hgp).mono (by omega)),va0 ((G6 v2 hgp).mono (by omega)),va0 ((G6 v3 hgp).mono (by omega)),va0 ((G6 hw hgp).mono (by omega))]
   rfl
theorem Yd7 {p q r:Pln} (hp:Bd p) (hq:Bd q) (hr:Bd r):cb2 p q r=mpt p q r:=by unfold cb2;rw[kd2 hp hq hr];rfl
theorem Yd8 {p q r:Pln} (hp:Bd p) (hq:Bd q) (hr:Bd r):cb3 p q r=true:=by unfold cb3;rw[kd2 hp hq hr];rfl
end Go.Ev.Ce
namespace Go.Ev.Ce
open Go Go.Ev Go.Ev.L Go.Proofs
noncomputable def inn (l:List Pln) (x:Pt):Bool:=l.all fun p=>!decide (rm p x < 0)
theorem Ad1 (l:List Pln) (x:Pt):inn l x=!l.any fun p=>decide (rm p x < 0):=by unfold inn;rw[List.not_any_eq_all_not]
theorem ve7 (p:Pln) (x:Pt):Ua0 ⟨p.n.x,p.n.y,p.n.z,p.b,x.px,x.py,x.pz,x.pw⟩=⟨decide (rm p x < 0)⟩:=by
 show oa4.mk (decide (ma7 p x < 0))=_
 rw[Xc4]
theorem Yd9 (l:List Pln) (x:Pt) (hl:l.length≤1000000000):P9 ⟨l,x.px,x.py,x.pz,x.pw⟩=⟨1,if l.any (fun p=>decide (rm p x < 0)) then ((l.findIdx (fun p=>decide (rm p x < 0)):Nat):Int) else -1⟩:=by
 have h:=jb7 (step:=D7 ⟨l,(l.length:Int),x.px,x.py,x.pz,x.pw⟩) (mk:=fun j=>(⟨(j:Int)⟩:o0)) (c:=fun p=>decide (rm p x < 0)) (u:=1) (fin:=2) tP l hl
  (fun j hj=>by
   simp only[D7,B4,Int.toNat_natCast,ve7,q8 hj (by omega)]
   rw[bt (Cb3 hj),bt (g9 hj)])
  (by simp only[D7,B4];rw[bf (sb7 (Nat.lt_irrefl _))]) 0 (Nat.zero_le _)
 rw[List.drop_zero] at h
 unfold P9 C3
 simp only[n5,o7]
 rw[show (⟨0⟩:o0)=⟨((0:Nat):Int)⟩ from rfl,h]
 split
 ·simp only[Nat.zero_add];rfl
 ·rfl
theorem Pc7 (l:List Pln) (x:Pt) (hl:l.length≤1000000000):Aa8 l x=some (b (inn l x),[]):=by
 unfold Aa8 W7 y9
 simp only[n5,o7,Yd9 l x hl,Ad1]
 split
 ·rename_i h
  rw[h,show decide (((l.findIdx (fun p=>decide (rm p x < 0)):Nat):Int)≥0)=true from decide_eq_true (by omega)];rfl
 ·rename_i h
  rw[Bool.not_eq_true] at h
  rw[h];rfl
theorem zc7 (l:List Pln) (x:Pt) (hl:l.length≤1000000000):T3 l x=inn l x:=by unfold T3;rw[Pc7 l x hl];rfl
theorem zc8 (l:List Pln) (x:Pt) (hl:l.length≤1000000000):T4 l x=true:=by unfold T4;rw[Pc7 l x hl];rfl
theorem he0 (l:List Pln) (x:Pt) (hl:l.length≤1000000000):Db6 l x=some (b (inn l x),[]):=by
 have h:=bb4 (step:=Pa1 ⟨l,x.px,x.py,x.pz,x.pw⟩) (mk:=fun j=>(⟨(j:Int)⟩:na1)) (c:=fun p=>decide (rm p x < 0)) (u:=1) (fin:=2) tP l hl
  (fun j hj=>by
   simp only[Pa1,Ga7,Int.toNat_natCast,zd9,q8 hj (by omega)]
   rw[bt (Cb3 hj),bt (g9 hj)])
  (by simp only[Pa1,Ga7];rw[bf (sb7 (Nat.lt_irrefl _))]) 0 (Nat.zero_le _)
 rw[List.drop_zero] at h
 unfold Db6
 simp only[n5,o7,Ad1]
 rw[show (⟨0⟩:na1)=⟨((0:Nat):Int)⟩ from rfl,h]
 split
 ·rename_i h;rw[h];rfl
 ·rename_i h;rw[Bool.not_eq_true] at h;rw[h];rfl
theorem ve8 (l:List Pln) (x:Pt) (hl:l.length≤1000000000):cb5 l x=inn l x:=by unfold cb5;rw[he0 l x hl];rfl
theorem ve9 (l:List Pln) (x:Pt) (hl:l.length≤1000000000):cb6 l x=true:=by unfold cb6;rw[he0 l x hl];rfl
def eqX (x q:Pt):Bool:=q.px==x.px&&(q.py==x.py&&(q.pz==x.pz&&(q.pw==x.pw&&true)))
theorem Zd0 (x q:Pt):eqX x q=true↔q=x:=by
 unfold eqX
 simp only[Bool.and_true,Bool.and_eq_true,beq_iff_eq]
 exact⟨fun⟨h1,h2,h3,h4⟩=>by cases q;cases x;simp_all,fun h=>by subst h;exact⟨rfl,rfl,rfl,rfl⟩⟩
def Zb3 (l:List Pt) (x:Pt):Bool:=l.any (eqX x)
theorem kd3 (l:List Pt) (x:Pt) (hl:l.length≤1000000000):Pa2 l x=some (b (Zb3 l x),[]):=by
 have h:=bb4 (step:=ta2 ⟨l,x.px,x.py,x.pz,x.pw⟩) (mk:=fun j=>(⟨(j:Int)⟩:T1)) (c:=eqX x) (u:=1) (fin:=2) tX l hl
  (fun j hj=>by
   simp only[ta2,oa2,Int.toNat_natCast,q8 hj (by omega)]
   rw[bt (Cb3 hj),bt (g9 hj)]
   rfl)
  (by simp only[ta2,oa2];rw[bf (sb7 (Nat.lt_irrefl _))]) 0 (Nat.zero_le _)
 rw[List.drop_zero] at h
 unfold Pa2
 simp only[n5,o7]
 rw[show (⟨0⟩:T1)=⟨((0:Nat):Int)⟩ from rfl,h]
 unfold Zb3
 split
 ·rename_i h;rw[h];rfl
 ·rename_i h;rw[Bool.not_eq_true] at h;rw[h];rfl
theorem Zd1 (l:List Pt) (x:Pt) (hl:l.length≤1000000000):Ea9 l x=Zb3 l x:=by unfold Ea9;rw[kd3 l x hl];rfl
theorem Zd2 (l:List Pt) (x:Pt) (hl:l.length≤1000000000):Fa0 l x=true:=by unfold Fa0;rw[kd3 l x hl];rfl
def smb (n x:Int):Bool:=!decide (x < -n)&&!decide (x > n)
theorem Zb4 (n x:Int):smb n x=true↔Sm n x:=by unfold smb Sm;simp only[Bool.and_eq_true,Bool.not_eq_true',decide_eq_false_iff_not];omega
theorem zc9 (n:Int) (l:List Int) (hn:0≤n∧n≤1000000000) (hl:l.length≤1000000000):ua3 n l=some (b (l.all (smb n)),[]):=by
 have hW:W (0 - n)=-n:=by rw[Da8 (by omega) (by omega)];omega
 have h:=bb4 (step:=fa4 ⟨n,l,(l.length:Int)⟩) (mk:=fun j=>(⟨(j:Int)⟩:I4)) (c:=fun x=>!smb n x) (u:=1) (fin:=2) tI l hl
  (fun j hj=>by
   simp only[fa4,ba6,Int.toNat_natCast,q8 hj (by omega),hW]
   rw[bt (Cb3 hj),bt (g9 hj)]
   unfold smb
   cases decide (gL tI l j < -n)<;>cases decide (gL tI l j > n)<;>rfl)
  (by simp only[fa4,ba6];rw[bf (sb7 (Nat.lt_irrefl _))]) 0 (Nat.zero_le _)
 rw[List.drop_zero] at h
 unfold ua3
 simp only[n5,o7]
 rw[show (⟨0⟩:I4)=⟨((0:Nat):Int)⟩ from rfl,h]
 have e:(l.any fun x=>!smb n x)=!l.all (smb n):=by rw[List.not_all_eq_any_not]
 rw[e]
 cases l.all (smb n)<;>rfl
theorem gc6 (n:Int) (l:List Int) (hn:0≤n∧n≤1000000000) (hl:l.length≤1000000000):ka3 n l=l.all (smb n):=by unfold ka3;rw[zc9 n l hn hl];rfl
theorem gc7 (n:Int) (l:List Int) (hn:0≤n∧n≤1000000000) (hl:l.length≤1000000000):ka4 n l=true:=by unfold ka4;rw[zc9 n l hn hl];rfl
theorem kd4 {n:Int} (h:Sm 1000000000000000000 n):xa7 n=(n.natAbs:Int):=by
 unfold xa7
 obtain⟨h1,h2⟩:=h
 rw[Da8 (by omega) (by omega)]
 split<;>omega
theorem Zb5 {n:Int} (h:Sm 1000000000000000000 n):ta3 n=some (i (n.natAbs:Int),[]):=by
 unfold ta3
 obtain⟨h1,h2⟩:=h
 rw[Da8 (by omega) (by omega)]
 by_cases h:n < 0
 ·rw[bt (decide_eq_true h)];congr 3;omega
 ·rw[bf (decide_eq_false h)];congr 3;omega
theorem Eb8 {n:Int} (h:Sm 1000000000000000000 n):ja6 n=(n.natAbs:Int):=by unfold ja6;rw[Zb5 h];rfl
theorem Eb9 {n:Int} (h:Sm 1000000000000000000 n):ja7 n=true:=by unfold ja7;rw[Zb5 h];rfl
def g3 (v:V3):Int:=(Nat.gcd (Nat.gcd v.x.natAbs v.y.natAbs) v.z.natAbs:Nat)
theorem Pd6 (g n:Nat):eu (g:Int) (n:Int)=(Nat.gcd g n:Nat):=by rw[Ld8 (by omega) (by omega)];rfl
theorem Ic9 (P:W0) (g n:Nat) (hn:n≤1000000000000000000):lp (S6 P) ⟨(g:Int),(n:Int)⟩=(1,⟨(Nat.gcd g n:Nat),0⟩):=by
 have:=kc0 (step:=S6 P) (mk:=fun g n=>(⟨g,n⟩:J1)) (fun g n h=>by
  have h0:n≠0:=by omega
  simp[S6,Y0,bb1,h,h0]) (fun g=>by simp[S6,Y0,bb1]) (g:Int) (n:Int) (by omega) (by omega) (by omega)
 rw[this,Pd6]
theorem ud8 (l:List Int) (hl:l.length≤1000000000) (hb:∀ x∈l,Sm 1000000000000000000 x):oa7 l=some (i (l.foldl (fun g x=>Nat.gcd g x.natAbs) 0:Nat),[]):=by
 have h := Vb9 (step := ba7 ⟨(l.length : Int)⟩) (mk := fun j (a : Nat) => (⟨(a : Int), l, (j : Int)⟩ : F8)) (f := fun g x => Nat.gcd g x.natAbs) (fin := 2) tI l (fun _ _ => True) hl (fun j a hj _ => ⟨by
   have hm:=hb _ (wc2 tI hj)
   have hne:(gL tI l j==(-9223372036854775808:Int))=false:=by
    have:=hm.1
    rw[beq_eq_false_iff_ne];omega
   have hs:(gL tI l j).natAbs≤1000000000000000000:=by obtain⟨h1,h2⟩:=hm;omega
   simp only[ba7,Y1,Int.toNat_natCast,n5,o7,kd4 hm,Ic9 _ _ _ hs,q8 hj (by omega)]
   rw[bt (Cb3 hj),bt (g9 hj),bf hne]
   rfl,trivial⟩) (fun a _=>by simp only[ba7,Y1];rw[bf (sb7 (Nat.lt_irrefl _))]) 0 (Nat.zero_le _) 0 trivial
 have h:=h.1
 rw[List.drop_zero] at h
 unfold oa7
 simp only[n5,o7]
 rw[show (⟨0,l,0⟩:F8)=⟨((0:Nat):Int),l,((0:Nat):Int)⟩ from rfl,h]
 rfl
def okp (p:Pln):Bool:=[p.n.x,p.n.y,p.n.z].all (smb 4608)&&(g3 p.n==1&&[p.b].all (smb 2097152))
theorem me4 (p:Pln):Bd p↔[p.n.x,p.n.y,p.n.z].all (smb 4608)=true∧[p.b].all (smb 2097152)=true:=by
 simp only[List.all_cons,List.all_nil,Bool.and_true,Bool.and_eq_true,Zb4,Sm]
 exact⟨fun h=>⟨⟨⟨h.x1,h.x2⟩,⟨h.y1,h.y2⟩,h.z1,h.z2⟩,h.b1,h.b2⟩,fun⟨⟨⟨a,b⟩,⟨c,d⟩,e,f⟩,g,h⟩=>⟨a,b,c,d,e,f,g,h⟩⟩
theorem Xc6 {p:Pln} (h:okp p=true):Bd p:=by
 unfold okp at h
 rw[Bool.and_eq_true,Bool.and_eq_true] at h
 exact (me4 p).2 ⟨h.1,h.2.2⟩
theorem sm3 {v:V3} (h:[v.x,v.y,v.z].all (smb 4608)=true):Sm 4608 v.x∧Sm 4608 v.y∧Sm 4608 v.z:=by
 simpa only[List.all_cons,List.all_nil,Bool.and_true,Bool.and_eq_true,Zb4] using h
theorem kd5 (p:Pln):Ba0 p=some (b (okp p),[]):=by
 unfold Ba0 okp
 have l3:[p.n.x,p.n.y,p.n.z].length≤1000000000:=by simp
 have l1:[p.b].length≤1000000000:=by simp
 simp only[gc6 4608 _ (by omega) l3,gc7 4608 _ (by omega) l3,gc6 2097152 _ (by omega) l1,gc7 2097152 _ (by omega) l1]
 cases hw:[p.n.x,p.n.y,p.n.z].all (smb 4608) with
 | false=>rfl
 | true =>
  obtain⟨h1,h2,h3⟩:=sm3 hw
  have hd:=ud8 [p.n.x,p.n.y,p.n.z] l3 (by
   intro x hx
   simp only[List.mem_cons,List.not_mem_nil,or_false] at hx
   rcases hx with rfl | rfl | rfl
   ·exact h1.mono (by omega)
   ·exact h2.mono (by omega)
   ·exact h3.mono (by omega))
  have hg:([p.n.x,p.n.y,p.n.z].foldl (fun g x=>Nat.gcd g x.natAbs) 0:Nat)=Nat.gcd (Nat.gcd p.n.x.natAbs p.n.y.natAbs) p.n.z.natAbs:=by
   simp only[List.foldl_cons,List.foldl_nil,Nat.gcd_zero_left]
  have hp:Ca6 [p.n.x,p.n.y,p.n.z]=g3 p.n:=by unfold Ca6;rw[hd,hg];rfl
  have hgd:Ca7 [p.n.x,p.n.y,p.n.z]=true:=by unfold Ca7;rw[hd];rfl
  rw[hp,hgd]
  cases g3 p.n==1<;>rfl
theorem Zd3 (p:Pln):Oa0 p=okp p:=by unfold Oa0;rw[kd5 p];rfl
theorem Zd4 (p:Pln):Oa1 p=true:=by unfold Oa1;rw[kd5 p];rfl
theorem gc8 (P:fa0) (g n:Nat) (hn:n≤1000000000000000000):lp (aa8 P) ⟨(g:Int),(n:Int)⟩=(1,⟨(Nat.gcd g n:Nat),0⟩):=by
 have:=kc0 (step:=aa8 P) (mk:=fun g n=>(⟨g,n⟩:O2)) (fun g n h=>by
  have h0:n≠0:=by omega
  simp[aa8,ta4,bb1,h,h0]) (fun g=>by simp[aa8,ta4,bb1]) (g:Int) (n:Int) (by omega) (by omega) (by omega)
 rw[this,Pd6]
theorem Xc7 {v : V3} (h1 : Sm 1000000000000000000 v.x) (h2 : Sm 1000000000000000000 v.y) (h3 : Sm 1000000000000000000 v.z) :
  cb7 v=if g3 v=0 then some (.tup [.agg (tV.row ⟨0,0,0⟩),i 0],[]) else some (.tup [.agg (tV.row ⟨W (Int.tdiv v.x (g3 v)),W (Int.tdiv v.y (g3 v)),W (Int.tdiv v.z (g3 v))⟩),i (g3 v)],[]):=by
 have ne:∀ {x:Int},Sm 1000000000000000000 x→(x==(-9223372036854775808:Int))=false:=fun {x} h=>by
  have:=h.1
  rw[beq_eq_false_iff_ne];omega
 have bd:∀ {x:Int},Sm 1000000000000000000 x→x.natAbs≤1000000000000000000:=fun {x} h=>by obtain⟨h1,h2⟩:=h;omega
 have l1:=gc8 ⟨0,v.x,v.y,v.z,v.x,v.y,v.z⟩ 0 v.x.natAbs (bd h1)
 rw[Nat.gcd_zero_left] at l1
 have l2:=gc8 ⟨1,v.x,v.y,v.z,v.x,v.y,v.z⟩ v.x.natAbs v.y.natAbs (bd h2)
 have l3:=gc8 ⟨2,v.x,v.y,v.z,v.x,v.y,v.z⟩ (Nat.gcd v.x.natAbs v.y.natAbs) v.z.natAbs (bd h3)
 unfold cb7
 simp only[Eb8 h1,Eb8 h2,Eb8 h3,Eb9 h1,Eb9 h2,Eb9 h3]
 rw[show (⟨0,(v.x.natAbs:Int)⟩:O2)=⟨((0:Nat):Int),(v.x.natAbs:Int)⟩ from rfl]
 simp only[l1,l2,l3,ne h1,ne h2,ne h3]
 rw[show ((Nat.gcd (Nat.gcd v.x.natAbs v.y.natAbs) v.z.natAbs:Nat):Int)=g3 v from rfl]
 by_cases h:g3 v=0
 ·rw[if_pos h,show (g3 v==0)=true from by rw[h];rfl];rfl
 ·rw[if_neg h,show (g3 v==0)=false from by rw[beq_eq_false_iff_ne];exact h];rfl
theorem Ac0 {v:V3} (h1:Sm 1000000000000000000 v.x) (h2:Sm 1000000000000000000 v.y) (h3:Sm 1000000000000000000 v.z):(Ea0 v).2=g3 v:=by
 unfold Ea0
 rw[Xc7 h1 h2 h3]
 split
 ·rename_i h;rw[h];rfl
 ·rfl
theorem me5 {v:V3} (h1:Sm 1000000000000000000 v.x) (h2:Sm 1000000000000000000 v.y) (h3:Sm 1000000000000000000 v.z) (h:g3 v≠0):Ea0 v=(⟨W (Int.tdiv v.x (g3 v)),W (Int.tdiv v.y (g3 v)),W (Int.tdiv v.z (g3 v))⟩,g3 v):=by
 unfold Ea0
 rw[Xc7 h1 h2 h3,if_neg h]
 rfl
theorem Pd7 {v:V3} (h1:Sm 1000000000000000000 v.x) (h2:Sm 1000000000000000000 v.y) (h3:Sm 1000000000000000000 v.z):cb8 v=true:=by
 unfold cb8
 rw[Xc7 h1 h2 h3]
 split<;>rfl
theorem Pc8 (p:Pln):Pa3 p=some (b (okp p),[]):=by
 unfold Pa3 okp
 cases hw:[p.n.x,p.n.y,p.n.z].all (smb 4608) with
 | false =>
  simp only[List.all_cons,List.all_nil,Bool.and_true,smb] at hw
  cases h1:decide (p.n.x < -4608)<;>cases h2:decide (p.n.x > 4608)<;>cases h3:decide (p.n.y < -4608)<;>cases h4:decide (p.n.y > 4608)<;>cases h5:decide (p.n.z < -4608)<;>cases h6:decide (p.n.z > 4608)<;>simp only[h1,h2,h3,h4,h5,h6] at hw ⊢<;>first | rfl | cases hw
 | true =>
  obtain⟨h1,h2,h3⟩:=sm3 hw
  rw[bf (decide_eq_false (by have:=h1.1;omega)),bf (decide_eq_false (by have:=h1.2;omega)),bf (decide_eq_false (by have:=h2.1;omega)),bf (decide_eq_false (by have:=h2.2;omega)),bf (decide_eq_false (by have:=h3.1;omega)),bf (decide_eq_false (by have:=h3.2;omega))]
  have k1:=h1.mono (m:=1000000000000000000) (by omega)
  have k2:=h2.mono (m:=1000000000000000000) (by omega)
  have k3:=h3.mono (m:=1000000000000000000) (by omega)
  rw[bt (Pd7 k1 k2 k3),Ac0 k1 k2 k3]
  cases g3 p.n==1 with
  | false=>rfl
  | true =>
   simp only[List.all_cons,List.all_nil,Bool.and_true,smb,Bool.true_and]
   rw[p6]
   by_cases ha:p.b < -2097152
   ·rw[bf (decide_eq_false (by omega)),show decide (p.b < -2097152)=true from decide_eq_true ha];rfl
   ·rw[bt (decide_eq_true (by omega)),show decide (p.b < -2097152)=false from decide_eq_false ha]
    congr 3
    by_cases hc:p.b≤2097152
    ·rw[decide_eq_true hc,decide_eq_false (by omega)];rfl
    ·rw[decide_eq_false hc,decide_eq_true (by omega)];rfl
theorem Pd8 (p:Pln):Pa4 p=okp p:=by unfold Pa4;rw[Pc8 p];rfl
theorem kd6 (p:Pln):Pa5 p=true:=by unfold Pa5;rw[Pc8 p];rfl
def chk (l:List Pln):Int:=if (l.length:Int) > 48 then 2 else if l.all okp then 0 else 12
theorem kd7 (l:List Pln) (hl:l.length≤1000000000):Ia0 l=some (i (chk l),[]):=by
 have hk1:∀ p,ua4 p=some (b (!okp p),[]):=fun p=>by unfold ua4;rw[Zd4,Zd3];rfl
 have hp1:∀ p,Ha8 p=!okp p:=fun p=>by unfold Ha8;rw[hk1];rfl
 have hg1:∀ p,Ha9 p=true:=fun p=>by unfold Ha9;rw[hk1];rfl
 have h:=jb7 (step:=D8 ⟨l,(l.length:Int)⟩) (mk:=fun j=>(⟨(j:Int)⟩:o2)) (c:=fun p=>!okp p) (u:=1) (fin:=2) tP l hl
  (fun j hj=>by
   simp only[D8,B5,Int.toNat_natCast,hp1,hg1,q8 hj (by omega)]
   rw[bt (Cb3 hj),bt (g9 hj),p6])
  (by simp only[D8,B5];rw[bf (sb7 (Nat.lt_irrefl _))]) 0 (Nat.zero_le _)
 rw[List.drop_zero] at h
 have e:(l.any fun x=>!okp x)=!l.all okp:=by rw[List.not_all_eq_any_not]
 unfold Ia0 W8 z6 da7 C5 chk
 simp only[n5,o7]
 rw[show (⟨0⟩:o2)=⟨((0:Nat):Int)⟩ from rfl,h,e]
 by_cases hn:(l.length:Int) > 48
 ·rw[bt (decide_eq_true hn),if_pos hn]
 ·rw[bf (decide_eq_false hn),if_neg hn]
  cases l.all okp with
  | true=>rfl
  | false =>
   simp only[Bool.not_false,if_true,Nat.zero_add]
   show sl true (sl (Nat.beq 1 1) (sl (decide (((l.findIdx fun p=>!okp p:Nat):Int)≥0)) _ _) _) _=_
   rw[show decide (((l.findIdx fun p=>!okp p:Nat):Int)≥0)=true from decide_eq_true (by omega)]
   rfl
theorem Ad2 (l:List Pln) (hl:l.length≤1000000000):Ia1 l=chk l:=by unfold Ia1;rw[kd7 l hl];rfl
theorem Ad3 (l:List Pln) (hl:l.length≤1000000000):Ia2 l=true:=by unfold Ia2;rw[kd7 l hl];rfl
theorem Pc9 (l:List Pln) (hl:l.length≤1000000000):Pa6 l=some (i (chk l),[]):=by
 have h:=bb4 (step:=ta5 ⟨l⟩) (mk:=fun j=>(⟨(j:Int)⟩:T2)) (c:=fun p=>!okp p) (u:=1) (fin:=2) tP l hl
  (fun j hj=>by
   simp only[ta5,oa3,Int.toNat_natCast,Pd8,kd6,q8 hj (by omega)]
   rw[bt (Cb3 hj),bt (g9 hj),p6])
  (by simp only[ta5,oa3];rw[bf (sb7 (Nat.lt_irrefl _))]) 0 (Nat.zero_le _)
 rw[List.drop_zero] at h
 have e:(l.any fun x=>!okp x)=!l.all okp:=by rw[List.not_all_eq_any_not]
 unfold Pa6 chk
 simp only[n5,o7]
 rw[show (⟨0⟩:T2)=⟨((0:Nat):Int)⟩ from rfl,h,e]
 by_cases hn:(l.length:Int) > 48
 ·rw[bt (decide_eq_true hn),if_pos hn]
 ·rw[bf (decide_eq_false hn),if_neg hn]
  cases l.all okp<;>rfl
theorem Fb0 (l:List Pln) (hl:l.length≤1000000000):ma4 l=chk l:=by unfold ma4;rw[Pc9 l hl];rfl
theorem Fb1 (l:List Pln) (hl:l.length≤1000000000):ma5 l=true:=by unfold ma5;rw[Pc9 l hl];rfl
theorem kd8 {l:List Pln}:chk l=0↔l.length≤48∧∀ p∈l,okp p=true:=by
 unfold chk
 by_cases hn:(l.length:Int) > 48
 ·rw[if_pos hn]
  exact⟨fun h=>absurd h (by decide),fun h=>by omega⟩
 ·rw[if_neg hn]
  cases h:l.all okp with
  | true=>exact⟨fun _=>⟨by omega,List.all_eq_true.1 h⟩,fun _=>rfl⟩
  | false=>exact⟨fun h=>absurd h (by decide),fun h'=>by rw[List.all_eq_true.2 h'.2] at h;cases h⟩
end Go.Ev.Ce
namespace Go.Ev.Ce
open Go Go.Ev Go.Ev.L Go.Proofs
theorem btD {p:Prop} {inst:Decidable p} (h:p) {α:Type} (t e:α):sl (@decide p inst) t e=t:=bt (decide_eq_true h) t e
theorem bfD {p:Prop} {inst:Decidable p} (h:¬ p) {α:Type} (t e:α):sl (@decide p inst) t e=e:=bf (decide_eq_false h) t e
theorem p4 {j n:Nat} (h:j < n):(j:Int) < (n:Int):=Int.ofNat_lt.2 h
theorem Y2 {j n:Nat} (h:¬ j < n):¬ (j:Int) < (n:Int):=fun h'=>h (Int.ofNat_lt.1 h')
theorem Ja0 {σ τ α : Type} {step : σ → Stp σ} {mk : Nat → τ → σ} {f : α → List α → τ → τ} {g : List α → τ → τ} {fin : τ → Nat} (l : List α) (I : Nat → τ → Prop) (hl : l.length ≤ 1000000000)
  (g0:∀ a,g [] a=a) (g1:∀ x r a,g (x::r) a=g r (f x r a))
  (h:∀ j a (hj:j < l.length),I j a→step (mk j a)=.next (mk (j+1) (f l[j] (l.drop (j+1)) a))∧I (j+1) (f l[j] (l.drop (j+1)) a))
  (hf:∀ j a,l.length≤j→I j a→step (mk j a)=.exit (fin a)) (j0:Nat) (a:τ) (hi:I j0 a) :
  lp step (mk j0 a)=(fin (g (l.drop j0) a),mk (max j0 l.length) (g (l.drop j0) a))∧I (max j0 l.length) (g (l.drop j0) a):=by
 have key:=Cb4 (step:=step) (I:=fun m s=>∃ j b,m=l.length - j∧max j l.length=max j0 l.length∧s=mk j b∧I j b∧g (l.drop j) b=g (l.drop j0) a)
  (Q:=fun u s=>u=fin (g (l.drop j0) a)∧s=mk (max j0 l.length) (g (l.drop j0) a)∧I (max j0 l.length) (g (l.drop j0) a)) (fun m s ⟨j,b,hm,hj,hs,hb,he⟩=>by
   subst hs
   by_cases hlt:j < l.length
   ·obtain⟨h1,h2⟩:=h j b hlt hb
    refine .inr ⟨_,l.length - (j+1),by omega,h1,j+1,_,rfl,by omega,rfl,h2,?_⟩
    rw[← he,List.drop_eq_getElem_cons hlt,g1]
   ·have hd:l.drop j=[]:=List.drop_eq_nil_of_le (by omega)
    rw[hd,g0] at he
    have hj':j=max j0 l.length:=by omega
    subst he
    rw[← hj']
    exact .inl ⟨_,hf j _ (by omega) hb,rfl,rfl,hb⟩) (l.length - j0) (mk j0 a) (by omega) ⟨j0,a,rfl,rfl,rfl,hi,rfl⟩
 exact⟨Prod.ext key.1 key.2.1,key.2.2⟩
noncomputable def Ra3 (r:List Pln) (p q:Pln) (out:List Pt) (s:Pln):List Pt :=
 if (mpt p q s).2&&(!Zb3 out (mpt p q s).1&&inn r (mpt p q s).1) then out++[(mpt p q s).1] else out
noncomputable def nb0 (r:List Pln) (p q:Pln) (l:List Pln) (out:List Pt):List Pt:=l.foldl (Ra3 r p q) out
noncomputable def Ya7 (r:List Pln) (p:Pln):List Pln→List Pt→List Pt
 | [],out=>out
 | q::l,out=>Ya7 r p l (nb0 r p q l out)
noncomputable def Jc0 (r:List Pln):List Pln→List Pt→List Pt
 | [],out=>out
 | p::l,out=>Jc0 r l (Ya7 r p l out)
noncomputable def cor (r:List Pln):List Pt:=Jc0 r r []
def Bds (r:List Pln):Prop:=∀ p∈r,Bd p
theorem gc9 (r:List Pln) (p q:Pln) (out:List Pt) (s:Pln):(Ra3 r p q out s).length≤out.length+1:=by
 unfold Ra3
 split
 ·simp
 ·omega
theorem Zb6 (r:List Pln) (p q:Pln):∀ (l:List Pln) (out:List Pt),(nb0 r p q l out).length≤out.length+l.length
 | [],out=>Nat.le_refl _
 | s::l,out=>by
  have h1:=gc9 r p q out s
  have h2:=Zb6 r p q l (Ra3 r p q out s)
  show (nb0 r p q l (Ra3 r p q out s)).length≤_
  simp only[List.length_cons]
  omega
theorem Ac1 (r:List Pln) (p:Pln):∀ (l:List Pln) (out:List Pt),l.length≤200→(Ya7 r p l out).length≤out.length+200*l.length
 | [],out,_=>by simp[Ya7]
 | q::l,out,h=>by
  simp only[List.length_cons] at h ⊢
  have h1:=Zb6 r p q l out
  have h2:=Ac1 r p l (nb0 r p q l out) (by omega)
  show (Ya7 r p l (nb0 r p q l out)).length≤_
  omega
theorem kd9 (r:List Pln):∀ (l:List Pln) (out:List Pt),l.length≤200→(Jc0 r l out).length≤out.length+40000*l.length
 | [],out,_=>by simp[Jc0]
 | p::l,out,h=>by
  simp only[List.length_cons] at h ⊢
  have h1:=Ac1 r p l out (by omega)
  have h2:=kd9 r l (Ya7 r p l out) (by omega)
  show (Jc0 r l (Ya7 r p l out)).length≤_
  omega
theorem Xc8 (r:List Pln) (_:Bds r) (hr:r.length≤200):(cor r).length≤8000000:=by
 have:=kd9 r r [] hr
 rw[List.length_nil] at this
 show (Jc0 r r []).length≤_
 omega
noncomputable def ph (out:List Pt):Nat:=match out with
 | []=>0
 | _::_=>1
theorem ld0 (x:Pt):Zb3 [] x=false:=rfl
theorem Zb7 {α:Type} (t:Ty α) (l:List α) (n k:Nat):gL t (l.drop n) k=gL t l (n+k):=by simp[gL,List.getD_eq_getElem?_getD,List.getElem?_drop]
theorem ld1 {n:Nat} {l:List Pt} (hn:n=l.length) (h:l.length≤1000000000):(Nat.beq n (len (bL tX l))&&Nat.ble ((n+1)*32) room)=true:=by
 subst hn
 rw[J8,Nat.beq_refl,Bool.true_and]
 exact da3 (by omega)
theorem Ad4 (l:List Pt) (x:Pt):app (bL tX l) [[i x.px,i x.py,i x.pz,i x.pw]]=bL tX (l++[x]):=Da7 tX l [x]
@[reducible] noncomputable def Lb2 (k:Nat) (out:List Pt):p9:=⟨ph out,(k:Int),out.length,bL tX out⟩
theorem me6 (l:List Pt):slR tX (bL tX l) 0 l.length=l:=Cb0 tX l
theorem Zd5 (r : List Pln) (hb : Bds r) (hr : r.length ≤ 200) (a c k : Nat) (ha : a < r.length) (hc : c < r.length) (out : List Pt) (ho : out.length ≤ 1000000000) (hk : k < r.length) :
  L8 ⟨r,a,c⟩ (Lb2 k out)=.next (Lb2 (k+1) (Ra3 r r[a] r[c] out r[k])):=by
 have hin:∀ x,cb5 r x=inn r x:=fun x=>ve8 r x (by omega)
 have hig:∀ x,cb6 r x=true:=fun x=>ve9 r x (by omega)
 have hth:∀ x,Ea9 out x=Zb3 out x:=fun x=>Zd1 out x ho
 have htg:∀ x,Fa0 out x=true:=fun x=>Zd2 out x ho
 have hme:=Yd7 (hb _ (List.getElem_mem ha)) (hb _ (List.getElem_mem hc)) (hb _ (List.getElem_mem hk))
 have hmg:=Yd8 (hb _ (List.getElem_mem ha)) (hb _ (List.getElem_mem hc)) (hb _ (List.getElem_mem hk))
 unfold L8
 cases out with
 | nil =>
  show N6 Stp.next Stp.exit Stp.fail _ (Lb2 k [])=_
  simp only[N6,Lb2,Int.toNat_natCast,n5,I0,Pa0 tP ha,Pa0 tP hc,Pa0 tP hk,hme,hmg,hin,hig,hth,htg,q8 hk (by omega)]
  rw[btD (p4 hk),bt (g9 ha),bt (g9 hc),bt (g9 hk),p6]
  unfold Ra3
  rw[ld0]
  cases (mpt r[a] r[c] r[k]).2 with
  | false=>rfl
  | true =>
   cases inn r (mpt r[a] r[c] r[k]).1 with
   | false=>rfl
   | true=>rfl
 | cons o os =>
  show N7 Stp.next Stp.exit Stp.fail _ (Lb2 k (o::os))=_
  simp only[N7,Lb2,Int.toNat_natCast,n5,I0,Pa0 tP ha,Pa0 tP hc,Pa0 tP hk,hme,hmg,hin,hig,me6,Cb1,hth,htg,q8 hk (by omega)]
  rw[btD (p4 hk),bt (g9 ha),bt (g9 hc),bt (g9 hk),p6,ld1 rfl ho,Ad4]
  unfold Ra3
  cases (mpt r[a] r[c] r[k]).2 with
  | false=>rfl
  | true =>
   cases inn r (mpt r[a] r[c] r[k]).1 with
   | false=>cases Zb3 (o::os) (mpt r[a] r[c] r[k]).1<;>rfl
   | true =>
    cases Zb3 (o::os) (mpt r[a] r[c] r[k]).1 with
    | true=>rfl
    | false =>
     show Stp.next (⟨1,((k+1:Nat):Int),(o::os).length+1,bL tX (o::os++[(mpt r[a] r[c] r[k]).1])⟩:p9)=_
     simp[ph]
theorem me7 (r:List Pln) (a c k:Nat) (out:List Pt) (hk:r.length≤k):L8 ⟨r,a,c⟩ (Lb2 k out)=.exit (ph out+1):=by
 unfold L8
 have this:¬ ((k:Int) < (r.length:Int)):=by omega
 cases out with
 | nil =>
  show N6 Stp.next Stp.exit Stp.fail _ (Lb2 k [])=_
  simp only[N6,Lb2]
  rw[bfD this]
  rfl
 | cons o os =>
  show N7 Stp.next Stp.exit Stp.fail _ (Lb2 k (o::os))=_
  simp only[N7,Lb2]
  rw[bfD this]
  rfl
theorem Zd6 (r : List Pln) (hb : Bds r) (hr : r.length ≤ 200) (a c : Nat) (ha : a < r.length) (hc : c < r.length) (k : Nat) (out : List Pt) (ho : out.length ≤ 100000000) :
  ∃ m,lp (L8 ⟨r,a,c⟩) (Lb2 k out)=(ph (nb0 r r[a] r[c] (r.drop k) out)+1,Lb2 m (nb0 r r[a] r[c] (r.drop k) out)) :=
 ⟨_,(Ja0 (mk:=Lb2) (f:=fun s _ out=>Ra3 r r[a] r[c] out s) (g:=fun l out=>nb0 r r[a] r[c] l out) (fin:=fun out=>ph out+1) r (fun j o=>o.length+k≤out.length+j) (by omega)
  (fun _=>rfl) (fun _ _ _=>rfl) (fun j o hj hi=>⟨Zd5 r hb hr a c j ha hc o (by omega) hj,by have:=gc9 r r[a] r[c] o r[j];show (Ra3 r r[a] r[c] o r[j]).length+k≤out.length+(j+1);omega⟩)
  (fun j o hj _=>me7 r a c j o hj) k out (by omega)).1⟩
@[reducible] noncomputable def Lb3 (r:List Pln) (j:Nat) (out:List Pt):r6:=⟨ph out,r,(j:Int),out.length,bL tX out⟩
theorem Zd7 (r : List Pln) (hb : Bds r) (hr : r.length ≤ 200) (a j : Nat) (ha : a < r.length) (out : List Pt) (ho : out.length ≤ 100000000) (hj : j < r.length) :
  I1 ⟨a⟩ (Lb3 r j out)=.next (Lb3 r (j+1) (nb0 r r[a] r[j] (r.drop (j+1)) out)):=by
 obtain⟨m,hm⟩:=Zd6 r hb hr a j ha hj (j+1) out ho
 unfold I1
 generalize nb0 r r[a] r[j] (r.drop (j+1)) out=res at *
 cases out with
 | nil =>
  show N8 Stp.next Stp.exit Stp.fail _ (Lb3 r j [])=_
  simp only[N8,Lb3,n5,o7,q8 hj (by omega)]
  rw[show (⟨0,((j+1:Nat):Int),0,[]⟩:p9)=Lb2 (j+1) [] from rfl,hm,btD (p4 hj)]
  cases res<;>rfl
 | cons o os =>
  show N9 Stp.next Stp.exit Stp.fail _ (Lb3 r j (o::os))=_
  simp only[N9,Lb3,n5,o7,q8 hj (by omega)]
  rw[show (⟨1,((j+1:Nat):Int),(o::os).length,bL tX (o::os)⟩:p9)=Lb2 (j+1) (o::os) from rfl,hm,btD (p4 hj)]
  cases res<;>rfl
theorem me8 (r:List Pln) (a j:Nat) (out:List Pt) (hj:r.length≤j):I1 ⟨a⟩ (Lb3 r j out)=.exit (ph out+1):=by
 unfold I1
 have this:¬ ((j:Int) < (r.length:Int)):=by omega
 cases out with
 | nil =>
  show N8 Stp.next Stp.exit Stp.fail _ (Lb3 r j [])=_
  simp only[N8,Lb3]
  rw[bfD this]
  rfl
 | cons o os =>
  show N9 Stp.next Stp.exit Stp.fail _ (Lb3 r j (o::os))=_
  simp only[N9,Lb3]
  rw[bfD this]
  rfl
theorem Zd8 (r : List Pln) (hb : Bds r) (hr : r.length ≤ 200) (a : Nat) (ha : a < r.length) (j : Nat) (out : List Pt) (ho : out.length ≤ 40000 * a) :
  ∃ m,lp (I1 ⟨a⟩) (Lb3 r j out)=(ph (Ya7 r r[a] (r.drop j) out)+1,Lb3 r m (Ya7 r r[a] (r.drop j) out))∧(Ya7 r r[a] (r.drop j) out).length≤40000*(a+1):=by
 have hk:=Ja0 (step:=I1 ⟨a⟩) (mk:=Lb3 r) (f:=fun q l out=>nb0 r r[a] q l out) (g:=fun l out=>Ya7 r r[a] l out) (fin:=fun out=>ph out+1) r (fun k o=>o.length≤40000*a+200*(k - j)∧j≤k∧k≤j+r.length) (by omega)
  (fun _=>rfl) (fun _ _ _=>rfl) (fun k o hj hi=>⟨Zd7 r hb hr a k ha o (by omega) hj,by
   have:=Zb6 r r[a] r[k] (r.drop (k+1)) o
   rw[List.length_drop] at this
   show (nb0 r r[a] r[k] (r.drop (k+1)) o).length≤40000*a+200*(k+1 - j)∧j≤k+1∧k+1≤j+r.length
   omega⟩)
  (fun k o hj _=>me8 r a k o hj) j out (by omega)
 exact⟨_,hk.1,by have:=hk.2;omega⟩
@[reducible] noncomputable def Rb7 (r:List Pln) (j:Nat) (out:List Pt):y8:=⟨ph out,r,(j:Int),out.length,bL tX out⟩
theorem Ad5 (r : List Pln) (hb : Bds r) (hr : r.length ≤ 200) (a : Nat) (ha : a < r.length) (out : List Pt) (ho : out.length ≤ 40000 * a) :
  L9 ⟨⟩ (Rb7 r a out)=.next (Rb7 r (a+1) (Ya7 r r[a] (r.drop (a+1)) out))∧(Ya7 r r[a] (r.drop (a+1)) out).length≤40000*(a+1):=by
 obtain⟨m,hm,hl⟩:=Zd8 r hb hr a ha (a+1) out ho
 refine⟨?_,hl⟩
 clear hl
 unfold L9
 generalize Ya7 r r[a] (r.drop (a+1)) out=res at *
 cases out with
 | nil =>
  show O0 Stp.next Stp.exit Stp.fail _ (Rb7 r a [])=_
  simp only[O0,Rb7,n5,o7,q8 ha (by omega)]
  rw[show (⟨0,r,((a+1:Nat):Int),0,[]⟩:r6)=Lb3 r (a+1) [] from rfl,hm,btD (p4 ha)]
  cases res<;>rfl
 | cons o os =>
  show O1 Stp.next Stp.exit Stp.fail _ (Rb7 r a (o::os))=_
  simp only[O1,Rb7,n5,o7,q8 ha (by omega)]
  rw[show (⟨1,r,((a+1:Nat):Int),(o::os).length,bL tX (o::os)⟩:r6)=Lb3 r (a+1) (o::os) from rfl,hm,btD (p4 ha)]
  cases res<;>rfl
theorem me9 (r:List Pln) (j:Nat) (out:List Pt) (hj:r.length≤j):L9 ⟨⟩ (Rb7 r j out)=.exit (ph out+1):=by
 unfold L9
 have this:¬ ((j:Int) < (r.length:Int)):=by omega
 cases out with
 | nil =>
  show O0 Stp.next Stp.exit Stp.fail _ (Rb7 r j [])=_
  simp only[O0,Rb7]
  rw[bfD this]
  rfl
 | cons o os =>
  show O1 Stp.next Stp.exit Stp.fail _ (Rb7 r j (o::os))=_
  simp only[O1,Rb7]
  rw[bfD this]
  rfl
theorem Zd9 (r:List Pln) (hb:Bds r) (hr:r.length≤200):∃ m,lp (L9 ⟨⟩) (Rb7 r 0 [])=(ph (cor r)+1,Rb7 r m (cor r))∧(cor r).length≤8000000:=by
 have hk:=Ja0 (step:=L9 ⟨⟩) (mk:=Rb7 r) (f:=fun q l out=>Ya7 r q l out) (g:=fun l out=>Jc0 r l out) (fin:=fun out=>ph out+1) r (fun k o=>o.length≤40000*k∧k≤r.length) (by omega)
  (fun _=>rfl) (fun _ _ _=>rfl) (fun k o hj hi=>⟨(Ad5 r hb hr k hj o hi.1).1,(Ad5 r hb hr k hj o hi.1).2,hj⟩)
  (fun k o hj _=>me9 r k o hj) 0 [] (by simp)
 exact⟨_,hk.1,by have:=hk.2;rw[show max 0 r.length=r.length by omega] at this;have h1:=this.1;show (Jc0 r r []).length≤_;rw[List.drop_zero] at h1;omega⟩
noncomputable def slX (l:List Pt):b7×List b8:=match l with
 | []=>(.v (.slice none 0 0),[])
 | _::_=>(.sl 0 0 l.length 0,[⟨54,4,bL tX l,true,false,0⟩])
theorem Xc9 (l:List Pt):(one (r1L tX)).rd (slX l)=some l:=by
 cases l with
 | nil=>rfl
 | cons x l =>
  show Bool.rec (motive:=fun _=>Option (List Pt)) none (some (slR tX (bL tX (x::l)) 0 (x::l).length)) (Bool.and true (okS tX (bL tX (x::l)) 0 (x::l).length))=_
  rw[Cb0,Cb1]
  rfl
theorem lc1 (r:List Pln) (hb:Bds r) (hr:r.length≤200):Aa2 r=some (slX (cor r)):=by
 obtain⟨m,hm,_⟩:=Zd9 r hb hr
 unfold Aa2
 simp only[n5,o7]
 rw[show (⟨0,r,0,0,[]⟩:y8)=Rb7 r 0 [] from rfl,hm]
 cases cor r<;>rfl
theorem xa9 {ρ:Type} (R:RR ρ) {x:b7×List b8} {r:ρ} (h:R.rd x=some r):J9 R (some x)=r:=by
 show Option.rec (motive:=fun _=>ρ) R.d (fun x=>x) (R.rd x)=r
 rw[h]
theorem Ja1 {ρ:Type} (R:RR ρ) {x:b7×List b8} {r:ρ} (h:R.rd x=some r):okO R (some x)=true:=by
 show Option.rec (motive:=fun _=>Bool) false (fun _=>true) (R.rd x)=true
 rw[h]
theorem Ac2 (r:List Pln) (hb:Bds r) (hr:r.length≤200):Aa3 r=cor r:=by unfold Aa3;rw[lc1 r hb hr];exact xa9 _ (Xc9 _)
theorem Ac3 (r:List Pln) (hb:Bds r) (hr:r.length≤200):Aa4 r=true:=by unfold Aa4;rw[lc1 r hb hr];exact Ja1 _ (Xc9 _)
noncomputable def Jc1 (x:Pt):List b7:=[i x.px,i x.py,i x.pz,i x.pw,b true]
noncomputable def xb6 (l:List Pt):List (List b7):=l.map Jc1
@[reducible] noncomputable def flK:List (Nat×CK):=[(0,(.int .i64)),(1,(.int .i64)),(2,(.int .i64)),(3,(.int .i64))]
theorem ld2 (x q:Pt):Kb7 flK [i x.px,i x.py,i x.pz,i x.pw] (Jc1 q)=eqX x q:=by
 show Bool.and (decide (x.px=q.px)) (Bool.and (decide (x.py=q.py)) (Bool.and (decide (x.pz=q.pz)) (Bool.and (decide (x.pw=q.pw)) true)))=_
 unfold eqX
 have h:∀ a c:Int,decide (a=c)=(c==a):=fun a c=>by rw[Bool.eq_iff_iff,decide_eq_true_eq,beq_iff_eq];exact eq_comm
 rw[h,h,h,h]
theorem Ac4 (x:Pt):∀ l,Tb4 4 flK [i x.px,i x.py,i x.pz,i x.pw] (xb6 l)=Zb3 l x
 | []=>rfl
 | q::l=>by
  have ih:=Ac4 x l
  unfold Tb4 at ih ⊢
  show Option.rec (motive:=fun _=>Bool) false (fun r=>toB (hdA (d8 r 4))) (Bool.rec (motive:=fun _=>Option (List b7)) (jc2 flK [i x.px,i x.py,i x.pz,i x.pw] (xb6 l)) (some (Jc1 q)) (Kb7 flK [i x.px,i x.py,i x.pz,i x.pw] (Jc1 q)))=Zb3 (q::l) x
  rw[ld2]
  unfold Zb3 at ih ⊢
  rw[List.any_cons]
  cases eqX x q with
  | true=>rfl
  | false=>exact ih
theorem Qc0 (x:Pt):∀ l,Zb3 l x=false→kb5 flK [i x.px,i x.py,i x.pz,i x.pw] (Jc1 x) (xb6 l)=xb6 (l++[x])
 | [],_=>rfl
 | q::l,h=>by
  unfold Zb3 at h
  rw[List.any_cons,Bool.or_eq_false_iff] at h
  show Bool.rec (motive:=fun _=>List (List b7)) (Jc1 q::kb5 flK [i x.px,i x.py,i x.pz,i x.pw] (Jc1 x) (xb6 l)) (Jc1 x::xb6 l) (Kb7 flK [i x.px,i x.py,i x.pz,i x.pw] (Jc1 q))=_
  rw[ld2,h.1,Qc0 x l h.2]
  rfl
@[reducible] noncomputable def Lb4 (k:Nat) (out:List Pt):j6:=⟨ph out,(k:Int),out.length,bL tX out,xb6 out⟩
structure C2 (P:i9) (r:List Pln) (p q:Pln) (lo:Nat):Prop where
 ns:P.wd8=(r.drop lo).length
 gs:P.Wa6=fun k=>tP.row (gL tP r (lo+k))
 is:P.bd6=((r.drop lo).length:Int)
 p1:(⟨⟨P.G7,P.G8,P.G9⟩,P.H4⟩:Pln)=p
 q1:(⟨⟨P.aa4,P.aa5,P.aa6⟩,P.Za4⟩:Pln)=q
 r1:P.ma2=r
theorem Yc0 (s:Pln):(⟨⟨toI (hdA (tP.row s)),toI (hdA (tlA (tP.row s))),toI (hdA (tlA (tlA (tP.row s))))⟩,toI (hdA (tlA (tlA (tlA (tP.row s)))))⟩:Pln)=s:=rfl
theorem Yc1 (s:Pln):((Nat.ble 4 (len (tP.row s)))&&(J4 [(CK.int .i64),(CK.int .i64),(CK.int .i64),(CK.int .i64)] (tP.row s)))=true:=rfl
theorem ae0 {P : i9} {r : List Pln} {p q : Pln} {lo : Nat} (h : C2 P r p q lo) (hb : Bds r) (hr : r.length ≤ 200) (hp : Bd p) (hq : Bd q) (k : Nat) (out : List Pt) (ho : out.length ≤ 1000000000) (hk : k < (r.drop lo).length) :
  s6 P (Lb4 k out)=.next (Lb4 (k+1) (Ra3 r p q out (r.drop lo)[k])):=by
 have hwi:∀ x,T3 r x=inn r x:=fun x=>zc7 r x (by omega)
 have hwg:∀ x,T4 r x=true:=fun x=>zc8 r x (by omega)
 have hs:gL tP r (lo+k)=(r.drop lo)[k]:=by rw[← Zb7,Pa0 tP hk]
 have hbs:Bd (r.drop lo)[k]:=hb _ (List.mem_of_mem_drop (List.getElem_mem hk))
 have hd:(r.drop lo).length≤200:=by rw[List.length_drop];omega
 have hme:=me2 hp hq hbs
 have hmg:=me3 hp hq hbs
 obtain⟨x1,x2,x3,x4,x5,x6,x7,x8,x9,x10,x11,x12,x13,x14,x15,x16,x17,x18,x19,x20,x21⟩:=P
 obtain⟨ns,gs,is,p1,q1,r1⟩:=h
 simp only at ns gs is p1 q1 r1
 have r1:=r1.symm
 subst ns gs is r1
 unfold s6
 cases out with
 | nil =>
  show w5 Stp.next Stp.exit Stp.fail _ (Lb4 k [])=_
  simp only[w5,Lb4,Int.toNat_natCast,n5,I0,p1,q1,hs,Yc0,Yc1,hme,hmg,hwi,hwg,q8 hk (by omega)]
  rw[btD (p4 hk),bt (g9 hk),p6,p6]
  unfold Ra3
  rw[ld0]
  cases (mpt p q (r.drop lo)[k]).2 with
  | false=>rfl
  | true =>
   cases inn r (mpt p q (r.drop lo)[k]).1 with
   | false=>rfl
   | true=>rfl
 | cons o os =>
  show w6 Stp.next Stp.exit Stp.fail _ (Lb4 k (o::os))=_
  simp only[w6,Lb4,Int.toNat_natCast,n5,I0,p1,q1,hs,Yc0,Yc1,hme,hmg,hwi,hwg,q8 hk (by omega),Ac4]
  rw[btD (p4 hk),bt (g9 hk),p6,p6,ld1 rfl ho,Ad4]
  unfold Ra3
  cases (mpt p q (r.drop lo)[k]).2 with
  | false=>rfl
  | true =>
   cases hx:Zb3 (o::os) (mpt p q (r.drop lo)[k]).1 with
   | true=>rfl
   | false =>
    cases inn r (mpt p q (r.drop lo)[k]).1 with
    | false=>rfl
    | true =>
     show Stp.next (⟨1,((k+1:Nat):Int),(o::os).length+1,bL tX (o::os++[(mpt p q (r.drop lo)[k]).1]),kb5 flK [i (mpt p q (r.drop lo)[k]).1.px,i (mpt p q (r.drop lo)[k]).1.py,i (mpt p q (r.drop lo)[k]).1.pz,i (mpt p q (r.drop lo)[k]).1.pw] (Jc1 (mpt p q (r.drop lo)[k]).1) (xb6 (o::os))⟩:j6)=_
     rw[Qc0 _ _ hx]
     simp[ph]
theorem ne0 {P:i9} {r:List Pln} {p q:Pln} {lo:Nat} (h:C2 P r p q lo) (k:Nat) (out:List Pt) (hk:(r.drop lo).length≤k):s6 P (Lb4 k out)=.exit (ph out+1):=by
 obtain⟨x1,x2,x3,x4,x5,x6,x7,x8,x9,x10,x11,x12,x13,x14,x15,x16,x17,x18,x19,x20,x21⟩:=P
 obtain⟨ns,gs,is,p1,q1,r1⟩:=h
 simp only at ns gs is p1 q1 r1
 have r1:=r1.symm
 subst ns gs is r1
 unfold s6
 have this:¬ ((k:Int) < ((r.drop lo).length:Int)):=by omega
 cases out with
 | nil =>
  show w5 Stp.next Stp.exit Stp.fail _ (Lb4 k [])=_
  simp only[w5,Lb4]
  rw[bfD this]
  rfl
 | cons o os =>
  show w6 Stp.next Stp.exit Stp.fail _ (Lb4 k (o::os))=_
  simp only[w6,Lb4]
  rw[bfD this]
  rfl
theorem ae1 {P : i9} {r : List Pln} {p q : Pln} {lo : Nat} (h : C2 P r p q lo) (hb : Bds r) (hr : r.length ≤ 200) (hp : Bd p) (hq : Bd q) (out : List Pt) (ho : out.length ≤ 100000000) :
  ∃ m,lp (s6 P) (Lb4 0 out)=(ph (nb0 r p q (r.drop lo) out)+1,Lb4 m (nb0 r p q (r.drop lo) out)):=by
 have hd:(r.drop lo).length≤200:=by rw[List.length_drop];omega
 exact⟨_,(Ja0 (mk:=Lb4) (f:=fun s _ out=>Ra3 r p q out s) (g:=fun l out=>nb0 r p q l out) (fin:=fun out=>ph out+1) (r.drop lo) (fun j o=>o.length≤out.length+j) (by omega)
  (fun _=>rfl) (fun _ _ _=>rfl) (fun j o hj hi=>⟨ae0 h hb hr hp hq j o (by omega) hj,by have:=gc9 r p q o (r.drop lo)[j];show (Ra3 r p q o (r.drop lo)[j]).length≤out.length+(j+1);omega⟩)
  (fun j o hj _=>ne0 h j o hj) 0 out (by omega)).1⟩
@[reducible] noncomputable def Lb5 (r:List Pln) (j:Nat) (out:List Pt):j9:=⟨ph out,r,(j:Int),r,r,out.length,bL tX out,xb6 out⟩
structure C1 (P:j7) (r:List Pln) (p:Pln) (a:Nat):Prop where
 i3:P.is3=(a:Int)
 ns:P.cc5=(r.drop (a+1)).length
 gs:P.Za3=fun k=>tP.row (gL tP r (a+1+k))
 is:P.da0=((r.drop (a+1)).length:Int)
 p1:(⟨⟨P.G7,P.G8,P.G9⟩,P.H4⟩:Pln)=p
theorem ae2 {P : j7} {r : List Pln} {p : Pln} {a : Nat} (h : C1 P r p a) (hb : Bds r) (hr : r.length ≤ 200) (hp : Bd p) (j : Nat) (out : List Pt) (ho : out.length ≤ 100000000) (hj : j < (r.drop (a + 1)).length) :
  s7 P (Lb5 r j out)=.next (Lb5 r (j+1) (nb0 r p (r.drop (a+1))[j] ((r.drop (a+1)).drop (j+1)) out)):=by
 have hs:gL tP r (a+1+j)=(r.drop (a+1))[j]:=by rw[← Zb7,Pa0 tP hj]
 have hbs:Bd (r.drop (a+1))[j]:=hb _ (List.mem_of_mem_drop (List.getElem_mem hj))
 have hd:=hj
 rw[List.length_drop] at hd
 have hW:W (W ((a:Int)+(j:Int))+2)=((a+1+(j+1):Nat):Int):=by rw[lb3,Da8 (by omega) (by omega)];omega
 have hdl:(r.drop (a+1)).length≤4611686018427387904:=by rw[List.length_drop];omega
 have hlo:inB ((a+1+(j+1):Nat):Int) (r.length+1)=true:=g9 (by omega)
 rw[List.drop_drop]
 generalize hq:(r.drop (a+1))[j]=q at *
 obtain⟨x1,x2,x3,x4,x5,x6,x7,x8,x9,x10⟩:=P
 obtain⟨i3,ns,gs,is,p1⟩:=h
 simp only at i3 ns gs is p1
 subst i3 ns gs is
 unfold s7
 have key:∀ (P2:i9),C2 P2 r p q (a+1+(j+1))→_:=fun P2 h2=>ae1 h2 hb hr hp hbs out ho
 cases out with
 | nil =>
  show w7 Stp.next Stp.exit Stp.fail _ (Lb5 r j [])=_
  simp only[w7,Lb5,n5,o7,q8 hj hdl,hW,Int.toNat_natCast,hs,Yc1,hlo]
  rw[show (⟨0,0,0,[],[]⟩:j6)=Lb4 0 [] from rfl]
  generalize hP:i9.mk _ _ _ _ _ _ _ _ _ _ _ _ _ _ _ _ _ _ _ _ _=P2
  obtain⟨m,hm⟩:=key P2 (by
   subst hP
   exact⟨by simp,rfl,by simp,p1,Yc0 q,rfl⟩)
  rw[hm,btD (p4 hj),bt (g9 hj)]
  cases nb0 r p q (r.drop (a+1+(j+1))) []<;>rfl
 | cons o os =>
  show w8 Stp.next Stp.exit Stp.fail _ (Lb5 r j (o::os))=_
  simp only[w8,Lb5,n5,o7,q8 hj hdl,hW,Int.toNat_natCast,hs,Yc1,hlo]
  rw[show (⟨1,0,(o::os).length,bL tX (o::os),xb6 (o::os)⟩:j6)=Lb4 0 (o::os) from rfl]
  generalize hP:i9.mk _ _ _ _ _ _ _ _ _ _ _ _ _ _ _ _ _ _ _ _ _=P2
  obtain⟨m,hm⟩:=key P2 (by
   subst hP
   exact⟨by simp,rfl,by simp,p1,Yc0 q,rfl⟩)
  rw[hm,btD (p4 hj),bt (g9 hj)]
  cases nb0 r p q (r.drop (a+1+(j+1))) (o::os)<;>rfl
theorem ne1 {P:j7} {r:List Pln} {p:Pln} {a:Nat} (h:C1 P r p a) (j:Nat) (out:List Pt) (hj:(r.drop (a+1)).length≤j):s7 P (Lb5 r j out)=.exit (ph out+1):=by
 obtain⟨x1,x2,x3,x4,x5,x6,x7,x8,x9,x10⟩:=P
 obtain⟨i3,ns,gs,is,p1⟩:=h
 simp only at i3 ns gs is p1
 subst i3 ns gs is
 unfold s7
 have this:¬ ((j:Int) < ((r.drop (a+1)).length:Int)):=by omega
 cases out with
 | nil =>
  show w7 Stp.next Stp.exit Stp.fail _ (Lb5 r j [])=_
  simp only[w7,Lb5]
  rw[bfD this]
  rfl
 | cons o os =>
  show w8 Stp.next Stp.exit Stp.fail _ (Lb5 r j (o::os))=_
  simp only[w8,Lb5]
  rw[bfD this]
  rfl
theorem ae3 {P : j7} {r : List Pln} {p : Pln} {a : Nat} (h : C1 P r p a) (hb : Bds r) (hr : r.length ≤ 200) (hp : Bd p) (out : List Pt) (ho : out.length ≤ 10000000) :
  ∃ m,lp (s7 P) (Lb5 r 0 out)=(ph (Ya7 r p (r.drop (a+1)) out)+1,Lb5 r m (Ya7 r p (r.drop (a+1)) out)):=by
 have hd:(r.drop (a+1)).length≤200:=by rw[List.length_drop];omega
 exact⟨_,(Ja0 (mk:=Lb5 r) (f:=fun q l out=>nb0 r p q l out) (g:=fun l out=>Ya7 r p l out) (fin:=fun out=>ph out+1) (r.drop (a+1)) (fun k o=>o.length≤out.length+200*k) (by omega)
  (fun _=>rfl) (fun _ _ _=>rfl) (fun k o hj hi=>⟨ae2 h hb hr hp k o (by omega) hj,by
   have:=Zb6 r p (r.drop (a+1))[k] ((r.drop (a+1)).drop (k+1)) o
   rw[List.length_drop] at this
   show (nb0 r p (r.drop (a+1))[k] ((r.drop (a+1)).drop (k+1)) o).length≤out.length+200*(k+1)
   omega⟩)
  (fun k o hj _=>ne1 h k o hj) 0 out (by omega)).1⟩
@[reducible] noncomputable def Rb8 (r:List Pln) (j:Nat) (out:List Pt):l7:=⟨ph out,r,(j:Int),r,r,out.length,bL tX out,xb6 out⟩
theorem ae4 {P : p5} (r : List Pln) (h : P.La0 = (r.length : Int)) (hb : Bds r) (hr : r.length ≤ 200) (a : Nat) (ha : a < r.length) (out : List Pt) (ho : out.length ≤ 40000 * a) :
  s8 P (Rb8 r a out)=.next (Rb8 r (a+1) (Ya7 r r[a] (r.drop (a+1)) out)):=by
 have hbs:Bd r[a]:=hb _ (List.getElem_mem ha)
 have hlo:inB ((a+1:Nat):Int) (r.length+1)=true:=g9 (by omega)
 have key:∀ (P2:j7),C1 P2 r r[a] a→_:=fun P2 h2=>ae3 h2 hb hr hbs out (by omega)
 obtain⟨x1⟩:=P
 simp only at h
 subst h
 unfold s8
 cases out with
 | nil =>
  show w9 Stp.next Stp.exit Stp.fail _ (Rb8 r a [])=_
  simp only[w9,Rb8,n5,o7,q8 ha (by omega),Int.toNat_natCast,hlo,Pa0 tP ha]
  rw[show (⟨0,r,0,r,r,0,[],[]⟩:j9)=Lb5 r 0 [] from rfl]
  generalize hP:j7.mk _ _ _ _ _ _ _ _ _ _=P2
  obtain⟨m,hm⟩:=key P2 (by
   subst hP
   exact⟨rfl,by simp,rfl,by simp,rfl⟩)
  rw[hm,btD (p4 ha),bt (g9 ha)]
  cases Ya7 r r[a] (r.drop (a+1)) []<;>rfl
 | cons o os =>
  show y5 Stp.next Stp.exit Stp.fail _ (Rb8 r a (o::os))=_
  simp only[y5,Rb8,n5,o7,q8 ha (by omega),Int.toNat_natCast,hlo,Pa0 tP ha]
  rw[show (⟨1,r,0,r,r,(o::os).length,bL tX (o::os),xb6 (o::os)⟩:j9)=Lb5 r 0 (o::os) from rfl]
  generalize hP:j7.mk _ _ _ _ _ _ _ _ _ _=P2
  obtain⟨m,hm⟩:=key P2 (by
   subst hP
   exact⟨rfl,by simp,rfl,by simp,rfl⟩)
  rw[hm,btD (p4 ha),bt (g9 ha)]
  cases Ya7 r r[a] (r.drop (a+1)) (o::os)<;>rfl
theorem ne2 {P:p5} (r:List Pln) (h:P.La0=(r.length:Int)) (j:Nat) (out:List Pt) (hj:r.length≤j):s8 P (Rb8 r j out)=.exit (ph out+1):=by
 obtain⟨x1⟩:=P
 simp only at h
 subst h
 unfold s8
 have this:¬ ((j:Int) < (r.length:Int)):=by omega
 cases out with
 | nil =>
  show w9 Stp.next Stp.exit Stp.fail _ (Rb8 r j [])=_
  simp only[w9,Rb8]
  rw[bfD this]
  rfl
 | cons o os =>
  show y5 Stp.next Stp.exit Stp.fail _ (Rb8 r j (o::os))=_
  simp only[y5,Rb8]
  rw[bfD this]
  rfl
theorem ae5 (r:List Pln) (hb:Bds r) (hr:r.length≤200):∃ m,lp (s8 ⟨(r.length:Int)⟩) (Rb8 r 0 [])=(ph (cor r)+1,Rb8 r m (cor r)) :=
 ⟨_,(Ja0 (step:=s8 ⟨(r.length:Int)⟩) (mk:=Rb8 r) (f:=fun q l out=>Ya7 r q l out) (g:=fun l out=>Jc0 r l out) (fin:=fun out=>ph out+1) r (fun k o=>o.length≤40000*k) (by omega)
  (fun _=>rfl) (fun _ _ _=>rfl) (fun k o hj hi=>⟨ae4 r rfl hb hr k hj o hi,by
   have h1:=Ac1 r r[k] (r.drop (k+1)) o (by rw[List.length_drop];omega)
   rw[List.length_drop] at h1
   show (Ya7 r r[k] (r.drop (k+1)) o).length≤40000*(k+1)
   omega⟩)
  (fun k o hj _=>ne2 r rfl k o hj) 0 [] (by simp)).1⟩
theorem Ac5 (r:List Pln) (hb:Bds r) (hr:r.length≤200):R8 r=some (slX (cor r)):=by
 obtain⟨m,hm⟩:=ae5 r hb hr
 unfold R8
 simp only[n5,o7]
 rw[show (⟨0,r,0,r,r,0,[],[]⟩:l7)=Rb8 r 0 [] from rfl,hm]
 cases cor r<;>rfl
theorem Qc1 (r:List Pln) (hb:Bds r) (hr:r.length≤200):R9 r=cor r:=by unfold R9;rw[Ac5 r hb hr];exact xa9 _ (Xc9 _)
theorem Qc2 (r:List Pln) (hb:Bds r) (hr:r.length≤200):S1 r=true:=by unfold S1;rw[Ac5 r hb hr];exact Ja1 _ (Xc9 _)
end Go.Ev.Ce
namespace Go.Ev.Ce
open Go Go.Ev Go.Ev.L Go.Proofs
noncomputable def slP (l:List Pln):b7×List b8:=(.sl 0 0 l.length 0,[⟨50,4,bL tP l,true,false,0⟩])
theorem Rb9 (l:List Pln):(one (r1L tP)).rd (slP l)=some l:=by
 show Bool.rec (motive:=fun _=>Option (List Pln)) none (some (slR tP (bL tP l) 0 l.length)) (Bool.and true (okS tP (bL tP l) 0 l.length))=_
 rw[Cb0,Cb1]
 rfl
theorem Ad6 {α:Type} (t:Ty α) (l:List α):(one (r1L t)).rd (eL t l,[])=some l:=by
 show Bool.rec (motive:=fun _=>Option (List α)) none (some (rt t l)) (Bool.and (Nat.beq t.es t.es) (okE t l))=_
 rw[n5,I0,Nat.beq_refl]
 rfl
noncomputable def ws:List Pln:=[⟨⟨1,0,0⟩,24⟩,⟨⟨-1,0,0⟩,24⟩,⟨⟨0,1,0⟩,24⟩,⟨⟨0,-1,0⟩,24⟩,⟨⟨0,0,1⟩,24⟩,⟨⟨0,0,-1⟩,24⟩]
theorem he1:Bds ws:=by
 intro p hp
 have:okp p=true:=by
  have h:ws.all okp=true:=by decide
  exact List.all_eq_true.1 h p hp
 exact Xc6 this
noncomputable def Pd9 (lo hi:V3):List Pln:=[⟨⟨1,0,0⟩,hi.x⟩,⟨⟨-1,0,0⟩,W (0 - lo.x)⟩,⟨⟨0,1,0⟩,hi.y⟩,⟨⟨0,-1,0⟩,W (0 - lo.y)⟩,⟨⟨0,0,1⟩,hi.z⟩,⟨⟨0,0,-1⟩,W (0 - lo.z)⟩]
theorem Qd0 (lo hi:V3):Jb4 lo hi=some (slP (Pd9 lo hi)):=rfl
theorem he3 (lo hi:V3):pb3 lo hi=Pd9 lo hi:=by unfold pb3;rw[Qd0];exact xa9 _ (Rb9 _)
theorem he4 (lo hi:V3):Za9 lo hi=true:=by unfold Za9;rw[Qd0];exact Ja1 _ (Rb9 _)
theorem ne3:Pd9 ⟨-24,-24,-24⟩ ⟨24,24,24⟩=ws:=by
 simp only[Pd9,ws]
 rw[show W (0 - -24)=24 from by rw[Fd5];rfl]
theorem Ad7 {l:List Pln}:Nat.beq (len (bL tP l)) 0=l.isEmpty:=by rw[J8];cases l<;>rfl
theorem Qd1 (c:List Pln) (hc:c.length≤1000000000):pb4 c=some (slP (c++ws)):=by
 unfold pb4
 simp only[Oa9,he3,he4,ne3,Ad7]
 have h6:(0+len (bL tP c))=c.length:=by rw[J8];omega
 have hw:len (bL tP ws)=6:=rfl
 rw[h6,hw]
 have e1:Nat.ble (c.length*32) room=true:=da3 (by omega)
 have e2:Nat.ble ((c.length+6)*32) room=true:=da3 (by omega)
 have e3:app (app [] (bL tP c)) (bL tP ws)=bL tP (c++ws):=Da7 tP c ws
 have e4:Nat.beq c.length (len (app [] (bL tP c)))=true:=by
  rw[show app [] (bL tP c)=bL tP c from rfl,J8,Nat.beq_refl]
 rw[e1,e2,e3,e4]
 cases c with
 | nil=>rfl
 | cons p c =>
  show some (b7.sl 0 0 ((p::c).length+6) 0,[(⟨50,4,bL tP (p::c++ws),true,false,0⟩:b8)])=_
  unfold slP
  rw[List.length_append]
  rfl
theorem Qc3 (c:List Pln) (hc:c.length≤1000000000):xa4 c=c++ws:=by unfold xa4;rw[Qd1 c hc];exact xa9 _ (Rb9 _)
theorem Qc4 (c:List Pln) (hc:c.length≤1000000000):xa5 c=true:=by unfold xa5;rw[Qd1 c hc];exact Ja1 _ (Rb9 _)
theorem Qd2 {l:List (List Pln)} {j:Nat} (h:j < l.length):gL (tLs tP) l j=l[j]:=Pa0 (tLs tP) h
theorem Qd3 (ls:List (List Pln)) (hn:ls.length≤1000000000) (hl:ls.flatten.length≤1000000000):∃ m,lp (E4 ⟨ls,ls,(ls.length:Int)⟩) ⟨0,0⟩=(1,⟨(ls.flatten.length:Int),m⟩):=by
 have h:=Ja0 (step:=E4 ⟨ls,ls,(ls.length:Int)⟩) (mk:=fun j (n:Nat)=>(⟨(n:Int),(j:Int)⟩:q9)) (f:=fun l _ n=>n+l.length) (g:=fun l n=>n+l.flatten.length) (fin:=fun _=>1) ls
  (fun j n=>n+(ls.drop j).flatten.length=ls.flatten.length) hn (fun _=>rfl) (fun x r a=>by simp only[List.flatten_cons,List.length_append];omega)
  (fun j n hj hi=>by
   rw[List.drop_eq_getElem_cons hj,List.flatten_cons,List.length_append] at hi
   have hW:W ((n:Int)+(ls[j].length:Int))=((n+ls[j].length:Nat):Int):=by rw[Da8 (by omega) (by omega)];omega
   refine⟨?_,by show n+ls[j].length+(ls.drop (j+1)).flatten.length=_;omega⟩
   simp only[E4,I8,Int.toNat_natCast,Qd2 hj,hW,q8 hj (by omega)]
   rw[btD (p4 hj),bt (g9 hj),bfD (by omega)])
  (fun j n hj _=>by
   simp only[E4,I8]
   rw[bfD (by omega)]) 0 0 (by simp)
 have h:=h.1
 rw[List.drop_zero,Nat.zero_add] at h
 exact⟨_,h⟩
theorem Qd4 {ls:List (List Pln)} (h:ls.flatten=[]) {j:Nat} (hj:j < ls.length):ls[j]=[]:=by
 rw[List.flatten_eq_nil_iff] at h
 exact h _ (List.getElem_mem hj)
theorem ae6 (ls:List (List Pln)) (hn:ls.length≤1000000000) (hl:ls.flatten=[]):∃ s,lp (A4 ⟨ls,(ls.length:Int)⟩) ⟨0,0,0,[]⟩=(1,s):=by
 have h:=Ja0 (step:=A4 ⟨ls,(ls.length:Int)⟩) (mk:=fun j (_:Unit)=>(⟨0,(j:Int),0,[]⟩:l5)) (f:=fun _ _ n=>n) (g:=fun _ n=>n) (fin:=fun _=>1) ls
  (fun _ _=>True) hn (fun _=>rfl) (fun x r a=>rfl)
  (fun j n hj hi=>by
   refine⟨?_,trivial⟩
   show y6 Stp.next Stp.exit Stp.fail _ _=_
   simp only[y6,Int.toNat_natCast,Qd2 hj,Qd4 hl hj,q8 hj (by omega)]
   rw[btD (p4 hj),bt (g9 hj)]
   rfl)
  (fun j n hj _=>by
   show y6 Stp.next Stp.exit Stp.fail _ _=_
   simp only[y6]
   rw[bfD (by omega)]) 0 () trivial
 exact⟨_,h.1⟩
noncomputable def nb1 (t:Nat) (d:List Pln):List (List b7):=app (bL tP d) (List.replicate (t - d.length) Xc2)
theorem Qd5 (t:Nat) (d:List Pln) (h:d.length≤t):len (nb1 t d)=t:=by
 unfold nb1
 rw[D1,l9,List.length_append,← l9,J8,List.length_replicate]
 omega
theorem Qd6 (t:Nat) (d l:List Pln) (h:d.length+l.length≤t):app (D3 (nb1 t d) d.length) (app (bL tP l) (d8 (nb1 t d) (d.length+len (bL tP l))))=nb1 t (d++l):=by
 have hd:(bL tP d).length=d.length:=by rw[← l9,J8]
 unfold nb1
 rw[J8,← Da7]
 simp only[D1,D4,D5]
 rw[List.take_left' hd,List.append_assoc]
 congr 2
 rw[List.drop_append,List.drop_eq_nil_of_le (by omega),List.nil_append,hd,List.drop_replicate,List.length_append]
 congr 1
 omega
theorem Qd7 (ls:List (List Pln)) (hn:ls.length≤1000000000):∃ m,lp (A4 ⟨ls,(ls.length:Int)⟩) ⟨1,0,0,List.replicate ls.flatten.length Xc2⟩=(2,⟨1,m,ls.flatten.length,bL tP ls.flatten⟩):=by
 have h:=Ja0 (step:=A4 ⟨ls,(ls.length:Int)⟩) (mk:=fun j (d:List Pln)=>(⟨1,(j:Int),d.length,nb1 ls.flatten.length d⟩:l5)) (f:=fun l _ d=>d++l) (g:=fun l d=>d++l.flatten) (fin:=fun _=>2) ls
  (fun j d=>d.length+(ls.drop j).flatten.length=ls.flatten.length) hn (fun _=>by simp) (fun x r a=>by simp)
  (fun j d hj hi=>by
   rw[List.drop_eq_getElem_cons hj,List.flatten_cons,List.length_append] at hi
   refine⟨?_,by show (d++ls[j]).length+(ls.drop (j+1)).flatten.length=_;rw[List.length_append];omega⟩
   show y7 Stp.next Stp.exit Stp.fail _ _=_
   simp only[y7,Int.toNat_natCast,Qd2 hj,q8 hj (by omega),Oa9]
   rw[Qd6 _ _ _ (by omega),Qd5 _ _ (by omega),J8,btD (p4 hj),bt (g9 hj),bt (by rw[Nat.ble_eq];omega),List.length_append])
  (fun j d hj _=>by
   show y7 Stp.next Stp.exit Stp.fail _ _=_
   simp only[y7]
   rw[bfD (by omega)]) 0 [] (by simp)
 have h:=h.1
 rw[List.drop_zero,List.nil_append] at h
 have e:nb1 ls.flatten.length ls.flatten=bL tP ls.flatten:=by unfold nb1;rw[Nat.sub_self,D1];simp
 rw[e] at h
 exact⟨_,h⟩
theorem he5 (ls:List (List Pln)) (hn:ls.length≤1000000000) (hl:ls.flatten.length≤1000000000):qb1 ls=some (slP (ls.flatten++ws)):=by
 have hc:da6 ls=if ls.flatten=[] then ⟨1,0,[]⟩ else ⟨2,ls.flatten.length,bL tP ls.flatten⟩:=by
  unfold da6 J3
  simp only[n5,o7]
  obtain⟨m,hm⟩:=Qd3 ls hn hl
  rw[hm]
  by_cases h0:ls.flatten=[]
  ·obtain⟨s,hs⟩:=ae6 ls hn h0
   rw[if_pos h0,hs]
   rw[show (⟨(ls.flatten.length:Int),m⟩:q9)=⟨0,m⟩ by rw[h0];rfl]
   rfl
  ·obtain⟨m',hm'⟩:=Qd7 ls hn
   rw[if_neg h0]
   simp only[Int.toNat_natCast]
   rw[hm']
   have h1:0 < ls.flatten.length:=List.length_pos_iff.2 h0
   have e1:((ls.flatten.length:Int)==0)=false:=by rw[beq_eq_false_iff_ne];omega
   have e2:Bool.and (decide ((0:Int) < (ls.flatten.length:Int))) (Nat.ble (ls.flatten.length*32) room)=true:=by
    rw[da3 (by omega),decide_eq_true (by omega)]
    rfl
   rw[e1,e2]
   rfl
 unfold qb1
 simp only[n5,I0,hc]
 by_cases h0:ls.flatten=[]
 ·rw[if_pos h0,h0];rfl
 ·rw[if_neg h0]
  generalize ls.flatten=c at *
  have e:∀ (d:List Pln) (p:Pln),app (bL tP d) [[i p.n.x,i p.n.y,i p.n.z,i p.b]]=bL tP (d++[p]):=fun d p=>Da7 tP d [p]
  have c1:=e c ⟨⟨1,0,0⟩,24⟩
  have c2:=e (c++[⟨⟨1,0,0⟩,24⟩]) ⟨⟨-1,0,0⟩,24⟩
  have c3:=e (c++[⟨⟨1,0,0⟩,24⟩]++[⟨⟨-1,0,0⟩,24⟩]) ⟨⟨0,1,0⟩,24⟩
  have c4:=e (c++[⟨⟨1,0,0⟩,24⟩]++[⟨⟨-1,0,0⟩,24⟩]++[⟨⟨0,1,0⟩,24⟩]) ⟨⟨0,-1,0⟩,24⟩
  have c5:=e (c++[⟨⟨1,0,0⟩,24⟩]++[⟨⟨-1,0,0⟩,24⟩]++[⟨⟨0,1,0⟩,24⟩]++[⟨⟨0,-1,0⟩,24⟩]) ⟨⟨0,0,1⟩,24⟩
  have c6:=e (c++[⟨⟨1,0,0⟩,24⟩]++[⟨⟨-1,0,0⟩,24⟩]++[⟨⟨0,1,0⟩,24⟩]++[⟨⟨0,-1,0⟩,24⟩]++[⟨⟨0,0,1⟩,24⟩]) ⟨⟨0,0,-1⟩,24⟩
  simp only at c1 c2 c3 c4 c5 c6
  simp only[c1,c2,c3,c4,c5,c6,J8,List.length_append,List.length_singleton]
  have g:∀ n:Nat,n≤1000000010→(Nat.beq n n&&Nat.ble ((n+1)*32) room)=true:=fun n h=>by rw[Nat.beq_refl,da3 (by omega)];rfl
  rw[g _ (by omega),g _ (by omega),g _ (by omega),g _ (by omega),g _ (by omega),g _ (by omega)]
  show some (b7.sl 0 0 (c.length+1+1+1+1+1+1) 0,[(⟨50,4,bL tP _,true,false,0⟩:b8)])=_
  unfold slP
  rw[List.length_append]
  simp only[List.append_assoc]
  rfl
theorem we0 (ls:List (List Pln)) (hn:ls.length≤1000000000) (hl:ls.flatten.length≤1000000000):Ma6 ls=ls.flatten++ws:=by unfold Ma6;rw[he5 ls hn hl];exact xa9 _ (Rb9 _)
theorem we1 (ls:List (List Pln)) (hn:ls.length≤1000000000) (hl:ls.flatten.length≤1000000000):Ma7 ls=true:=by unfold Ma7;rw[he5 ls hn hl];exact Ja1 _ (Rb9 _)
theorem he6 (c:List Pln) (hc:c.length≤1000000000):Ma6 [c]=c++ws:=by
 have:[c].flatten=c:=by simp
 rw[we0 [c] (by simp) (by rw[this];exact hc),this]
theorem he7 (c:List Pln) (hc:c.length≤1000000000):Ma7 [c]=true:=by
 have:[c].flatten=c:=by simp
 exact we1 [c] (by simp) (by rw[this];exact hc)
theorem Qc5 (ls:List (List Pln)) (hn:ls.length≤1000000000) (hl:∀ c∈ls,c.length≤1000000000):Ia5 ls=some (b (ls.all fun c=>chk c==0),[]):=by
 have hv:∀ c∈ls,Ia3 c=!(chk c==0)∧Ia4 c=true:=fun c hc=>by
  have:ua6 c=some (b (!(chk c==0)),[]):=by
   unfold ua6
   simp only[n5,I0,Ad2 c (hl c hc),Ad3 c (hl c hc)]
   rfl
  unfold Ia3 Ia4
  rw[this]
  exact⟨rfl,rfl⟩
 have h:=jb7 (step:=D9 ⟨ls,(ls.length:Int)⟩) (mk:=fun j=>(⟨(j:Int)⟩:o3)) (c:=fun c=>!(chk c==0)) (u:=1) (fin:=2) (tLs tP) ls hn
  (fun j hj=>by
   have hm:=hv _ (wc2 (tLs tP) hj)
   simp only[D9,B6,Int.toNat_natCast,n5,I0,hm.1,hm.2,q8 hj (by omega)]
   rw[btD (p4 hj),bt (g9 hj),p6,p6])
  (by simp only[D9,B6];rw[bfD (Y2 (Nat.lt_irrefl _))]) 0 (Nat.zero_le _)
 rw[List.drop_zero] at h
 have e:(ls.any fun c=>!(chk c==0))=!ls.all fun c=>chk c==0:=by rw[List.not_all_eq_any_not]
 unfold Ia5 W9 z7 da8 C6
 simp only[n5,o7]
 rw[show (⟨0⟩:o3)=⟨((0:Nat):Int)⟩ from rfl,h,e]
 cases ls.all fun c=>chk c==0 with
 | true=>rfl
 | false =>
  simp only[Bool.not_false,if_true,Nat.zero_add]
  show sl true (sl (Nat.beq 1 1) (some (b (!(decide (((ls.findIdx fun c=>!(chk c==0):Nat):Int)≥0))),[])) _) _=_
  rw[show decide (((ls.findIdx fun c=>!(chk c==0):Nat):Int)≥0)=true from decide_eq_true (by omega)]
  rfl
theorem ld3 (ls:List (List Pln)) (hn:ls.length≤1000000000) (hl:∀ c∈ls,c.length≤1000000000):Z0 ls=ls.all fun c=>chk c==0:=by unfold Z0;rw[Qc5 ls hn hl];rfl
theorem ld4 (ls:List (List Pln)) (hn:ls.length≤1000000000) (hl:∀ c∈ls,c.length≤1000000000):Z1 ls=true:=by unfold Z1;rw[Qc5 ls hn hl];rfl
theorem Zb8 (c:List Pln) (hc:c.length≤1000000000):Z0 [c]=(chk c==0):=by
 rw[ld3 [c] (by simp) (by simpa using hc)]
 simp
theorem Zb9 (c:List Pln) (hc:c.length≤1000000000):Z1 [c]=true:=ld4 [c] (by simp) (by simpa using hc)
noncomputable def pos (X:List Pt) (p:Pln):Bool:=X.any fun x=>decide (rm p x > 0)
noncomputable def ld5 (r:List Pln):Bool:=r.all (pos (cor r))
theorem Qd8 (p:Pln) (X:List Pt) (hX:X.length≤1000000000):fa7 ⟨p.n.x,p.n.y,p.n.z,p.b,X⟩=⟨1,!pos X p⟩:=by
 have hw:∀ x:Pt,na4 ⟨x.px,x.py,x.pz,x.pw,p.n.x,p.n.y,p.n.z,p.b⟩=⟨decide (rm p x > 0)⟩:=fun x=>by
  show O4.mk (decide (ma7 p x > 0))=_
  rw[Xc4]
 have h:=jb7 (step:=G1 ⟨X,(X.length:Int),p.n.x,p.n.y,p.n.z,p.b⟩) (mk:=fun j=>(⟨(j:Int)⟩:p0)) (c:=fun x=>decide (rm p x > 0)) (u:=1) (fin:=2) tX X hX
  (fun j hj=>by
   simp only[G1,E0,Int.toNat_natCast,hw,q8 hj (by omega)]
   rw[btD (p4 hj),bt (g9 hj)])
  (by simp only[G1,E0];rw[bfD (Y2 (Nat.lt_irrefl _))]) 0 (Nat.zero_le _)
 rw[List.drop_zero] at h
 unfold fa7 M1 Z3 A6 ha5 E5 pos
 simp only[n5,o7]
 rw[show (⟨0⟩:p0)=⟨((0:Nat):Int)⟩ from rfl,h]
 cases X.any fun x=>decide (rm p x > 0) with
 | false=>rfl
 | true =>
  simp only[if_true,Nat.zero_add]
  show V0.mk 1 (!(decide (((X.findIdx fun x=>decide (rm p x > 0):Nat):Int)≥0)))=_
  rw[show decide (((X.findIdx fun x=>decide (rm p x > 0):Nat):Int)≥0)=true from decide_eq_true (by omega)]
theorem Ad8 (r:List Pln) (hb:Bds r) (hr:r.length≤200):ca2 r=some (b (ld5 r),[]):=by
 have hX:(cor r).length≤1000000000:=Nat.le_trans (Xc8 r hb hr) (by omega)
 have h:=jb7 (step:=E1 ⟨r,(r.length:Int)⟩) (mk:=fun j=>(⟨(j:Int),cor r⟩:o4)) (c:=fun p=>!pos (cor r) p) (u:=1) (fin:=2) tP r (by omega)
  (fun j hj=>by
   simp only[E1,B7,Int.toNat_natCast,n5,o7,Qd8 _ _ hX,q8 hj (by omega)]
   rw[btD (p4 hj),bt (g9 hj)]
   rfl)
  (by simp only[E1,B7];rw[bfD (Y2 (Nat.lt_irrefl _))]) 0 (Nat.zero_le _)
 rw[List.drop_zero] at h
 have e:(r.any fun p=>!pos (cor r) p)=!r.all (pos (cor r)):=by rw[List.not_all_eq_any_not]
 unfold ca2 X1 z8 ea0 C7 ld5
 simp only[n5,o7,I0,Qc1 r hb hr,Qc2 r hb hr]
 rw[show (⟨0,cor r⟩:o4)=⟨((0:Nat):Int),cor r⟩ from rfl,h,e]
 cases r.all (pos (cor r)) with
 | true=>rfl
 | false =>
  simp only[Bool.not_false,if_true,Nat.zero_add]
  show some (b (!(decide (((r.findIdx fun p=>!pos (cor r) p:Nat):Int)≥0))),[])=_
  rw[show decide (((r.findIdx fun p=>!pos (cor r) p:Nat):Int)≥0)=true from decide_eq_true (by omega)]
  rfl
theorem Qd9 (r:List Pln) (hb:Bds r) (hr:r.length≤200):ca3 r=ld5 r:=by unfold ca3;rw[Ad8 r hb hr];rfl
theorem Rd0 (r:List Pln) (hb:Bds r) (hr:r.length≤200):ca4 r=true:=by unfold ca4;rw[Ad8 r hb hr];rfl
theorem ud9 (r:List Pln) (X:List Pt) (hr:r.length≤200) (hX:X.length≤1000000000) (a:Nat) (ha:a < r.length):∃ m,lp (qa4 ⟨r,X,(a:Int)⟩) ⟨false,0⟩=(1,⟨pos X r[a],m⟩):=by
 have h:=Vb9 (step:=qa4 ⟨r,X,(a:Int)⟩) (mk:=fun j (c:Bool)=>(⟨c,(j:Int)⟩:fa1)) (f:=fun c x=>c||decide (rm r[a] x > 0)) (fin:=1) tX X (fun _ _=>True) hX
  (fun j c hj _=>⟨by
   simp only[qa4,ta6,Int.toNat_natCast,zd9,q8 hj (by omega),Pa0 tP ha,g9 ha,g9 hj]
   rw[btD (p4 hj)]
   cases c<;>rfl,trivial⟩)
  (fun c _=>by simp only[qa4,ta6];rw[bfD (Y2 (Nat.lt_irrefl _))]) 0 (Nat.zero_le _) false trivial
 have h:=h.1
 rw[List.drop_zero] at h
 have e:∀ (l:List Pt) (c:Bool),l.foldl (fun c x=>c||decide (rm r[a] x > 0)) c=(c||l.any fun x=>decide (rm r[a] x > 0)):=by
  intro l
  induction l with
  | nil=>intro c;simp
  | cons x l ih=>intro c;rw[List.foldl_cons,ih,List.any_cons,Bool.or_assoc]
 rw[e,Bool.false_or] at h
 exact⟨_,h⟩
theorem Ad9 (r:List Pln) (hb:Bds r) (hr:r.length≤200):cb9 r=some (b (ld5 r),[]):=by
 have hX:(cor r).length≤1000000000:=Nat.le_trans (Xc8 r hb hr) (by omega)
 have h:=bb4 (step:=Aa6 ⟨⟩) (mk:=fun j=>(⟨r,cor r,(j:Int)⟩:Y5)) (c:=fun p=>!pos (cor r) p) (u:=1) (fin:=2) tP r (by omega)
  (fun j hj=>by
   obtain⟨m,hm⟩:=ud9 r (cor r) hr hX j hj
   simp only[Aa6,ta7,n5,o7,hm,q8 hj (by omega),Pa0 tP hj]
   rw[btD (p4 hj)]
   rfl)
  (by simp only[Aa6,ta7];rw[bfD (Y2 (Nat.lt_irrefl _))]) 0 (Nat.zero_le _)
 rw[List.drop_zero] at h
 have e:(r.any fun p=>!pos (cor r) p)=!r.all (pos (cor r)):=by rw[List.not_all_eq_any_not]
 unfold cb9 ld5
 simp only[n5,o7,I0,Ac2 r hb hr,Ac3 r hb hr]
 rw[show (⟨r,cor r,0⟩:Y5)=⟨r,cor r,((0:Nat):Int)⟩ from rfl,h,e]
 cases r.all (pos (cor r))<;>rfl
theorem Ac6 (r:List Pln) (hb:Bds r) (hr:r.length≤200):ta8 r=ld5 r:=by unfold ta8;rw[Ad9 r hb hr];rfl
theorem Ac7 (r:List Pln) (hb:Bds r) (hr:r.length≤200):ta9 r=true:=by unfold ta9;rw[Ad9 r hb hr];rfl
theorem ub7 {c:List Pln} (h:(chk c==0)=true):Bds (c++ws)∧(c++ws).length≤200:=by
 rw[beq_iff_eq,kd8] at h
 refine⟨fun p hp=>?_,by rw[List.length_append,show ws.length=6 from rfl];omega⟩
 rcases List.mem_append.1 hp with hp | hp
 ·exact Xc6 (h.2 p hp)
 ·exact he1 p hp
noncomputable def pts (c:List Pln):List Pt:=if chk c==0 then cor (c++ws) else []
noncomputable def ful (c:List Pln):Bool:=(chk c==0)&&ld5 (c++ws)
theorem ld6 {c:List Pln} (hc:c.length≤1000000000):∃ x,Ba3 c=some x∧(one (r1L tX)).rd x=some (pts c):=by
 unfold Ba3 pts
 simp only[n5,I0,Zb8 c hc,Zb9 c hc,he6 c hc,he7 c hc]
 cases h:chk c==0 with
 | false=>exact⟨_,rfl,rfl⟩
 | true =>
  obtain⟨h1,h2⟩:=ub7 h
  rw[Qc1 _ h1 h2,Qc2 _ h1 h2]
  exact⟨_,rfl,Ad6 tX _⟩
theorem Fb2 {c:List Pln} (hc:c.length≤1000000000):aa9 c=pts c:=by
 obtain⟨x,h1,h2⟩:=ld6 hc
 unfold aa9;rw[h1];exact xa9 _ h2
theorem Fb3 {c:List Pln} (hc:c.length≤1000000000):ba0 c=true:=by
 obtain⟨x,h1,h2⟩:=ld6 hc
 unfold ba0;rw[h1];exact Ja1 _ h2
theorem Qc6 {c:List Pln} (hc:c.length≤1000000000):∃ x,Ha0 c=some x∧(one (r1L tX)).rd x=some (pts c):=by
 unfold Ha0 pts
 simp only[n5,I0,Fb0 c hc,Fb1 c hc,Qc3 c hc,Qc4 c hc]
 have e:(chk c != 0)=!(chk c==0):=rfl
 rw[e]
 cases h:chk c==0 with
 | false=>exact⟨_,rfl,rfl⟩
 | true =>
  obtain⟨h1,h2⟩:=ub7 h
  rw[Ac2 _ h1 h2,Ac3 _ h1 h2]
  exact⟨_,rfl,Ad6 tX _⟩
theorem Hd6 {c:List Pln} (hc:c.length≤1000000000):Xa5 c=pts c:=by
 obtain⟨x,h1,h2⟩:=Qc6 hc
 unfold Xa5;rw[h1];exact xa9 _ h2
theorem Hd7 {c:List Pln} (hc:c.length≤1000000000):Xa6 c=true:=by
 obtain⟨x,h1,h2⟩:=Qc6 hc
 unfold Xa6;rw[h1];exact Ja1 _ h2
theorem Bd0 {c:List Pln} (hc:c.length≤1000000000):Ra1 c=some (b (ful c),[]):=by
 unfold Ra1 ful
 simp only[n5,I0,Zb8 c hc,Zb9 c hc,he6 c hc,he7 c hc]
 cases h:chk c==0 with
 | false=>rfl
 | true =>
  obtain⟨h1,h2⟩:=ub7 h
  rw[Qd9 _ h1 h2,Rd0 _ h1 h2]
  rfl
theorem Ac8 {c:List Pln} (hc:c.length≤1000000000):ma8 c=ful c:=by unfold ma8;rw[Bd0 hc];rfl
theorem Ac9 {c:List Pln} (hc:c.length≤1000000000):ma9 c=true:=by unfold ma9;rw[Bd0 hc];rfl
theorem ld7 {c:List Pln} (hc:c.length≤1000000000):db0 c=some (b (ful c),[]):=by
 unfold db0 ful
 simp only[n5,I0,Fb0 c hc,Fb1 c hc,Qc3 c hc,Qc4 c hc]
 cases h:chk c==0 with
 | false=>rfl
 | true =>
  obtain⟨h1,h2⟩:=ub7 h
  rw[Ac6 _ h1 h2,Ac7 _ h1 h2]
  rfl
theorem ae7 {c:List Pln} (hc:c.length≤1000000000):Ma0 c=ful c:=by unfold Ma0;rw[ld7 hc];rfl
theorem Bd1 {c:List Pln} (hc:c.length≤1000000000):Ea1 c=true:=by unfold Ea1;rw[ld7 hc];rfl
end Go.Ev.Ce
section
namespace Go.Ev.Ce
open Go Go.Ev Go.Ev.L Go.Proofs
set_option maxRecDepth 100000
structure Ca8 where
 is1:Int
 i4:List Int
 c8:Int
noncomputable def hc3:List (Nat×Sum):=[(47,pb6)]
theorem ac0:l0 prog G hc3:=⟨tb5,trivial⟩
structure Ca9 where
 alt:Nat
 is0:Int
 c8:Int
noncomputable def ea5 {α:Type} (kk:Ca9→α) (x:Ca8):α:=let t1:=(qa5 (gL tI x.i4 (W ((W (x.c8+1)) - 1)).toNat) x.is1);(sl (decide (x.c8≥(↑(List.length x.i4):Int))) (kk ⟨1,0,x.c8⟩) (sl (inB (W ((W (x.c8+1)) - 1)) (List.length x.i4)) (sl (ja8 (gL tI x.i4 (W ((W (x.c8+1)) - 1)).toNat) x.is1) (kk ⟨1,t1,(W (x.c8+1))⟩) (kk ⟨0,0,0⟩)) (kk ⟨0,0,0⟩)))
noncomputable def l8 (x:Ca8):Ca9:=ea5 (fun r=>r) x
noncomputable def Na0 (x:Ca8) (r:Ca9):DT (b7×List b8):=(.ite (Nat.beq r.alt 1) (.ret ((i r.is0),[⟨0,2,[[(eL tI x.i4),(i r.c8)]],true,false,0⟩])) .fail)
theorem oc5 {α β:Type} (F:α→β) (kk:Ca9→α) (x:Ca8):F (ea5 kk x)=ea5 (fun r=>F (kk r)) x:=by unfold ea5;(repeat' apply n7 (f:=F))<;>rfl
noncomputable def pa1:Sum:=bb3 ⟨[(.s (.o (.ptr 0 0 0 0))),(.s (.o (.int .i64)))],[⟨0,2,true,(some [[(.c 1 (nL tI)),(.o (.int .i64))]])⟩],fun a H=>(⟨(toI (slT a 1)),(rL tI (slT (rwT (elT H 0) 0) 0)),(toI (slT (rwT (elT H 0) 0) 1))⟩,())⟩ (fun x=>Na0 x (l8 x))
theorem ya0:i6 prog G 98 pa1:=P6 (enc:=fun x=>⟨[(.ptr 0 0 0 0),(i x.is1)],[⟨0,2,[[(eL tI x.i4),(i x.c8)]],true,false,0⟩]⟩) (fun a H=>by kernel_rfl) (bd b98 ac0) fun x=>s5 (Eq.trans (b:=ea5 (fun r=>(Na0 x r).run) x) (by kernel_rfl) (oc5 (fun r=>(Na0 x r).run) (fun r=>r) x).symm)
structure Jb7 where
 is1:Int
 i4:List Int
 c8:Int
noncomputable def vd0:List (Nat×Sum):=[(98,pa1)]
theorem ld8:l0 prog G vd0:=⟨ya0,trivial⟩
structure Jb8 where
 alt:Nat
 la8:Int
 la9:Int
 ma0:Int
 i4:List Int
 c8:Int
noncomputable def ab0 {α:Type} (kk:Jb8→α) (x:Jb7):α:=let t1:=(l8 ⟨(W ((W (2*x.is1))+1)),(rt tI x.i4),x.c8⟩);let t2:=(l8 ⟨(W ((W (2*x.is1))+1)),(rt tI (rt tI x.i4)),t1.c8⟩);let t3:=(l8 ⟨(W ((W (2*x.is1))+1)),(rt tI (rt tI (rt tI x.i4))),t2.c8⟩);(sl ((cnE tI x.i4)&&true) (sl (Nat.beq t1.alt 1) (sl ((cnE tI (rt tI x.i4))&&true) (sl (Nat.beq t2.alt 1) (sl ((cnE tI (rt tI (rt tI x.i4)))&&true) (sl (Nat.beq t3.alt 1) (kk ⟨1,(W (t1.is0 - x.is1)),(W (t2.is0 - x.is1)),(W (t3.is0 - x.is1)),(rt tI (rt tI (rt tI x.i4))),t3.c8⟩) (kk ⟨0,0,0,0,[],0⟩)) (kk ⟨0,0,0,0,[],0⟩)) (kk ⟨0,0,0,0,[],0⟩)) (kk ⟨0,0,0,0,[],0⟩)) (kk ⟨0,0,0,0,[],0⟩)) (kk ⟨0,0,0,0,[],0⟩))
noncomputable def Na1 (x:Jb7):Jb8:=ab0 (fun r=>r) x
noncomputable def Sb0 (x:Jb7) (r:Jb8):DT (b7×List b8):=(.ite (Nat.beq r.alt 1) (.ret ((.agg [(i r.la8),(i r.la9),(i r.ma0)]),[⟨0,2,[[(eL tI r.i4),(i r.c8)]],true,false,0⟩])) .fail)
theorem Hd8 {α β:Type} (F:α→β) (kk:Jb8→α) (x:Jb7):F (ab0 kk x)=ab0 (fun r=>F (kk r)) x:=by unfold ab0;(repeat' apply n7 (f:=F))<;>rfl
noncomputable def hc5:Sum:=bb3 ⟨[(.s (.o (.ptr 0 0 0 0))),(.s (.o (.int .i64)))],[⟨0,2,true,(some [[(.c 1 (nL tI)),(.o (.int .i64))]])⟩],fun a H=>(⟨(toI (slT a 1)),(rL tI (slT (rwT (elT H 0) 0) 0)),(toI (slT (rwT (elT H 0) 0) 1))⟩,())⟩ (fun x=>Sb0 x (Na1 x))
theorem Bc0:i6 prog G 97 hc5:=P6 (enc:=fun x=>⟨[(.ptr 0 0 0 0),(i x.is1)],[⟨0,2,[[(eL tI x.i4),(i x.c8)]],true,false,0⟩]⟩) (fun a H=>by kernel_rfl) (bd b97 ld8) fun x=>s5 (Eq.trans (b:=ab0 (fun r=>(Sb0 x r).run) x) (by kernel_rfl) (Hd8 (fun r=>(Sb0 x r).run) (fun r=>r) x).symm)
noncomputable def vd1:List (Nat×Sum):=[]
theorem ld9:l0 prog G vd1:=trivial
noncomputable def Fa3 (x:V3) (y:V3):V3:=(⟨(W (x.x - y.x)),(W (x.y - y.y)),(W (x.z - y.z))⟩:V3)
noncomputable def hc6:Sum:=ia7 (O8 tV) (O8 tV) (fun x y=>.ret ((one r1V).enc (Fa3 x y),[]))
theorem Bc1:i6 prog G 187 hc6:=xa2 (bd Ge0 ld9) fun x y=>s5 (by kernel_rfl)
noncomputable def Hd9:List (Nat×Sum):=[(166,xa3)]
theorem vd2:l0 prog G Hd9:=⟨Ga9,trivial⟩
noncomputable def Fb4 (x:V3):Option (b7×List b8):=(sl (decide (x.x < (-24))) (some ((b false),[])) (sl (decide (x.x > 24)) (some ((b false),[])) (sl (decide (x.y < (-24))) (some ((b false),[])) (sl (decide (x.y > 24)) (some ((b false),[])) (sl (decide (x.z < (-24))) (some ((b false),[])) (sl (decide (x.z > 24)) (some ((b false),[])) (some ((b true),[]))))))))
noncomputable def Ra4 (x:V3):Bool:=J9 (one r1B) (Fb4 x)
noncomputable def Ra5 (x:V3):Bool:=okO (one r1B) (Fb4 x)
noncomputable def ac4:Sum:=ea8 (O8 tV) (fun x=>.guard (Ra5 x) (.ret ((one r1B).enc (Ra4 x),[])))
theorem hc7:i6 prog G 109 ac4:=za3 (bd Ce7 vd2) (one r1B) (o:=Fb4) fun x=>s5 (by kernel_rfl)
noncomputable def Bc2:List (Nat×Sum):=[(109,ac4),(187,hc6),(186,Db5),(167,Qb7),(130,Jb3)]
theorem oc6:l0 prog G Bc2:=⟨hc7,Bc1,Wb8,kc6,Qb4,trivial⟩
noncomputable def Ba5 (x:V3) (y:V3) (z:V3):Option (b7×List b8):=let t1:=(Ra4 x);let t2:=(Ra4 y);let t3:=(Ra4 z);let t4:=(Fa3 y x);let t5:=(Fa3 z x);let t6:=(P0 t4 t5);let t7:=(Ea0 t6);let t8:=(Ea8 t7.1 x);(sl (Ra5 x) (sl (!t1) (some ((.tup [(.agg [(i 0),(i 0),(i 0),(i 0)]),(b false)]),[])) (sl (Ra5 y) (sl (!t2) (some ((.tup [(.agg [(i 0),(i 0),(i 0),(i 0)]),(b false)]),[])) (sl (Ra5 z) (sl (!t3) (some ((.tup [(.agg [(i 0),(i 0),(i 0),(i 0)]),(b false)]),[])) (sl (cb8 t6) (sl (t7.2==0) (some ((.tup [(.agg [(i 0),(i 0),(i 0),(i 0)]),(b false)]),[])) (some ((.tup [(.agg [(i t7.1.x),(i t7.1.y),(i t7.1.z),(i t8)]),(b true)]),[]))) none)) none)) none)) none)
noncomputable def ha6 (x:V3) (y:V3) (z:V3):Pln×Bool:=J9 (two r1P r1B) (Ba5 x y z)
noncomputable def ha7 (x:V3) (y:V3) (z:V3):Bool:=okO (two r1P r1B) (Ba5 x y z)
noncomputable def Oa2:Sum:=ec1 (O8 tV) (O8 tV) (O8 tV) (fun x y z=>.guard (ha7 x y z) (.ret ((two r1P r1B).enc (ha6 x y z),[])))
theorem eb0:i6 prog G 115 Oa2:=ke2 (bd De1 oc6) (two r1P r1B) (o:=Ba5) fun x y z=>s5 (by kernel_rfl)
noncomputable def md0:List (Nat×Sum):=[(98,pa1),(97,hc5),(115,Oa2),(47,pb6)]
theorem Yc2:l0 prog G md0:=⟨ya0,Bc0,eb0,tb5,trivial⟩
noncomputable def eb1 (x:List Int):Option (b7×List b8):=let t1:=(l8 ⟨8,(rt tI x),0⟩);let t2:=(l8 ⟨17,(rt tI (rt tI x)),t1.c8⟩);let t3:=(Na1 ⟨8,(rt tI (rt tI (rt tI x))),t2.c8⟩);let t4:=(Na1 ⟨8,(rt tI t3.i4),t3.c8⟩);let t5:=(Na1 ⟨8,(rt tI t4.i4),t4.c8⟩);let t6:=(ha6 (⟨t3.la8,t3.la9,t3.ma0⟩:V3) (⟨t4.la8,t4.la9,t4.ma0⟩:V3) (⟨t5.la8,t5.la9,t5.ma0⟩:V3));let t7:=(qa5 (W (t2.is0 - 8)) 3);(sl ((cnE tI x)&&true) (sl (Nat.beq t1.alt 1) (sl ((cnE tI (rt tI x))&&true) (sl (Nat.beq t2.alt 1) (sl ((cnE tI (rt tI (rt tI x)))&&true) (sl (Nat.beq t3.alt 1) (sl ((cnE tI t3.i4)&&true) (sl (Nat.beq t4.alt 1) (sl ((cnE tI t4.i4)&&true) (sl (Nat.beq t5.alt 1) (sl (ha7 (⟨t3.la8,t3.la9,t3.ma0⟩:V3) (⟨t4.la8,t4.la9,t4.ma0⟩:V3) (⟨t5.la8,t5.la9,t5.ma0⟩:V3)) (sl (decide (t1.is0 > 1)) (sl t6.2 (some ((.agg [(i t6.1.n.x),(i t6.1.n.y),(i t6.1.n.z),(i t6.1.b)]),[])) (sl (ja8 (W (t2.is0 - 8)) 3) (sl (t7==1) (some ((.agg [(i 0),(i (W (1 - (W (2*(Int.tmod t1.is0 2)))))),(i 0),(i (W (t2.is0 - 8)))]),[])) (sl (t7==2) (some ((.agg [(i 0),(i 0),(i (W (1 - (W (2*(Int.tmod t1.is0 2)))))),(i (W (t2.is0 - 8)))]),[])) (some ((.agg [(i (W (1 - (W (2*(Int.tmod t1.is0 2)))))),(i 0),(i 0),(i (W (t2.is0 - 8)))]),[])))) none)) (sl (ja8 (W (t2.is0 - 8)) 3) (sl (t7==1) (some ((.agg [(i 0),(i (W (1 - (W (2*(Int.tmod t1.is0 2)))))),(i 0),(i (W (t2.is0 - 8)))]),[])) (sl (t7==2) (some ((.agg [(i 0),(i 0),(i (W (1 - (W (2*(Int.tmod t1.is0 2)))))),(i (W (t2.is0 - 8)))]),[])) (some ((.agg [(i (W (1 - (W (2*(Int.tmod t1.is0 2)))))),(i 0),(i 0),(i (W (t2.is0 - 8)))]),[])))) none)) none) none) none) none) none) none) none) none) none) none) none)
noncomputable def Bc3 (x:List Int):Pln:=J9 (one r1P) (eb1 x)
noncomputable def ub8 (x:List Int):Bool:=okO (one r1P) (eb1 x)
noncomputable def Bc4:Sum:=ea8 (W6 tI) (fun x=>.guard (ub8 x) (.ret ((one r1P).enc (Bc3 x),[])))
theorem md1:i6 prog G 35 Bc4:=za3 (bd b35 Yc2) (one r1P) (o:=eb1) fun x=>s5 (by kernel_rfl)
noncomputable def md2:List (Nat×Sum):=[(187,hc6)]
theorem Yc3:l0 prog G md2:=⟨Bc1,trivial⟩
noncomputable def ub9 (x:Pln):Pln:=let t1:=(Fa3 (⟨0,0,0⟩:V3) x.n);(⟨t1,(W (0 - x.b))⟩:Pln)
noncomputable def Sb1:Sum:=ea8 (O8 tP) (fun x=>.ret ((one r1P).enc (ub9 x),[]))
theorem lc2:i6 prog G 119 Sb1:=Vb7 (bd De3 Yc3) fun x=>s5 (by kernel_rfl)
noncomputable def md3:List (Nat×Sum):=[(86,Db9),(109,ac4),(130,Jb3)]
theorem Yc4:l0 prog G md3:=⟨Xb8,hc7,Qb4,trivial⟩
noncomputable def eb2 (x:Pln) (y:V3):Option (b7×List b8):=let t1:=(Pa4 x);let t2:=(Ra4 y);let t3:=(Ea8 x.n y);(sl (Pa5 x) (sl (!t1) (some ((i 0),[])) (sl (Ra5 y) (sl (!t2) (some ((i 0),[])) (sl (decide ((W (t3 - x.b)) < 0)) (some ((i (-1)),[])) (sl (decide ((W (t3 - x.b)) > 0)) (some ((i 1),[])) (some ((i 0),[]))))) none)) none)
noncomputable def vb0 (x:Pln) (y:V3):Int:=J9 (one r1I) (eb2 x y)
noncomputable def vb1 (x:Pln) (y:V3):Bool:=okO (one r1I) (eb2 x y)
noncomputable def Sb2:Sum:=ia7 (O8 tP) (O8 tV) (fun x y=>.guard (vb1 x y) (.ret ((one r1I).enc (vb0 x y),[])))
theorem lc3:i6 prog G 194 Sb2:=bb2 (bd Ge1 Yc4) (one r1I) (o:=eb2) fun x y=>s5 (by kernel_rfl)
noncomputable def Fb5:List (Nat×Sum):=[]
theorem oc7:l0 prog G Fb5:=trivial
structure pa2 where
 i7:Int
 c8:Int
 i8:Int
 e8:Int
 G7:Int
 G8:Int
 G9:Int
 H4:Int
structure P4 where
 is7:Int
noncomputable def hc8 (p:pa2) (s:P4):St:=⟨(ra 5 ((.ptr 0 0 0 0)::((.ptr 1 0 0 0)::((i s.is7)::(ra 42 []))))),[⟨0,4,[[(i p.i7),(i p.c8),(i p.i8),(i p.e8)]],true,false,0⟩,⟨0,4,[[(i p.G7),(i p.G8),(i p.G9),(i p.H4)]],true,false,0⟩]⟩
noncomputable def fa8 {α:Type} (k:P4→α) (e:Nat→α) (z:α) (p:pa2) (s:P4):α:=(sl (decide (s.is7 < 4)) (sl (inB s.is7 4) (sl ((Nat.ble ((0+(s.is7.toNat*1))+1) 4)&&(J4 [(CK.int .i64)] (d8 [(i p.i7),(i p.c8),(i p.i8),(i p.e8)] (0+(s.is7.toNat*1))))) (sl (inB s.is7 4) (sl ((Nat.ble ((0+(s.is7.toNat*1))+1) 4)&&(J4 [(CK.int .i64)] (d8 [(i p.G7),(i p.G8),(i p.G9),(i p.H4)] (0+(s.is7.toNat*1))))) (sl (decide ((toI (hdA (d8 [(i p.i7),(i p.c8),(i p.i8),(i p.e8)] (0+(s.is7.toNat*1))))) < (toI (hdA (d8 [(i p.G7),(i p.G8),(i p.G9),(i p.H4)] (0+(s.is7.toNat*1))))))) (e 1) (sl (inB s.is7 4) (sl ((Nat.ble ((0+(s.is7.toNat*1))+1) 4)&&(J4 [(CK.int .i64)] (d8 [(i p.i7),(i p.c8),(i p.i8),(i p.e8)] (0+(s.is7.toNat*1))))) (sl (inB s.is7 4) (sl ((Nat.ble ((0+(s.is7.toNat*1))+1) 4)&&(J4 [(CK.int .i64)] (d8 [(i p.G7),(i p.G8),(i p.G9),(i p.H4)] (0+(s.is7.toNat*1))))) (sl (decide ((toI (hdA (d8 [(i p.i7),(i p.c8),(i p.i8),(i p.e8)] (0+(s.is7.toNat*1))))) > (toI (hdA (d8 [(i p.G7),(i p.G8),(i p.G9),(i p.H4)] (0+(s.is7.toNat*1))))))) (e 2) (k ⟨(W (s.is7+1))⟩)) z) z) z) z)) z) z) z) z) (e 3))
noncomputable def ba2 (p:pa2) (s:P4):Stp P4:=fa8 .next .exit .fail p s
noncomputable def Va5:Lo pa2 P4:=⟨En Fb5,0,ge1,[1,1,1,0,1,4,4],[5,6,7],.p,[⟨(ru2 5 ((.s (.o (.ptr 0 0 0 0)))::((.s (.o (.ptr 1 0 0 0)))::((.s (.o (.int .i64)))::(ru2 42 []))))),[⟨0,4,true,(some [[(.o (.int .i64)),(.o (.int .i64)),(.o (.int .i64)),(.o (.int .i64))]])⟩,⟨0,4,true,(some [[(.o (.int .i64)),(.o (.int .i64)),(.o (.int .i64)),(.o (.int .i64))]])⟩],fun a H=>(⟨(toI (slT (rwT (elT H 0) 0) 0)),(toI (slT (rwT (elT H 0) 0) 1)),(toI (slT (rwT (elT H 0) 0) 2)),(toI (slT (rwT (elT H 0) 0) 3)),(toI (slT (rwT (elT H 1) 0) 0)),(toI (slT (rwT (elT H 1) 0) 1)),(toI (slT (rwT (elT H 1) 0) 2)),(toI (slT (rwT (elT H 1) 0) 3))⟩,⟨(toI (slT a 7))⟩)⟩],ba2,[(none,fun p s=>⟨[(i (-1))],[]⟩),(none,fun p s=>⟨[(i 1)],[]⟩),(some 0,fun p s=>⟨(ra 5 ((.ptr 0 0 0 0)::((.ptr 1 0 0 0)::((i s.is7)::(ra 24 ((i s.is7)::((b (decide (s.is7 < 4)))::(ra 16 [])))))))),[⟨0,4,[[(i p.i7),(i p.c8),(i p.i8),(i p.e8)]],true,false,0⟩,⟨0,4,[[(i p.G7),(i p.G8),(i p.G9),(i p.H4)]],true,false,0⟩]⟩)],hc8⟩
theorem hc9:Va5.Ok:=Lo.ok [] (by kernel_rfl) .nil rfl (.cons (fun a H=>by kernel_rfl) .nil) fun p s=>(.of @fa8 (fun F _ _ _ _ _=>by unfold fa8;(repeat' apply n7 (f:=F))<;>rfl) (by kernel_rfl))
noncomputable def Ba6 (x:Pln) (y:Pln):Option (b7×List b8):=let t1:=(lp (ba2 (⟨x.n.x,x.n.y,x.n.z,x.b,y.n.x,y.n.y,y.n.z,y.b⟩:pa2)) (⟨0⟩:P4));(sl (Nat.beq t1.1 1) (some ((i (-1)),[])) (sl (Nat.beq t1.1 2) (some ((i 1),[])) (sl (Nat.beq t1.1 3) (some ((i 0),[])) none)))
noncomputable def Ba7 (x:Pln) (y:Pln):Int:=J9 (one r1I) (Ba6 x y)
noncomputable def nb2 (x:Pln) (y:Pln):Bool:=okO (one r1I) (Ba6 x y)
noncomputable def Nb5:Sum:=ia7 (O8 tP) (O8 tP) (fun x y=>.guard (nb2 x y) (.ret ((one r1I).enc (Ba7 x y),[])))
theorem Bc5:i6 prog G 180 Nb5:=bb2 (bd Fe4 oc7) (one r1I) (o:=Ba6) fun x y=>za4 (.s .p (.s .p (.s .p (.s (.s .p (.b (.u Va5.ls))) .p)))) [Va5.pr] (by kernel_rfl) (.cons hc9 .nil) (by kernel_rfl)
noncomputable def vd3:List (Nat×Sum):=[(47,pb6)]
theorem md4:l0 prog G vd3:=⟨tb5,trivial⟩
noncomputable def qb4 (x:Pln) (y:V3):Option (b7×List b8):=let t1:=(qa5 y.z 9);let t2:=(qa5 y.x 5);(sl (ja8 y.z 9) (sl (inB t1 9) (sl ((Nat.ble 1 (len (d9 [[(i y.y)],[(i 0)],[(i 4608)],[(i 4609)],[(i (-4609))],[(i (W (2*x.n.x)))],[(i 2097152)],[(i 2097153)],[(i (-2097152))]] (0+t1.toNat))))&&(J4 [(CK.int .i64)] (d9 [[(i y.y)],[(i 0)],[(i 4608)],[(i 4609)],[(i (-4609))],[(i (W (2*x.n.x)))],[(i 2097152)],[(i 2097153)],[(i (-2097152))]] (0+t1.toNat)))) (sl (ja8 y.x 5) (sl (t2==0) (some ((.agg [(i (toI (hdA (d9 [[(i y.y)],[(i 0)],[(i 4608)],[(i 4609)],[(i (-4609))],[(i (W (2*x.n.x)))],[(i 2097152)],[(i 2097153)],[(i (-2097152))]] (0+t1.toNat))))),(i x.n.y),(i x.n.z),(i x.b)]),[])) (sl (t2==1) (some ((.agg [(i x.n.x),(i (toI (hdA (d9 [[(i y.y)],[(i 0)],[(i 4608)],[(i 4609)],[(i (-4609))],[(i (W (2*x.n.x)))],[(i 2097152)],[(i 2097153)],[(i (-2097152))]] (0+t1.toNat))))),(i x.n.z),(i x.b)]),[])) (sl (t2==2) (some ((.agg [(i x.n.x),(i x.n.y),(i (toI (hdA (d9 [[(i y.y)],[(i 0)],[(i 4608)],[(i 4609)],[(i (-4609))],[(i (W (2*x.n.x)))],[(i 2097152)],[(i 2097153)],[(i (-2097152))]] (0+t1.toNat))))),(i x.b)]),[])) (sl (t2==3) (some ((.agg [(i x.n.x),(i x.n.y),(i x.n.z),(i (toI (hdA (d9 [[(i y.y)],[(i 0)],[(i 4608)],[(i 4609)],[(i (-4609))],[(i (W (2*x.n.x)))],[(i 2097152)],[(i 2097153)],[(i (-2097152))]] (0+t1.toNat)))))]),[])) (sl (t2==4) (some ((.agg [(i (W (2*x.n.x))),(i (W (2*x.n.y))),(i (W (2*x.n.z))),(i x.b)]),[])) (some ((.agg [(i x.n.x),(i x.n.y),(i x.n.z),(i x.b)]),[]))))))) none) none) none) none)
noncomputable def Qc7 (x:Pln) (y:V3):Pln:=J9 (one r1P) (qb4 x y)
noncomputable def ic0 (x:Pln) (y:V3):Bool:=okO (one r1P) (qb4 x y)
noncomputable def Qc8:Sum:=ia7 (O8 tP) (O8 tV) (fun x y=>.guard (ic0 x y) (.ret ((one r1P).enc (Qc7 x y),[])))
theorem vd4:i6 prog G 118 Qc8:=bb2 (bd De2 md4) (one r1P) (o:=qb4) fun x y=>s5 (by kernel_rfl)
end Go.Ev.Ce
end
section
namespace Go.Ev.Ce
open Go Go.Ev Go.Ev.L Go.Proofs
set_option maxRecDepth 100000
noncomputable def Ra6:List (Nat×Sum):=[(115,Oa2),(194,Sb2)]
theorem Yc5:l0 prog G Ra6:=⟨eb0,lc3,trivial⟩
structure na5 where
 f9:List V3
 is3:Int
 is4:Int
 is5:Int
 bs7:Bool
 i7:Int
 c8:Int
 i8:Int
 e8:Int
structure fa9 where
 is8:Int
noncomputable def Jc2 (p:na5) (s:fa9):St:=⟨((eL tV p.f9)::(.unk::(.unk::((i p.is3)::((i p.is4)::((i p.is5)::((.ptr 0 0 0 0)::((b p.bs7)::((i s.is8)::(ra 48 [])))))))))),[⟨0,4,[[(i p.i7),(i p.c8),(i p.i8),(i p.e8)]],true,false,0⟩]⟩
noncomputable def va1 {α:Type} (k:fa9→α) (e:Nat→α) (z:α) (p:na5) (s:fa9):α:=let t1:=(vb0 (⟨(⟨p.i7,p.c8,p.i8⟩:V3),p.e8⟩:Pln) (gL tV p.f9 s.is8.toNat));(sl (decide (s.is8 < (↑(List.length p.f9):Int))) (sl p.bs7 (sl (inB s.is8 (List.length p.f9)) (sl (vb1 (⟨(⟨p.i7,p.c8,p.i8⟩:V3),p.e8⟩:Pln) (gL tV p.f9 s.is8.toNat)) (sl (t1 != 0) (e 1) (k ⟨(W (s.is8+1))⟩)) z) z) (e 2)) (e 3))
noncomputable def qa7 (p:na5) (s:fa9):Stp fa9:=va1 .next .exit .fail p s
noncomputable def vb2:Lo na5 fa9:=⟨En Ra6,0,id8,[1,0,1,4,4,1,0,4,1,4,4,1,0,4,1,4,4,1,0,4,1,1,4,4],[0,3,4,5,6,7,8],.p,[⟨((.s (.c 3 (nL tV)))::((.s (.o .unk))::((.s (.o .unk))::((.s (.o (.int .i64)))::((.s (.o (.int .i64)))::((.s (.o (.int .i64)))::((.s (.o (.ptr 0 0 0 0)))::((.s (.o .bool))::((.s (.o (.int .i64)))::(ru2 48 [])))))))))),[⟨0,4,true,(some [[(.o (.int .i64)),(.o (.int .i64)),(.o (.int .i64)),(.o (.int .i64))]])⟩],fun a H=>(⟨(rL tV (slT a 0)),(toI (slT a 3)),(toI (slT a 4)),(toI (slT a 5)),(toB (slT a 7)),(toI (slT (rwT (elT H 0) 0) 0)),(toI (slT (rwT (elT H 0) 0) 1)),(toI (slT (rwT (elT H 0) 0) 2)),(toI (slT (rwT (elT H 0) 0) 3))⟩,⟨(toI (slT a 8))⟩)⟩],qa7,[(none,fun p s=>⟨[(b false)],[]⟩),(some 6,fun p s=>⟨((eL tV p.f9)::(.unk::(.unk::((i p.is3)::((i p.is4)::((i p.is5)::((.ptr 0 0 0 0)::((b p.bs7)::((i s.is8)::(ra 32 ((i s.is8)::((eL tV p.f9)::((i (↑(List.length p.f9):Int))::((b (decide (s.is8 < (↑(List.length p.f9):Int))))::((b true)::((b p.bs7)::((b p.bs7)::(ra 9 [])))))))))))))))))),[⟨0,4,[[(i p.i7),(i p.c8),(i p.i8),(i p.e8)]],true,false,0⟩]⟩),(some 6,fun p s=>⟨((eL tV p.f9)::(.unk::(.unk::((i p.is3)::((i p.is4)::((i p.is5)::((.ptr 0 0 0 0)::((b p.bs7)::((i s.is8)::(ra 32 ((i s.is8)::((eL tV p.f9)::((i (↑(List.length p.f9):Int))::((b (decide (s.is8 < (↑(List.length p.f9):Int))))::((b false)::(u::((b false)::(ra 9 [])))))))))))))))))),[⟨0,4,[[(i p.i7),(i p.c8),(i p.i8),(i p.e8)]],true,false,0⟩]⟩)],Jc2⟩
theorem Jc3:vb2.Ok:=Lo.ok [] (by kernel_rfl) .nil rfl (.cons (fun a H=>by kernel_rfl) .nil) fun p s=>(.of @va1 (fun F _ _ _ _ _=>by unfold va1;(repeat' apply n7 (f:=F))<;>rfl) (by kernel_rfl))
structure Ja2 where
 is3:Int
 is4:Int
structure ga0 where
 f9:List V3
 is5:Int
noncomputable def Jc4 (p:Ja2) (s:ga0):St:=⟨((eL tV s.f9)::(.unk::(.unk::((i p.is3)::((i p.is4)::((i s.is5)::(ra 51 []))))))),[]⟩
noncomputable def va2 {α:Type} (k:ga0→α) (e:Nat→α) (z:α) (p:Ja2) (s:ga0):α:=let t1:=(ha6 (gL tV s.f9 p.is3.toNat) (gL tV s.f9 p.is4.toNat) (gL tV s.f9 s.is5.toNat));let t2:=(lp (qa7 (⟨(rt tV s.f9),p.is3,p.is4,s.is5,t1.2,t1.1.n.x,t1.1.n.y,t1.1.n.z,t1.1.b⟩:na5)) (⟨0⟩:fa9));(sl (decide (s.is5 < p.is4)) (sl (inB p.is3 (List.length s.f9)) (sl (inB p.is4 (List.length s.f9)) (sl (inB s.is5 (List.length s.f9)) (sl (ha7 (gL tV s.f9 p.is3.toNat) (gL tV s.f9 p.is4.toNat) (gL tV s.f9 s.is5.toNat)) (sl ((cnE tV s.f9)&&true) (sl (Nat.beq t2.1 1) (e 1) (sl (Nat.beq t2.1 2) (k ⟨(rt tV s.f9),(W (s.is5+1))⟩) (sl (Nat.beq t2.1 3) (k ⟨(rt tV s.f9),(W (s.is5+1))⟩) z))) z) z) z) z) z) (e 2))
noncomputable def qa8 (p:Ja2) (s:ga0):Stp ga0:=va2 .next .exit .fail p s
noncomputable def vb3:Lo Ja2 ga0:=⟨En Ra6,0,id8,[1,0,1,4,4,1,0,4,1,4,4,1,0,4,1,4,4],[0,3,4,5],(.s .p (.s (.b (.s .p (.s .p (.b (.u vb2.ls))))) .p)),[⟨((.s (.c 3 (nL tV)))::((.s (.o .unk))::((.s (.o .unk))::((.s (.o (.int .i64)))::((.s (.o (.int .i64)))::((.s (.o (.int .i64)))::(ru2 51 []))))))),[],fun a H=>(⟨(toI (slT a 3)),(toI (slT a 4))⟩,⟨(rL tV (slT a 0)),(toI (slT a 5))⟩)⟩],qa8,[(none,fun p s=>⟨[(b false)],[]⟩),(some 4,fun p s=>⟨((eL tV s.f9)::(.unk::(.unk::((i p.is3)::((i p.is4)::((i s.is5)::(ra 14 ((i s.is5)::((i p.is4)::((b (decide (s.is5 < p.is4)))::(ra 34 []))))))))))),[]⟩)],Jc4⟩
theorem Jc5:vb3.Ok:=Lo.ok [vb2.pr] (by kernel_rfl) (.cons Jc3 .nil) rfl (.cons (fun a H=>by kernel_rfl) .nil) fun p s=>(.of @va2 (fun F _ _ _ _ _=>by unfold va2;(repeat' apply n7 (f:=F))<;>rfl) (by kernel_rfl))
structure Ja3 where
 is3:Int
structure ga1 where
 f9:List V3
 is4:Int
noncomputable def Jc6 (p:Ja3) (s:ga1):St:=⟨((eL tV s.f9)::(.unk::(.unk::((i p.is3)::((i s.is4)::(ra 52 [])))))),[]⟩
noncomputable def va3 {α:Type} (k:ga1→α) (e:Nat→α) (z:α) (p:Ja3) (s:ga1):α:=let t1:=(lp (qa8 (⟨p.is3,s.is4⟩:Ja2)) (⟨(rt tV s.f9),0⟩:ga0));(sl (decide (s.is4 < p.is3)) (sl ((cnE tV s.f9)&&true) (sl (Nat.beq t1.1 1) (e 1) (sl (Nat.beq t1.1 2) (k ⟨t1.2.f9,(W (s.is4+1))⟩) z)) z) (e 2))
noncomputable def qa9 (p:Ja3) (s:ga1):Stp ga1:=va3 .next .exit .fail p s
noncomputable def vb4:Lo Ja3 ga1:=⟨En Ra6,0,id8,[1,0,1,4,4,1,0,4,1,4,4],[0,3,4],(.s .p (.s (.b (.s .p (.b (.u vb3.ls)))) .p)),[⟨((.s (.c 3 (nL tV)))::((.s (.o .unk))::((.s (.o .unk))::((.s (.o (.int .i64)))::((.s (.o (.int .i64)))::(ru2 52 [])))))),[],fun a H=>(⟨(toI (slT a 3))⟩,⟨(rL tV (slT a 0)),(toI (slT a 4))⟩)⟩],qa9,[(none,fun p s=>⟨[(b false)],[]⟩),(some 2,fun p s=>⟨((eL tV s.f9)::(.unk::(.unk::((i p.is3)::((i s.is4)::(ra 10 ((i s.is4)::((i p.is3)::((b (decide (s.is4 < p.is3)))::(ra 39 [])))))))))),[]⟩)],Jc6⟩
theorem Jc7:vb4.Ok:=Lo.ok [vb3.pr] (by kernel_rfl) (.cons Jc5 .nil) rfl (.cons (fun a H=>by kernel_rfl) .nil) fun p s=>(.of @va3 (fun F _ _ _ _ _=>by unfold va3;(repeat' apply n7 (f:=F))<;>rfl) (by kernel_rfl))
structure Ja4 where
structure ga2 where
 f9:List V3
 is3:Int
noncomputable def Jc8 (p:Ja4) (s:ga2):St:=⟨((eL tV s.f9)::(.unk::(.unk::((i s.is3)::(ra 53 []))))),[]⟩
noncomputable def va4 {α:Type} (k:ga2→α) (e:Nat→α) (z:α) (p:Ja4) (s:ga2):α:=let t1:=(lp (qa9 (⟨s.is3⟩:Ja3)) (⟨(rt tV s.f9),0⟩:ga1));(sl (decide (s.is3 < (↑(List.length s.f9):Int))) (sl ((cnE tV s.f9)&&true) (sl (Nat.beq t1.1 1) (e 1) (sl (Nat.beq t1.1 2) (k ⟨t1.2.f9,(W (s.is3+1))⟩) z)) z) (e 2))
noncomputable def ra0 (p:Ja4) (s:ga2):Stp ga2:=va4 .next .exit .fail p s
noncomputable def vb5:Lo Ja4 ga2:=⟨En Ra6,0,id8,[1,0,1,4,4],[0,3],(.s .p (.s (.b (.s .p (.b (.u vb4.ls)))) .p)),[⟨((.s (.c 3 (nL tV)))::((.s (.o .unk))::((.s (.o .unk))::((.s (.o (.int .i64)))::(ru2 53 []))))),[],fun a H=>(⟨⟩,⟨(rL tV (slT a 0)),(toI (slT a 3))⟩)⟩],ra0,[(none,fun p s=>⟨[(b false)],[]⟩),(some 0,fun p s=>⟨((eL tV s.f9)::(.unk::(.unk::((i s.is3)::(ra 5 ((i s.is3)::((eL tV s.f9)::((i (↑(List.length s.f9):Int))::((b (decide (s.is3 < (↑(List.length s.f9):Int))))::(ra 44 [])))))))))),[]⟩)],Jc8⟩
theorem Jc9:vb5.Ok:=Lo.ok [vb4.pr] (by kernel_rfl) (.cons Jc7 .nil) rfl (.cons (fun a H=>by kernel_rfl) .nil) fun p s=>(.of @va4 (fun F _ _ _ _ _=>by unfold va4;(repeat' apply n7 (f:=F))<;>rfl) (by kernel_rfl))
noncomputable def eb3 (x:List V3):Option (b7×List b8):=let t1:=(lp (ra0 (⟨⟩:Ja4)) (⟨(rt tV x),0⟩:ga2));(sl ((cnE tV x)&&true) (sl (Nat.beq t1.1 1) (some ((b false),[])) (sl (Nat.beq t1.1 2) (some ((b true),[])) none)) none)
noncomputable def eb4 (x:List V3):Bool:=J9 (one r1B) (eb3 x)
noncomputable def Na2 (x:List V3):Bool:=okO (one r1B) (eb3 x)
noncomputable def Sb3:Sum:=ea8 (W6 tV) (fun x=>.guard (Na2 x) (.ret ((one r1B).enc (eb4 x),[])))
theorem lc4:i6 prog G 124 Sb3:=za3 (bd De4 Yc5) (one r1B) (o:=eb3) fun x=>za4 (.s .p (.s (.s .p (.b (.u vb5.ls))) .p)) [vb5.pr] (by kernel_rfl) (.cons Jc9 .nil) (by kernel_rfl)
noncomputable def ac5:List (Nat×Sum):=[(109,ac4),(124,Sb3)]
theorem Kc0:l0 prog G ac5:=⟨hc7,lc4,trivial⟩
structure Ba8 where
 f9:List V3
structure T7 where
 is3:Int
noncomputable def Bc6 (p:Ba8) (s:T7):St:=⟨((eL tV p.f9)::(.unk::(.unk::((i s.is3)::(ra 17 []))))),[]⟩
noncomputable def pa3 {α:Type} (k:T7→α) (e:Nat→α) (z:α) (p:Ba8) (s:T7):α:=let t1:=(Ra4 (gL tV p.f9 s.is3.toNat));(sl (decide (s.is3 < (↑(List.length p.f9):Int))) (sl (inB s.is3 (List.length p.f9)) (sl (Ra5 (gL tV p.f9 s.is3.toNat)) (sl (!t1) (e 1) (k ⟨(W (s.is3+1))⟩)) z) z) (e 2))
noncomputable def va5 (p:Ba8) (s:T7):Stp T7:=pa3 .next .exit .fail p s
noncomputable def nb3:Lo Ba8 T7:=⟨En ac5,0,ge2,[1,1,0,1,4,4],[0,3],.p,[⟨((.s (.c 3 (nL tV)))::((.s (.o .unk))::((.s (.o .unk))::((.s (.o (.int .i64)))::(ru2 17 []))))),[],fun a H=>(⟨(rL tV (slT a 0))⟩,⟨(toI (slT a 3))⟩)⟩],va5,[(none,fun p s=>⟨[(i 3)],[]⟩),(some 0,fun p s=>⟨((eL tV p.f9)::(.unk::(.unk::((i s.is3)::(ra 3 ((i s.is3)::((eL tV p.f9)::((i (↑(List.length p.f9):Int))::((b (decide (s.is3 < (↑(List.length p.f9):Int))))::(ra 10 [])))))))))),[]⟩)],Bc6⟩
theorem Bc7:nb3.Ok:=Lo.ok [] (by kernel_rfl) .nil rfl (.cons (fun a H=>by kernel_rfl) .nil) fun p s=>(.of @pa3 (fun F _ _ _ _ _=>by unfold pa3;(repeat' apply n7 (f:=F))<;>rfl) (by kernel_rfl))
noncomputable def Ra7 (x:List V3):Option (b7×List b8):=let t1:=(lp (va5 (⟨(rt tV x)⟩:Ba8)) (⟨0⟩:T7));let t2:=(eb4 (rt tV (rt tV x)));(sl (decide ((↑(List.length x):Int) > 48)) (some ((i 2),[])) (sl ((cnE tV x)&&true) (sl (Nat.beq t1.1 1) (some ((i 3),[])) (sl (Nat.beq t1.1 2) (sl (okE tV (rt tV x)) (sl (Na2 (rt tV (rt tV x))) (sl t2 (some ((i 11),[])) (some ((i 0),[]))) none) none) none)) none))
noncomputable def Fb6 (x:List V3):Int:=J9 (one r1I) (Ra7 x)
noncomputable def Fb7 (x:List V3):Bool:=okO (one r1I) (Ra7 x)
noncomputable def lc5:Sum:=ea8 (W6 tV) (fun x=>.guard (Fb7 x) (.ret ((one r1I).enc (Fb6 x),[])))
theorem Yc6:i6 prog G 182 lc5:=za3 (bd Fe6 Kc0) (one r1I) (o:=Ra7) fun x=>za4 (.s .p (.s .p (.s (.s .p (.b (.u nb3.ls))) .p))) [nb3.pr] (by kernel_rfl) (.cons Bc7 .nil) (by kernel_rfl)
noncomputable def ac6:List (Nat×Sum):=[(194,Sb2)]
theorem Kc1:l0 prog G ac6:=⟨lc3,trivial⟩
structure Ba9 where
 cc7:List V3
 i7:Int
 c8:Int
 i8:Int
 e8:Int
structure T8 where
 is5:Int
noncomputable def Bc8 (p:Ba9) (s:T8):St:=⟨(.unk::((eL tV p.cc7)::((.ptr 0 0 0 0)::(.unk::(.unk::((i s.is5)::(ra 13 []))))))),[⟨0,4,[[(i p.i7),(i p.c8),(i p.i8),(i p.e8)]],true,false,0⟩]⟩
noncomputable def pa4 {α:Type} (k:T8→α) (e:Nat→α) (z:α) (p:Ba9) (s:T8):α:=let t1:=(vb0 (⟨(⟨p.i7,p.c8,p.i8⟩:V3),p.e8⟩:Pln) (gL tV p.cc7 s.is5.toNat));(sl (decide (s.is5 < (↑(List.length p.cc7):Int))) (sl (inB s.is5 (List.length p.cc7)) (sl (vb1 (⟨(⟨p.i7,p.c8,p.i8⟩:V3),p.e8⟩:Pln) (gL tV p.cc7 s.is5.toNat)) (sl (decide (t1 > 0)) (e 1) (k ⟨(W (s.is5+1))⟩)) z) z) (e 2))
noncomputable def va6 (p:Ba9) (s:T8):Stp T8:=pa4 .next .exit .fail p s
noncomputable def nb4:Lo Ba9 T8:=⟨En ac6,0,ge3,[1,0,1,4,4],[1,2,5],.p,[⟨((.s (.o .unk))::((.s (.c 3 (nL tV)))::((.s (.o (.ptr 0 0 0 0)))::((.s (.o .unk))::((.s (.o .unk))::((.s (.o (.int .i64)))::(ru2 13 []))))))),[⟨0,4,true,(some [[(.o (.int .i64)),(.o (.int .i64)),(.o (.int .i64)),(.o (.int .i64))]])⟩],fun a H=>(⟨(rL tV (slT a 1)),(toI (slT (rwT (elT H 0) 0) 0)),(toI (slT (rwT (elT H 0) 0) 1)),(toI (slT (rwT (elT H 0) 0) 2)),(toI (slT (rwT (elT H 0) 0) 3))⟩,⟨(toI (slT a 5))⟩)⟩],va6,[(none,fun p s=>⟨[(b false)],[]⟩),(some 0,fun p s=>⟨(.unk::((eL tV p.cc7)::((.ptr 0 0 0 0)::(.unk::(.unk::((i s.is5)::((i s.is5)::((eL tV p.cc7)::((i (↑(List.length p.cc7):Int))::((b (decide (s.is5 < (↑(List.length p.cc7):Int))))::(ra 9 []))))))))))),[⟨0,4,[[(i p.i7),(i p.c8),(i p.i8),(i p.e8)]],true,false,0⟩]⟩)],Bc8⟩
theorem Bc9:nb4.Ok:=Lo.ok [] (by kernel_rfl) .nil rfl (.cons (fun a H=>by kernel_rfl) .nil) fun p s=>(.of @pa4 (fun F _ _ _ _ _=>by unfold pa4;(repeat' apply n7 (f:=F))<;>rfl) (by kernel_rfl))
noncomputable def Ra8 (x:Pln) (y:List V3):Option (b7×List b8):=let t1:=(lp (va6 (⟨(rt tV y),x.n.x,x.n.y,x.n.z,x.b⟩:Ba9)) (⟨0⟩:T8));(sl ((cnE tV y)&&true) (sl (Nat.beq t1.1 1) (some ((b false),[])) (sl (Nat.beq t1.1 2) (some ((b true),[])) none)) none)
noncomputable def Ra9 (x:Pln) (y:List V3):Bool:=J9 (one r1B) (Ra8 x y)
noncomputable def ga3 (x:Pln) (y:List V3):Bool:=okO (one r1B) (Ra8 x y)
noncomputable def lc6:Sum:=ia7 (O8 tP) (W6 tV) (fun x y=>.guard (ga3 x y) (.ret ((one r1B).enc (Ra9 x y),[])))
theorem Yc7:i6 prog G 183 lc6:=bb2 (bd Fe7 Kc1) (one r1B) (o:=Ra8) fun x y=>za4 (.s .p (.s (.s .p (.b (.u nb4.ls))) .p)) [nb4.pr] (by kernel_rfl) (.cons Bc9 .nil) (by kernel_rfl)
noncomputable def Cc0:List (Nat×Sum):=[(180,Nb5)]
theorem md5:l0 prog G Cc0:=⟨Bc5,trivial⟩
structure Sa0 where
 c9:List Pln
 i7:Int
 c8:Int
 i8:Int
 e8:Int
structure ga4 where
 is5:Int
noncomputable def Yc8 (p:Sa0) (s:ga4):St:=⟨((eL tP p.c9)::(.unk::(.unk::((.ptr 0 0 0 0)::(.unk::((i s.is5)::(ra 42 []))))))),[⟨0,4,[[(i p.i7),(i p.c8),(i p.i8),(i p.e8)]],true,false,0⟩]⟩
noncomputable def Ca0 {α:Type} (k:ga4→α) (e:Nat→α) (z:α) (p:Sa0) (s:ga4):α:=let t1:=(Ba7 (gL tP p.c9 s.is5.toNat) (⟨(⟨p.i7,p.c8,p.i8⟩:V3),p.e8⟩:Pln));(sl (decide (s.is5 < (↑(List.length p.c9):Int))) (sl (inB s.is5 (List.length p.c9)) (sl (nb2 (gL tP p.c9 s.is5.toNat) (⟨(⟨p.i7,p.c8,p.i8⟩:V3),p.e8⟩:Pln)) (sl (decide (t1 < 0)) (k ⟨(W (s.is5+1))⟩) (e 1)) z) z) (e 2))
noncomputable def ya1 (p:Sa0) (s:ga4):Stp ga4:=Ca0 .next .exit .fail p s
noncomputable def Fb8:Lo Sa0 ga4:=⟨En Cc0,0,ge4,[1,1,0,4,4],[0,3,5],.p,[⟨((.s (.c 4 (nL tP)))::((.s (.o .unk))::((.s (.o .unk))::((.s (.o (.ptr 0 0 0 0)))::((.s (.o .unk))::((.s (.o (.int .i64)))::(ru2 42 []))))))),[⟨0,4,true,(some [[(.o (.int .i64)),(.o (.int .i64)),(.o (.int .i64)),(.o (.int .i64))]])⟩],fun a H=>(⟨(rL tP (slT a 0)),(toI (slT (rwT (elT H 0) 0) 0)),(toI (slT (rwT (elT H 0) 0) 1)),(toI (slT (rwT (elT H 0) 0) 2)),(toI (slT (rwT (elT H 0) 0) 3))⟩,⟨(toI (slT a 5))⟩)⟩],ya1,[(some 0,fun p s=>let t1:=(Ba7 (gL tP p.c9 s.is5.toNat) (⟨(⟨p.i7,p.c8,p.i8⟩:V3),p.e8⟩:Pln));⟨((eL tP p.c9)::(.unk::(.unk::((.ptr 0 0 0 0)::(.unk::((i s.is5)::(.unk::((i s.is5)::((eL tP p.c9)::((i (↑(List.length p.c9):Int))::((b (decide (s.is5 < (↑(List.length p.c9):Int))))::((b true)::((eL tP p.c9)::((i s.is5)::((.tptr [(i (gL tP p.c9 s.is5.toNat).n.x),(i (gL tP p.c9 s.is5.toNat).n.y),(i (gL tP p.c9 s.is5.toNat).n.z),(i (gL tP p.c9 s.is5.toNat).b)])::((.agg [(i (gL tP p.c9 s.is5.toNat).n.x),(i (gL tP p.c9 s.is5.toNat).n.y),(i (gL tP p.c9 s.is5.toNat).n.z),(i (gL tP p.c9 s.is5.toNat).b)])::((.agg [(i p.i7),(i p.c8),(i p.i8),(i p.e8)])::((i t1)::((b (decide (t1 < 0)))::((b (decide (t1 < 0)))::(ra 28 []))))))))))))))))))))),[⟨0,4,[[(i p.i7),(i p.c8),(i p.i8),(i p.e8)]],true,false,0⟩]⟩),(some 0,fun p s=>⟨((eL tP p.c9)::(.unk::(.unk::((.ptr 0 0 0 0)::(.unk::((i s.is5)::(.unk::((i s.is5)::((eL tP p.c9)::((i (↑(List.length p.c9):Int))::((b (decide (s.is5 < (↑(List.length p.c9):Int))))::((b false)::(u::(u::(u::(u::(u::(u::(u::((b false)::(ra 28 []))))))))))))))))))))),[⟨0,4,[[(i p.i7),(i p.c8),(i p.i8),(i p.e8)]],true,false,0⟩]⟩)],Yc8⟩
theorem Yc9:Fb8.Ok:=Lo.ok [] (by kernel_rfl) .nil rfl (.cons (fun a H=>by kernel_rfl) .nil) fun p s=>(.of @Ca0 (fun F _ _ _ _ _=>by unfold Ca0;(repeat' apply n7 (f:=F))<;>rfl) (by kernel_rfl))
noncomputable def qb5 (x:List Pln) (y:Pln):Option (b7×List b8):=let t1:=(lp (ya1 (⟨(rt tP x),y.n.x,y.n.y,y.n.z,y.b⟩:Sa0)) (⟨0⟩:ga4));let a0:=(k8 (fun k=>(fun k=>(tP).row (gL tP (rt tP x) k)) (0+k)) (List.range (t1.2.is5.toNat - 0)));let a1:=(k8 (fun k=>(fun k=>(tP).row (gL tP (rt tP x) k)) (t1.2.is5.toNat+k)) (List.range ((List.length (rt tP x)) - t1.2.is5.toNat)));let a2:=(inB t1.2.is5 ((List.length (rt tP x))+1));let a3:=(Nat.beq (0+(len a0)) (len (app [] a0))&&Nat.ble (((0+(len a0))+1)*32) room);let a4:=(((0+(len a0))+1)+(len a1));let a5:=(gL tP (rt tP x) t1.2.is5.toNat);let a6:=(Nat.beq 1 1&&Nat.ble ((1+(len a1))*32) room);let a7:=(Nat.beq 0 0&&Nat.ble ((0+(len a0))*32) room);(sl ((cnE tP x)&&true) (sl (Nat.beq t1.1 1) (sl (decide (t1.2.is5 < (↑(List.length (rt tP x)):Int))) (sl (inB t1.2.is5 (List.length (rt tP x))) (sl ((a5.n.x==y.n.x)&&((a5.n.y==y.n.y)&&((a5.n.z==y.n.z)&&((a5.b==y.b)&&true)))) (some ((eL tP (rt tP x)),[])) (sl a2 (sl (Nat.beq (len a0) 0) (sl a2 (sl (Nat.beq (len a1) 0) (some ((.sl 0 0 1 0),[⟨50,4,[[(i y.n.x),(i y.n.y),(i y.n.z),(i y.b)]],true,false,0⟩])) (sl a6 (some ((.sl 0 0 (1+(len a1)) 0),[⟨50,4,(app [[(i y.n.x),(i y.n.y),(i y.n.z),(i y.b)]] a1),true,false,0⟩])) none)) none) (sl a7 (sl a3 (sl a2 (sl (Nat.beq (len a1) 0) (some ((.sl 0 0 ((0+(len a0))+1) 0),[⟨50,4,(app (app [] a0) [[(i y.n.x),(i y.n.y),(i y.n.z),(i y.b)]]),true,false,0⟩])) (sl (Nat.beq ((0+(len a0))+1) (len (app (app [] a0) [[(i y.n.x),(i y.n.y),(i y.n.z),(i y.b)]]))&&Nat.ble (a4*32) room) (some ((.sl 0 0 a4 0),[⟨50,4,(app (app (app [] a0) [[(i y.n.x),(i y.n.y),(i y.n.z),(i y.b)]]) a1),true,false,0⟩])) none)) none) none) none)) none)) none) (sl a2 (sl (Nat.beq (len a0) 0) (sl a2 (sl (Nat.beq (len a1) 0) (some ((.sl 0 0 1 0),[⟨50,4,[[(i y.n.x),(i y.n.y),(i y.n.z),(i y.b)]],true,false,0⟩])) (sl a6 (some ((.sl 0 0 (1+(len a1)) 0),[⟨50,4,(app [[(i y.n.x),(i y.n.y),(i y.n.z),(i y.b)]] a1),true,false,0⟩])) none)) none) (sl a7 (sl a3 (sl a2 (sl (Nat.beq (len a1) 0) (some ((.sl 0 0 ((0+(len a0))+1) 0),[⟨50,4,(app (app [] a0) [[(i y.n.x),(i y.n.y),(i y.n.z),(i y.b)]]),true,false,0⟩])) (sl (Nat.beq ((0+(len a0))+1) (len (app (app [] a0) [[(i y.n.x),(i y.n.y),(i y.n.z),(i y.b)]]))&&Nat.ble (a4*32) room) (some ((.sl 0 0 a4 0),[⟨50,4,(app (app (app [] a0) [[(i y.n.x),(i y.n.y),(i y.n.z),(i y.b)]]) a1),true,false,0⟩])) none)) none) none) none)) none)) (sl (Nat.beq t1.1 2) (sl (decide (t1.2.is5 < (↑(List.length (rt tP x)):Int))) (sl (inB t1.2.is5 (List.length (rt tP x))) (sl ((a5.n.x==y.n.x)&&((a5.n.y==y.n.y)&&((a5.n.z==y.n.z)&&((a5.b==y.b)&&true)))) (some ((eL tP (rt tP x)),[])) (sl a2 (sl (Nat.beq (len a0) 0) (sl a2 (sl (Nat.beq (len a1) 0) (some ((.sl 0 0 1 0),[⟨50,4,[[(i y.n.x),(i y.n.y),(i y.n.z),(i y.b)]],true,false,0⟩])) (sl a6 (some ((.sl 0 0 (1+(len a1)) 0),[⟨50,4,(app [[(i y.n.x),(i y.n.y),(i y.n.z),(i y.b)]] a1),true,false,0⟩])) none)) none) (sl a7 (sl a3 (sl a2 (sl (Nat.beq (len a1) 0) (some ((.sl 0 0 ((0+(len a0))+1) 0),[⟨50,4,(app (app [] a0) [[(i y.n.x),(i y.n.y),(i y.n.z),(i y.b)]]),true,false,0⟩])) (sl (Nat.beq ((0+(len a0))+1) (len (app (app [] a0) [[(i y.n.x),(i y.n.y),(i y.n.z),(i y.b)]]))&&Nat.ble (a4*32) room) (some ((.sl 0 0 a4 0),[⟨50,4,(app (app (app [] a0) [[(i y.n.x),(i y.n.y),(i y.n.z),(i y.b)]]) a1),true,false,0⟩])) none)) none) none) none)) none)) none) (sl a2 (sl (Nat.beq (len a0) 0) (sl a2 (sl (Nat.beq (len a1) 0) (some ((.sl 0 0 1 0),[⟨50,4,[[(i y.n.x),(i y.n.y),(i y.n.z),(i y.b)]],true,false,0⟩])) (sl a6 (some ((.sl 0 0 (1+(len a1)) 0),[⟨50,4,(app [[(i y.n.x),(i y.n.y),(i y.n.z),(i y.b)]] a1),true,false,0⟩])) none)) none) (sl a7 (sl a3 (sl a2 (sl (Nat.beq (len a1) 0) (some ((.sl 0 0 ((0+(len a0))+1) 0),[⟨50,4,(app (app [] a0) [[(i y.n.x),(i y.n.y),(i y.n.z),(i y.b)]]),true,false,0⟩])) (sl (Nat.beq ((0+(len a0))+1) (len (app (app [] a0) [[(i y.n.x),(i y.n.y),(i y.n.z),(i y.b)]]))&&Nat.ble (a4*32) room) (some ((.sl 0 0 a4 0),[⟨50,4,(app (app (app [] a0) [[(i y.n.x),(i y.n.y),(i y.n.z),(i y.b)]]) a1),true,false,0⟩])) none)) none) none) none)) none)) none)) none)
noncomputable def I5 (x:List Pln) (y:Pln):List Pln:=J9 (one (r1L tP)) (qb5 x y)
noncomputable def ra1 (x:List Pln) (y:Pln):Bool:=okO (one (r1L tP)) (qb5 x y)
noncomputable def Qc9:Sum:=ia7 (W6 tP) (O8 tP) (fun x y=>.guard (ra1 x y) (.ret ((one (r1L tP)).enc (I5 x y),[])))
theorem vd5:i6 prog G 184 Qc9:=bb2 (bd Fe8 md5) (one (r1L tP)) (o:=qb5) fun x y=>za4 (.s .p (.s .p (.s (.b (.u Fb8.ls)) .p))) [Fb8.pr] (by kernel_rfl) (.cons Yc9 .nil) (by kernel_rfl)
noncomputable def Ya8:List (Nat×Sum):=[(182,lc5),(115,Oa2),(183,lc6),(184,Qc9),(119,Sb1)]
theorem Kc2:l0 prog G Ya8:=⟨Yc6,eb0,Yc7,vd5,lc2,trivial⟩
structure T9 where
 f9:List V3
 is6:Int
 is7:Int
structure E6 where
 ph:Nat
 is8:Int
 da1:List Pln
noncomputable def oc8 (p:T9) (s:E6):St:=⟨((eL tV p.f9)::(ra 4 ((.v (.slice none 0 0))::((i p.is6)::((i p.is7)::((i s.is8)::(ra 56 []))))))),[]⟩
noncomputable def oc9 (p:T9) (s:E6):St:=⟨((eL tV p.f9)::(ra 4 ((eL tP s.da1)::((i p.is6)::((i p.is7)::((i s.is8)::(ra 56 []))))))),[]⟩
noncomputable def Cc1 (p:T9) (s:E6):St:=(sel (Nat.beq s.ph 1) (oc9 p s) (oc8 p s))
noncomputable def X2 {α:Type} (k:E6→α) (e:Nat→α) (z:α) (p:T9) (s:E6):α:=let t1:=(ha6 (gL tV p.f9 p.is6.toNat) (gL tV p.f9 p.is7.toNat) (gL tV p.f9 s.is8.toNat));let t2:=(Ra9 t1.1 (rt tV p.f9));let t3:=(I5 [] t1.1);let t4:=(ub9 t1.1);let t5:=(Ra9 t4 (rt tV p.f9));let t6:=(I5 (rt tP t3) t4);let t7:=(I5 [] t4);(sl (decide (s.is8 < p.is7)) (sl (inB p.is6 (List.length p.f9)) (sl (inB p.is7 (List.length p.f9)) (sl (inB s.is8 (List.length p.f9)) (sl (ha7 (gL tV p.f9 p.is6.toNat) (gL tV p.f9 p.is7.toNat) (gL tV p.f9 s.is8.toNat)) (sl (!t1.2) (k ⟨0,(W (s.is8+1)),[]⟩) (sl (okE tV p.f9) (sl (ga3 t1.1 (rt tV p.f9)) (sl t2 (sl (ra1 [] t1.1) (sl (okE tV p.f9) (sl (ga3 t4 (rt tV p.f9)) (sl t5 (sl (okE tP t3) (sl (ra1 (rt tP t3) t4) (k ⟨1,(W (s.is8+1)),t6⟩) z) z) (k ⟨1,(W (s.is8+1)),t3⟩)) z) z) z) (sl (okE tV p.f9) (sl (ga3 t4 (rt tV p.f9)) (sl t5 (sl (ra1 [] t4) (k ⟨1,(W (s.is8+1)),t7⟩) z) (k ⟨0,(W (s.is8+1)),[]⟩)) z) z)) z) z)) z) z) z) z) (e 1))
noncomputable def X3 {α:Type} (k:E6→α) (e:Nat→α) (z:α) (p:T9) (s:E6):α:=let t1:=(ha6 (gL tV p.f9 p.is6.toNat) (gL tV p.f9 p.is7.toNat) (gL tV p.f9 s.is8.toNat));let t2:=(Ra9 t1.1 (rt tV p.f9));let t3:=(I5 (rt tP s.da1) t1.1);let t4:=(ub9 t1.1);let t5:=(Ra9 t4 (rt tV p.f9));let t6:=(I5 (rt tP t3) t4);let t7:=(I5 (rt tP s.da1) t4);(sl (decide (s.is8 < p.is7)) (sl (inB p.is6 (List.length p.f9)) (sl (inB p.is7 (List.length p.f9)) (sl (inB s.is8 (List.length p.f9)) (sl (ha7 (gL tV p.f9 p.is6.toNat) (gL tV p.f9 p.is7.toNat) (gL tV p.f9 s.is8.toNat)) (sl (!t1.2) (k ⟨1,(W (s.is8+1)),s.da1⟩) (sl (okE tV p.f9) (sl (ga3 t1.1 (rt tV p.f9)) (sl t2 (sl (okE tP s.da1) (sl (ra1 (rt tP s.da1) t1.1) (sl (okE tV p.f9) (sl (ga3 t4 (rt tV p.f9)) (sl t5 (sl (okE tP t3) (sl (ra1 (rt tP t3) t4) (k ⟨1,(W (s.is8+1)),t6⟩) z) z) (k ⟨1,(W (s.is8+1)),t3⟩)) z) z) z) z) (sl (okE tV p.f9) (sl (ga3 t4 (rt tV p.f9)) (sl t5 (sl (okE tP s.da1) (sl (ra1 (rt tP s.da1) t4) (k ⟨1,(W (s.is8+1)),t7⟩) z) z) (k ⟨1,(W (s.is8+1)),s.da1⟩)) z) z)) z) z)) z) z) z) z) (e 2))
noncomputable def va7 (p:T9) (s:E6):Stp E6:=(sel (Nat.beq s.ph 1) (X3 .next .exit .fail p s) (X2 .next .exit .fail p s))
noncomputable def nb5:Lo T9 E6:=⟨En Ya8,0,zd7,[1,1,1,1,0,1,4,4,1,0,4,1,4,4,1,0,4,1,4,4],[0,5,6,7,8],.p,[⟨((.s (.c 3 (nL tV)))::(ru2 4 ((.s (.o .nil))::((.s (.o (.int .i64)))::((.s (.o (.int .i64)))::((.s (.o (.int .i64)))::(ru2 56 []))))))),[],fun a H=>(⟨(rL tV (slT a 0)),(toI (slT a 6)),(toI (slT a 7))⟩,⟨0,(toI (slT a 8)),[]⟩)⟩,⟨((.s (.c 3 (nL tV)))::(ru2 4 ((.s (.c 4 (nL tP)))::((.s (.o (.int .i64)))::((.s (.o (.int .i64)))::((.s (.o (.int .i64)))::(ru2 56 []))))))),[],fun a H=>(⟨(rL tV (slT a 0)),(toI (slT a 6)),(toI (slT a 7))⟩,⟨1,(toI (slT a 8)),(rL tP (slT a 5))⟩)⟩],va7,[(some 4,fun p s=>⟨((eL tV p.f9)::(ra 4 ((.v (.slice none 0 0))::((i p.is6)::((i p.is7)::((i s.is8)::(ra 18 ((i s.is8)::((i p.is7)::((b (decide (s.is8 < p.is7)))::(ra 35 []))))))))))),[]⟩),(some 4,fun p s=>⟨((eL tV p.f9)::(ra 4 ((eL tP s.da1)::((i p.is6)::((i p.is7)::((i s.is8)::(ra 18 ((i s.is8)::((i p.is7)::((b (decide (s.is8 < p.is7)))::(ra 35 []))))))))))),[]⟩)],Cc1⟩
theorem Cc2:nb5.Ok:=Lo.ok [] (by kernel_rfl) .nil rfl (.cons (fun a H=>by kernel_rfl) (.cons (fun a H=>by kernel_rfl) .nil)) fun p s=>(.sel (Nat.beq s.ph 1) (.of @X3 (fun F _ _ _ _ _=>by unfold X3;(repeat' apply n7 (f:=F))<;>rfl) (by kernel_rfl)) (.of @X2 (fun F _ _ _ _ _=>by unfold X2;(repeat' apply n7 (f:=F))<;>rfl) (by kernel_rfl)))
structure U0 where
 is6:Int
structure E7 where
 ph:Nat
 f9:List V3
 is7:Int
 da1:List Pln
noncomputable def pc0 (p:U0) (s:E7):St:=⟨((eL tV s.f9)::(ra 4 ((.v (.slice none 0 0))::((i p.is6)::((i s.is7)::(ra 57 [])))))),[]⟩
noncomputable def pc1 (p:U0) (s:E7):St:=⟨((eL tV s.f9)::(ra 4 ((eL tP s.da1)::((i p.is6)::((i s.is7)::(ra 57 [])))))),[]⟩
noncomputable def Cc3 (p:U0) (s:E7):St:=(sel (Nat.beq s.ph 1) (pc1 p s) (pc0 p s))
noncomputable def X4 {α:Type} (k:E7→α) (e:Nat→α) (z:α) (p:U0) (s:E7):α:=let t1:=(lp (va7 (⟨(rt tV s.f9),p.is6,s.is7⟩:T9)) (⟨0,0,[]⟩:E6));(sl (decide (s.is7 < p.is6)) (sl ((cnE tV s.f9)&&true) (sl (Nat.beq t1.1 1) (k ⟨0,(rt tV s.f9),(W (s.is7+1)),[]⟩) (sl (Nat.beq t1.1 2) (k ⟨1,(rt tV s.f9),(W (s.is7+1)),t1.2.da1⟩) z)) z) (e 1))
noncomputable def X5 {α:Type} (k:E7→α) (e:Nat→α) (z:α) (p:U0) (s:E7):α:=let t1:=(lp (va7 (⟨(rt tV s.f9),p.is6,s.is7⟩:T9)) (⟨1,0,(rt tP s.da1)⟩:E6));(sl (decide (s.is7 < p.is6)) (sl ((cnE tV s.f9)&&((cnE tP s.da1)&&true)) (sl (Nat.beq t1.1 1) (k ⟨0,(rt tV s.f9),(W (s.is7+1)),[]⟩) (sl (Nat.beq t1.1 2) (k ⟨1,(rt tV s.f9),(W (s.is7+1)),t1.2.da1⟩) z)) z) (e 2))
noncomputable def va8 (p:U0) (s:E7):Stp E7:=(sel (Nat.beq s.ph 1) (X5 .next .exit .fail p s) (X4 .next .exit .fail p s))
noncomputable def nb6:Lo U0 E7:=⟨En Ya8,0,zd7,[1,1,1,1,0,1,4,4,1,0,4,1,4,4],[0,5,6,7],(.s .p (.s (.b (.s .p (.b (.u nb5.ls)))) .p)),[⟨((.s (.c 3 (nL tV)))::(ru2 4 ((.s (.o .nil))::((.s (.o (.int .i64)))::((.s (.o (.int .i64)))::(ru2 57 [])))))),[],fun a H=>(⟨(toI (slT a 6))⟩,⟨0,(rL tV (slT a 0)),(toI (slT a 7)),[]⟩)⟩,⟨((.s (.c 3 (nL tV)))::(ru2 4 ((.s (.c 4 (nL tP)))::((.s (.o (.int .i64)))::((.s (.o (.int .i64)))::(ru2 57 [])))))),[],fun a H=>(⟨(toI (slT a 6))⟩,⟨1,(rL tV (slT a 0)),(toI (slT a 7)),(rL tP (slT a 5))⟩)⟩],va8,[(some 2,fun p s=>⟨((eL tV s.f9)::(ra 4 ((.v (.slice none 0 0))::((i p.is6)::((i s.is7)::(ra 14 ((i s.is7)::((i p.is6)::((b (decide (s.is7 < p.is6)))::(ra 40 [])))))))))),[]⟩),(some 2,fun p s=>⟨((eL tV s.f9)::(ra 4 ((eL tP s.da1)::((i p.is6)::((i s.is7)::(ra 14 ((i s.is7)::((i p.is6)::((b (decide (s.is7 < p.is6)))::(ra 40 [])))))))))),[]⟩)],Cc3⟩
theorem Cc4:nb6.Ok:=Lo.ok [nb5.pr] (by kernel_rfl) (.cons Cc2 .nil) rfl (.cons (fun a H=>by kernel_rfl) (.cons (fun a H=>by kernel_rfl) .nil)) fun p s=>(.sel (Nat.beq s.ph 1) (.of @X5 (fun F _ _ _ _ _=>by unfold X5;(repeat' apply n7 (f:=F))<;>rfl) (by kernel_rfl)) (.of @X4 (fun F _ _ _ _ _=>by unfold X4;(repeat' apply n7 (f:=F))<;>rfl) (by kernel_rfl)))
structure ba1 where
structure H8 where
 ph:Nat
 f9:List V3
 is6:Int
 da1:List Pln
noncomputable def pc2 (p:ba1) (s:H8):St:=⟨((eL tV s.f9)::(ra 4 ((.v (.slice none 0 0))::((i s.is6)::(ra 58 []))))),[]⟩
noncomputable def pc3 (p:ba1) (s:H8):St:=⟨((eL tV s.f9)::(ra 4 ((eL tP s.da1)::((i s.is6)::(ra 58 []))))),[]⟩
noncomputable def Cc5 (p:ba1) (s:H8):St:=(sel (Nat.beq s.ph 1) (pc3 p s) (pc2 p s))
noncomputable def X6 {α:Type} (k:H8→α) (e:Nat→α) (z:α) (p:ba1) (s:H8):α:=let t1:=(lp (va8 (⟨s.is6⟩:U0)) (⟨0,(rt tV s.f9),0,[]⟩:E7));(sl (decide (s.is6 < (↑(List.length s.f9):Int))) (sl ((cnE tV s.f9)&&true) (sl (Nat.beq t1.1 1) (k ⟨0,t1.2.f9,(W (s.is6+1)),[]⟩) (sl (Nat.beq t1.1 2) (k ⟨1,t1.2.f9,(W (s.is6+1)),t1.2.da1⟩) z)) z) (e 1))
noncomputable def X7 {α:Type} (k:H8→α) (e:Nat→α) (z:α) (p:ba1) (s:H8):α:=let t1:=(lp (va8 (⟨s.is6⟩:U0)) (⟨1,(rt tV s.f9),0,(rt tP s.da1)⟩:E7));(sl (decide (s.is6 < (↑(List.length s.f9):Int))) (sl ((cnE tV s.f9)&&((cnE tP s.da1)&&true)) (sl (Nat.beq t1.1 1) (k ⟨0,t1.2.f9,(W (s.is6+1)),[]⟩) (sl (Nat.beq t1.1 2) (k ⟨1,t1.2.f9,(W (s.is6+1)),t1.2.da1⟩) z)) z) (e 2))
noncomputable def Ja5 (p:ba1) (s:H8):Stp H8:=(sel (Nat.beq s.ph 1) (X7 .next .exit .fail p s) (X6 .next .exit .fail p s))
noncomputable def nb7:Lo ba1 H8:=⟨En Ya8,0,zd7,[1,1,1,1,0,1,4,4],[0,5,6],(.s .p (.s (.b (.s .p (.b (.u nb6.ls)))) .p)),[⟨((.s (.c 3 (nL tV)))::(ru2 4 ((.s (.o .nil))::((.s (.o (.int .i64)))::(ru2 58 []))))),[],fun a H=>(⟨⟩,⟨0,(rL tV (slT a 0)),(toI (slT a 6)),[]⟩)⟩,⟨((.s (.c 3 (nL tV)))::(ru2 4 ((.s (.c 4 (nL tP)))::((.s (.o (.int .i64)))::(ru2 58 []))))),[],fun a H=>(⟨⟩,⟨1,(rL tV (slT a 0)),(toI (slT a 6)),(rL tP (slT a 5))⟩)⟩],Ja5,[(some 0,fun p s=>⟨((eL tV s.f9)::(ra 4 ((.v (.slice none 0 0))::((i s.is6)::(ra 9 ((i s.is6)::((eL tV s.f9)::((i (↑(List.length s.f9):Int))::((b (decide (s.is6 < (↑(List.length s.f9):Int))))::(ra 45 [])))))))))),[]⟩),(some 0,fun p s=>⟨((eL tV s.f9)::(ra 4 ((eL tP s.da1)::((i s.is6)::(ra 9 ((i s.is6)::((eL tV s.f9)::((i (↑(List.length s.f9):Int))::((b (decide (s.is6 < (↑(List.length s.f9):Int))))::(ra 45 [])))))))))),[]⟩)],Cc5⟩
theorem Cc6:nb7.Ok:=Lo.ok [nb6.pr] (by kernel_rfl) (.cons Cc4 .nil) rfl (.cons (fun a H=>by kernel_rfl) (.cons (fun a H=>by kernel_rfl) .nil)) fun p s=>(.sel (Nat.beq s.ph 1) (.of @X7 (fun F _ _ _ _ _=>by unfold X7;(repeat' apply n7 (f:=F))<;>rfl) (by kernel_rfl)) (.of @X6 (fun F _ _ _ _ _=>by unfold X6;(repeat' apply n7 (f:=F))<;>rfl) (by kernel_rfl)))
noncomputable def Sa1 (x:List V3):Option (b7×List b8):=let t1:=(Fb6 (rt tV x));let t2:=(lp (Ja5 (⟨⟩:ba1)) (⟨0,(rt tV x),0,[]⟩:H8));(sl (okE tV x) (sl (Fb7 (rt tV x)) (sl (t1 != 0) (some ((.tup [(.v (.slice none 0 0)),(i t1)]),[])) (sl ((cnE tV x)&&true) (sl (Nat.beq t2.1 1) (some ((.tup [(.v (.slice none 0 0)),(i 0)]),[])) (sl (Nat.beq t2.1 2) (some ((.tup [(eL tP t2.2.da1),(i 0)]),[])) none)) none)) none) none)
noncomputable def kb1 (x:List V3):List Pln×Int:=J9 (two (r1L tP) r1I) (Sa1 x)
noncomputable def Fa4 (x:List V3):Bool:=okO (two (r1L tP) r1I) (Sa1 x)
noncomputable def lc7:Sum:=ea8 (W6 tV) (fun x=>.guard (Fa4 x) (.ret ((two (r1L tP) r1I).enc (kb1 x),[])))
theorem Zc0:i6 prog G 112 lc7:=za3 (bd Ce9 Kc2) (two (r1L tP) r1I) (o:=Sa1) fun x=>za4 (.s .p (.s .p (.s .p (.s .p (.s (.s .p (.b (.u nb7.ls))) .p))))) [nb7.pr] (by kernel_rfl) (.cons Cc6 .nil) (by kernel_rfl)
noncomputable def Nb6:List (Nat×Sum):=[(98,pa1),(124,Sb3)]
theorem Cc7:l0 prog G Nb6:=⟨ya0,lc4,trivial⟩
structure V4 where
 is4:Int
structure A3 where
 ph:Nat
 is6:Int
 i4:List Int
 c8:Int
 ns5:Nat
 eh1:List (List b7)
noncomputable def ic1 (p:V4) (s:A3):St:=⟨(ra 3 ((.ptr 0 0 0 0)::((i p.is4)::((.v (.slice none 0 0))::((i s.is6)::(ra 127 [])))))),[⟨0,2,[[(eL tI s.i4),(i s.c8)]],true,false,0⟩]⟩
noncomputable def ic2 (p:V4) (s:A3):St:=⟨(ra 3 ((.ptr 0 0 0 0)::((i p.is4)::((.sl 1 0 s.ns5 0)::((i s.is6)::(ra 127 [])))))),[⟨0,2,[[(eL tI s.i4),(i s.c8)]],true,false,0⟩,⟨36,3,s.eh1,true,false,0⟩]⟩
noncomputable def pc4 (p:V4) (s:A3):St:=(sel (Nat.beq s.ph 1) (ic2 p s) (ic1 p s))
noncomputable def ka9 {α:Type} (k:A3→α) (e:Nat→α) (z:α) (p:V4) (s:A3):α:=let t1:=(l8 ⟨17,(rt tI s.i4),s.c8⟩);let t2:=(l8 ⟨17,(rt tI (rt tI s.i4)),t1.c8⟩);let t3:=(l8 ⟨17,(rt tI (rt tI (rt tI s.i4))),t2.c8⟩);let t4:=(l8 ⟨6,(rt tI (rt tI (rt tI (rt tI s.i4)))),t3.c8⟩);(sl (decide (s.is6 < p.is4)) (sl ((cnE tI s.i4)&&true) (sl (Nat.beq t1.alt 1) (sl ((cnE tI (rt tI s.i4))&&true) (sl (Nat.beq t2.alt 1) (sl ((cnE tI (rt tI (rt tI s.i4)))&&true) (sl (Nat.beq t3.alt 1) (sl ((cnE tI (rt tI (rt tI (rt tI s.i4))))&&true) (sl (Nat.beq t4.alt 1) (sl (t4.is0==1) (sl (decide (s.is6 > 1)) z (sl (t4.is0==2) (sl (decide (s.is6 > 0)) z (sl (t4.is0==3) (sl (decide (s.is6 > 2)) z (k ⟨1,(W (s.is6+1)),(rt tI (rt tI (rt tI (rt tI s.i4)))),t4.c8,1,[[(i (W (t1.is0 - 8))),(i (W (t2.is0 - 8))),(i (W (t3.is0 - 8)))]]⟩)) (k ⟨1,(W (s.is6+1)),(rt tI (rt tI (rt tI (rt tI s.i4)))),t4.c8,1,[[(i (W (t1.is0 - 8))),(i (W (t2.is0 - 8))),(i (W (t3.is0 - 8)))]]⟩))) (sl (t4.is0==3) (sl (decide (s.is6 > 2)) z (k ⟨1,(W (s.is6+1)),(rt tI (rt tI (rt tI (rt tI s.i4)))),t4.c8,1,[[(i (W (t1.is0 - 8))),(i (W (t2.is0 - 8))),(i (W (t3.is0 - 8)))]]⟩)) (k ⟨1,(W (s.is6+1)),(rt tI (rt tI (rt tI (rt tI s.i4)))),t4.c8,1,[[(i (W (t1.is0 - 8))),(i (W (t2.is0 - 8))),(i (W (t3.is0 - 8)))]]⟩)))) (sl (t4.is0==2) (sl (decide (s.is6 > 0)) z (sl (t4.is0==3) (sl (decide (s.is6 > 2)) z (k ⟨1,(W (s.is6+1)),(rt tI (rt tI (rt tI (rt tI s.i4)))),t4.c8,1,[[(i (W (t1.is0 - 8))),(i (W (t2.is0 - 8))),(i (W (t3.is0 - 8)))]]⟩)) (k ⟨1,(W (s.is6+1)),(rt tI (rt tI (rt tI (rt tI s.i4)))),t4.c8,1,[[(i (W (t1.is0 - 8))),(i (W (t2.is0 - 8))),(i (W (t3.is0 - 8)))]]⟩))) (sl (t4.is0==3) (sl (decide (s.is6 > 2)) z (k ⟨1,(W (s.is6+1)),(rt tI (rt tI (rt tI (rt tI s.i4)))),t4.c8,1,[[(i (W (t1.is0 - 8))),(i (W (t2.is0 - 8))),(i (W (t3.is0 - 8)))]]⟩)) (k ⟨1,(W (s.is6+1)),(rt tI (rt tI (rt tI (rt tI s.i4)))),t4.c8,1,[[(i (W (t1.is0 - 8))),(i (W (t2.is0 - 8))),(i (W (t3.is0 - 8)))]]⟩)))) z) z) z) z) z) z) z) z) (e 1))
noncomputable def I6 {α:Type} (k:A3→α) (e:Nat→α) (z:α) (p:V4) (s:A3):α:=let t1:=(l8 ⟨17,(rt tI s.i4),s.c8⟩);let a0:=(d9 s.eh1 (0+(W (s.is6 - 1)).toNat));let a1:=(Nat.beq s.ns5 (len s.eh1)&&Nat.ble ((s.ns5+1)*24) room);let a3:=(d8 (d9 s.eh1 (0+(W (s.is6 - 2)).toNat)) 0);let a4:=((Nat.blt (0+(W (s.is6 - 1)).toNat) (len s.eh1))&&(Nat.ble (2+1) (len a0)));let a5:=(i (W (Int.tdiv (W ((toI (hdA (tlA (d8 a0 0))))+(toI (hdA (tlA a3))))) 2)));let a6:=(i (W (Int.tdiv (W ((toI (hdA (d8 a0 0)))+(toI (hdA a3)))) 2)));let a7:=(app s.eh1 [[a6,a5,(i (W (Int.tdiv (W ((toI (hdA (tlA (tlA (d8 a0 0)))))+(toI (hdA (tlA (tlA a3)))))) 2)))]]);let a8:=(inB (W (s.is6 - 1)) s.ns5);let a9:=(i (toI (hdA (tlA (d8 a0 0)))));let a10:=((Nat.blt (0+(W (s.is6 - 1)).toNat) (len s.eh1))&&(Nat.ble (0+3) (len a0)));let a11:=(i (toI (hdA (d8 a0 0))));let a12:=(app s.eh1 [[a11,a9,(i (toI (hdA (tlA (tlA (d8 a0 0))))))]]);let a13:=(i (toI (hdA (d8 a0 2))));let a14:=(rt tI (rt tI s.i4));let t2:=(l8 ⟨17,a14,t1.c8⟩);let t3:=(l8 ⟨17,(rt tI a14),t2.c8⟩);let a2:=(rt tI (rt tI a14));let t4:=(l8 ⟨6,a2,t3.c8⟩);(sl (decide (s.is6 < p.is4)) (sl ((cnE tI s.i4)&&true) (sl (Nat.beq t1.alt 1) (sl ((cnE tI (rt tI s.i4))&&true) (sl (Nat.beq t2.alt 1) (sl ((cnE tI a14)&&true) (sl (Nat.beq t3.alt 1) (sl ((cnE tI (rt tI a14))&&true) (sl (Nat.beq t4.alt 1) (sl (t4.is0==1) (sl (decide (s.is6 > 1)) (sl a8 (sl (a10&&(J4 [(CK.int .i64),(CK.int .i64),(CK.int .i64)] (d8 a0 0))) (sl (inB (W (s.is6 - 2)) s.ns5) (sl (((Nat.blt (0+(W (s.is6 - 2)).toNat) (len s.eh1))&&(Nat.ble (0+3) (len (d9 s.eh1 (0+(W (s.is6 - 2)).toNat)))))&&(J4 [(CK.int .i64),(CK.int .i64),(CK.int .i64)] a3)) (sl (t4.is0==2) (sl (decide (s.is6 > 0)) (sl a8 (sl (a10&&(J4 [(CK.int .i64),(CK.int .i64),(CK.int .i64)] (d8 a0 0))) (sl (t4.is0==3) (sl (decide (s.is6 > 2)) (sl a8 (sl (a4&&(J4 [(CK.int .i64)] (d8 a0 2))) (sl a1 (k ⟨1,(W (s.is6+1)),a2,t4.c8,(s.ns5+1),(app s.eh1 [[a11,a9,a13]])⟩) z) z) z) (sl a1 (k ⟨1,(W (s.is6+1)),a2,t4.c8,(s.ns5+1),a12⟩) z)) (sl a1 (k ⟨1,(W (s.is6+1)),a2,t4.c8,(s.ns5+1),a12⟩) z)) z) z) (sl (t4.is0==3) (sl (decide (s.is6 > 2)) (sl a8 (sl (a4&&(J4 [(CK.int .i64)] (d8 a0 2))) (sl a1 (k ⟨1,(W (s.is6+1)),a2,t4.c8,(s.ns5+1),(app s.eh1 [[a6,a5,a13]])⟩) z) z) z) (sl a1 (k ⟨1,(W (s.is6+1)),a2,t4.c8,(s.ns5+1),a7⟩) z)) (sl a1 (k ⟨1,(W (s.is6+1)),a2,t4.c8,(s.ns5+1),a7⟩) z))) (sl (t4.is0==3) (sl (decide (s.is6 > 2)) (sl a8 (sl (a4&&(J4 [(CK.int .i64)] (d8 a0 2))) (sl a1 (k ⟨1,(W (s.is6+1)),a2,t4.c8,(s.ns5+1),(app s.eh1 [[a6,a5,a13]])⟩) z) z) z) (sl a1 (k ⟨1,(W (s.is6+1)),a2,t4.c8,(s.ns5+1),a7⟩) z)) (sl a1 (k ⟨1,(W (s.is6+1)),a2,t4.c8,(s.ns5+1),a7⟩) z))) z) z) z) z) (sl (t4.is0==2) (sl (decide (s.is6 > 0)) (sl a8 (sl (a10&&(J4 [(CK.int .i64),(CK.int .i64),(CK.int .i64)] (d8 a0 0))) (sl (t4.is0==3) (sl (decide (s.is6 > 2)) (sl a8 (sl (a4&&(J4 [(CK.int .i64)] (d8 a0 2))) (sl a1 (k ⟨1,(W (s.is6+1)),a2,t4.c8,(s.ns5+1),(app s.eh1 [[a11,a9,a13]])⟩) z) z) z) (sl a1 (k ⟨1,(W (s.is6+1)),a2,t4.c8,(s.ns5+1),a12⟩) z)) (sl a1 (k ⟨1,(W (s.is6+1)),a2,t4.c8,(s.ns5+1),a12⟩) z)) z) z) (sl (t4.is0==3) (sl (decide (s.is6 > 2)) (sl a8 (sl (a4&&(J4 [(CK.int .i64)] (d8 a0 2))) (sl a1 (k ⟨1,(W (s.is6+1)),a2,t4.c8,(s.ns5+1),(app s.eh1 [[(i (W (t1.is0 - 8))),(i (W (t2.is0 - 8))),a13]])⟩) z) z) z) (sl a1 (k ⟨1,(W (s.is6+1)),a2,t4.c8,(s.ns5+1),(app s.eh1 [[(i (W (t1.is0 - 8))),(i (W (t2.is0 - 8))),(i (W (t3.is0 - 8)))]])⟩) z)) (sl a1 (k ⟨1,(W (s.is6+1)),a2,t4.c8,(s.ns5+1),(app s.eh1 [[(i (W (t1.is0 - 8))),(i (W (t2.is0 - 8))),(i (W (t3.is0 - 8)))]])⟩) z))) (sl (t4.is0==3) (sl (decide (s.is6 > 2)) (sl a8 (sl (a4&&(J4 [(CK.int .i64)] (d8 a0 2))) (sl a1 (k ⟨1,(W (s.is6+1)),a2,t4.c8,(s.ns5+1),(app s.eh1 [[(i (W (t1.is0 - 8))),(i (W (t2.is0 - 8))),a13]])⟩) z) z) z) (sl a1 (k ⟨1,(W (s.is6+1)),a2,t4.c8,(s.ns5+1),(app s.eh1 [[(i (W (t1.is0 - 8))),(i (W (t2.is0 - 8))),(i (W (t3.is0 - 8)))]])⟩) z)) (sl a1 (k ⟨1,(W (s.is6+1)),a2,t4.c8,(s.ns5+1),(app s.eh1 [[(i (W (t1.is0 - 8))),(i (W (t2.is0 - 8))),(i (W (t3.is0 - 8)))]])⟩) z)))) (sl (t4.is0==2) (sl (decide (s.is6 > 0)) (sl a8 (sl (a10&&(J4 [(CK.int .i64),(CK.int .i64),(CK.int .i64)] (d8 a0 0))) (sl (t4.is0==3) (sl (decide (s.is6 > 2)) (sl a8 (sl (a4&&(J4 [(CK.int .i64)] (d8 a0 2))) (sl a1 (k ⟨1,(W (s.is6+1)),a2,t4.c8,(s.ns5+1),(app s.eh1 [[a11,a9,a13]])⟩) z) z) z) (sl a1 (k ⟨1,(W (s.is6+1)),a2,t4.c8,(s.ns5+1),a12⟩) z)) (sl a1 (k ⟨1,(W (s.is6+1)),a2,t4.c8,(s.ns5+1),a12⟩) z)) z) z) (sl (t4.is0==3) (sl (decide (s.is6 > 2)) (sl a8 (sl (a4&&(J4 [(CK.int .i64)] (d8 a0 2))) (sl a1 (k ⟨1,(W (s.is6+1)),a2,t4.c8,(s.ns5+1),(app s.eh1 [[(i (W (t1.is0 - 8))),(i (W (t2.is0 - 8))),a13]])⟩) z) z) z) (sl a1 (k ⟨1,(W (s.is6+1)),a2,t4.c8,(s.ns5+1),(app s.eh1 [[(i (W (t1.is0 - 8))),(i (W (t2.is0 - 8))),(i (W (t3.is0 - 8)))]])⟩) z)) (sl a1 (k ⟨1,(W (s.is6+1)),a2,t4.c8,(s.ns5+1),(app s.eh1 [[(i (W (t1.is0 - 8))),(i (W (t2.is0 - 8))),(i (W (t3.is0 - 8)))]])⟩) z))) (sl (t4.is0==3) (sl (decide (s.is6 > 2)) (sl a8 (sl (a4&&(J4 [(CK.int .i64)] (d8 a0 2))) (sl a1 (k ⟨1,(W (s.is6+1)),a2,t4.c8,(s.ns5+1),(app s.eh1 [[(i (W (t1.is0 - 8))),(i (W (t2.is0 - 8))),a13]])⟩) z) z) z) (sl a1 (k ⟨1,(W (s.is6+1)),a2,t4.c8,(s.ns5+1),(app s.eh1 [[(i (W (t1.is0 - 8))),(i (W (t2.is0 - 8))),(i (W (t3.is0 - 8)))]])⟩) z)) (sl a1 (k ⟨1,(W (s.is6+1)),a2,t4.c8,(s.ns5+1),(app s.eh1 [[(i (W (t1.is0 - 8))),(i (W (t2.is0 - 8))),(i (W (t3.is0 - 8)))]])⟩) z)))) z) z) z) z) z) z) z) z) (e 2))
noncomputable def Da0 (p:V4) (s:A3):Stp A3:=(sel (Nat.beq s.ph 1) (I6 .next .exit .fail p s) (ka9 .next .exit .fail p s))
noncomputable def eb5:Lo V4 A3:=⟨En Nb6,0,se0,[1,1,1,1,0,1,4,4],[3,4,5,6],.p,[⟨(ru2 3 ((.s (.o (.ptr 0 0 0 0)))::((.s (.o (.int .i64)))::((.s (.o .nil))::((.s (.o (.int .i64)))::(ru2 127 [])))))),[⟨0,2,true,(some [[(.c 1 (nL tI)),(.o (.int .i64))]])⟩],fun a H=>(⟨(toI (slT a 4))⟩,⟨0,(toI (slT a 6)),(rL tI (slT (rwT (elT H 0) 0) 0)),(toI (slT (rwT (elT H 0) 0) 1)),0,[]⟩)⟩,⟨(ru2 3 ((.s (.o (.ptr 0 0 0 0)))::((.s (.o (.int .i64)))::((.s (.o (.sl 1 0 (some 0) none)))::((.s (.o (.int .i64)))::(ru2 127 [])))))),[⟨0,2,true,(some [[(.c 1 (nL tI)),(.o (.int .i64))]])⟩,⟨36,3,true,none⟩],fun a H=>(⟨(toI (slT a 4))⟩,⟨1,(toI (slT a 6)),(rL tI (slT (rwT (elT H 0) 0) 0)),(toI (slT (rwT (elT H 0) 0) 1)),(slN (slT a 5)),(elT H 1)⟩)⟩],Da0,[(some 0,fun p s=>⟨(ra 3 ((.ptr 0 0 0 0)::((i p.is4)::((.v (.slice none 0 0))::((i s.is6)::(ra 11 ((i s.is6)::((i p.is4)::((b (decide (s.is6 < p.is4)))::(ra 113 [])))))))))),[⟨0,2,[[(eL tI s.i4),(i s.c8)]],true,false,0⟩]⟩),(some 0,fun p s=>⟨(ra 3 ((.ptr 0 0 0 0)::((i p.is4)::((.sl 1 0 s.ns5 0)::((i s.is6)::(ra 11 ((i s.is6)::((i p.is4)::((b (decide (s.is6 < p.is4)))::(ra 113 [])))))))))),[⟨0,2,[[(eL tI s.i4),(i s.c8)]],true,false,0⟩,⟨36,3,s.eh1,true,false,0⟩]⟩)],pc4⟩
theorem pc5:eb5.Ok:=Lo.ok [] (by kernel_rfl) .nil rfl (.cons (fun a H=>by kernel_rfl) (.cons (fun a H=>by kernel_rfl) .nil)) fun p s=>(.sel (Nat.beq s.ph 1) (.of @I6 (fun F _ _ _ _ _=>by unfold I6;(repeat' apply n7 (f:=F))<;>rfl) (by kernel_rfl)) (.of @ka9 (fun F _ _ _ _ _=>by unfold ka9;(repeat' apply n7 (f:=F))<;>rfl) (by kernel_rfl)))
noncomputable def Ja6 (x:List Int):Option (b7×List b8):=let t1:=(l8 ⟨5,(rt tI x),0⟩);let t2:=(lp (Da0 (⟨(W (4+t1.is0))⟩:V4)) (⟨0,0,(rt tI (rt tI x)),t1.c8,0,[]⟩:A3));let t3:=(eb4 []);let t4:=(eb4 (lsL tV t2.2.ns5 (fun k=>d9 t2.2.eh1 (0+k))));let a0:=(d8 (d9 t2.2.eh1 0) 0);let a1:=(i (toI (hdA (tlA (tlA a0)))));let a2:=(i (W ((toI (hdA a0)) - 3)));let a3:=(setAt t2.2.eh1 1 (J5 (d9 t2.2.eh1 1) 0 [a2,(i (toI (hdA (tlA a0)))),a1]));let a4:=(i (W ((toI (hdA (tlA a0))) - 2)));(sl ((cnE tI x)&&true) (sl (Nat.beq t1.alt 1) (sl ((cnE tI (rt tI x))&&true) (sl (Nat.beq t2.1 1) (sl (Na2 []) (sl t3 none (some ((.v (.slice none 0 0)),[]))) none) (sl (Nat.beq t2.1 2) (sl (okL tV t2.2.ns5 (fun k=>d9 t2.2.eh1 (0+k))) (sl (Na2 (lsL tV t2.2.ns5 (fun k=>d9 t2.2.eh1 (0+k)))) (sl t4 (sl (inB 0 t2.2.ns5) (sl (((Nat.blt 0 (len t2.2.eh1))&&(Nat.ble (0+3) (len (d9 t2.2.eh1 0))))&&(J4 [(CK.int .i64),(CK.int .i64),(CK.int .i64)] a0)) (sl (inB 1 t2.2.ns5) (sl ((Nat.blt 1 (len t2.2.eh1))&&(Nat.ble (0+3) (len (d9 t2.2.eh1 1)))) (sl (inB 2 t2.2.ns5) (sl ((Nat.blt 2 (len a3))&&(Nat.ble (0+3) (len (d9 a3 2)))) (sl (inB 3 t2.2.ns5) (sl ((Nat.blt 3 (len (setAt a3 2 (J5 (d9 a3 2) 0 [(i (toI (hdA a0))),a4,a1]))))&&(Nat.ble (0+3) (len (d9 (setAt a3 2 (J5 (d9 a3 2) 0 [(i (toI (hdA a0))),a4,a1])) 3)))) (some ((.sl 0 0 t2.2.ns5 0),[⟨36,3,(setAt (setAt a3 2 (J5 (d9 a3 2) 0 [(i (toI (hdA a0))),a4,a1])) 3 (J5 (d9 (setAt a3 2 (J5 (d9 a3 2) 0 [(i (toI (hdA a0))),a4,a1])) 3) 0 [(i (toI (hdA a0))),(i (toI (hdA (tlA a0)))),(i (W ((toI (hdA (tlA (tlA a0)))) - 1)))])),true,false,0⟩])) none) none) none) none) none) none) none) none) (some ((.sl 0 0 t2.2.ns5 0),[⟨36,3,t2.2.eh1,true,false,0⟩]))) none) none) none)) none) none) none)
noncomputable def na6 (x:List Int):List V3:=J9 (one (r1L tV)) (Ja6 x)
noncomputable def Ja7 (x:List Int):Bool:=okO (one (r1L tV)) (Ja6 x)
noncomputable def ac7:Sum:=ea8 (W6 tI) (fun x=>.guard (Ja7 x) (.ret ((one (r1L tV)).enc (na6 x),[])))
theorem Kc3:i6 prog G 46 ac7:=za3 (bd b46 Cc7) (one (r1L tV)) (o:=Ja6) fun x=>za4 (.s .p (.s .p (.s .p (.s .p (.s (.s .p (.b (.u eb5.ls))) .p))))) [eb5.pr] (by kernel_rfl) (.cons pc5 .nil) (by kernel_rfl)
end Go.Ev.Ce
end
section
namespace Go.Ev.Ce
open Go Go.Ev Go.Ev.L Go.Proofs
set_option maxRecDepth 100000
noncomputable def md6:List (Nat×Sum):=[(98,pa1),(97,hc5),(111,fc9),(35,Bc4),(21,Rb0),(46,ac7),(112,lc7)]
theorem Zc1:l0 prog G md6:=⟨ya0,Bc0,yc1,md1,kc8,Kc3,Zc0,trivial⟩
noncomputable def eb6 (x:List Int):Option (b7×List b8):=let t1:=(l8 ⟨4,(rt tI x),0⟩);let t2:=(Na1 ⟨6,(rt tI (rt tI x)),t1.c8⟩);let t3:=(l8 ⟨6,(rt tI t2.i4),t2.c8⟩);let t4:=(l8 ⟨6,(rt tI (rt tI t2.i4)),t3.c8⟩);let t5:=(l8 ⟨6,(rt tI (rt tI (rt tI t2.i4))),t4.c8⟩);let t6:=(pb3 (⟨t2.la8,t2.la9,t2.ma0⟩:V3) (⟨(W ((W (t2.la8+1))+t3.is0)),(W ((W (t2.la9+1))+t4.is0)),(W ((W (t2.ma0+1))+t5.is0))⟩:V3));let a0:=(if 7 < (↑(List.length x):Int) then 7 else (↑(List.length x):Int));let a1:=(k8 (fun k=>(tP).row (gL tP t6 k)) (List.range (List.length t6)));let a2:=(fun k=>(fun k=>(tI).row (gL tI x k)) (a0.toNat+k));let a3:=((List.length x) - a0.toNat);let t7:=(Bc3 (lsL tI a3 a2));let t8:=(Ma0 [t7]);let t9:=(na6 (lsL tI a3 a2));let t10:=(kb1 (rt tV t9));let t11:=(Ma0 (slR tP (app (app [] a1) [[(i t7.n.x),(i t7.n.y),(i t7.n.z),(i t7.b)]]) 0 ((0+(len a1))+1)));(sl ((cnE tI x)&&true) (sl (Nat.beq t1.alt 1) (sl ((cnE tI (rt tI x))&&true) (sl (Nat.beq t2.alt 1) (sl ((cnE tI t2.i4)&&true) (sl (Nat.beq t3.alt 1) (sl ((cnE tI (rt tI t2.i4))&&true) (sl (Nat.beq t4.alt 1) (sl ((cnE tI (rt tI (rt tI t2.i4)))&&true) (sl (Nat.beq t5.alt 1) (sl (Za9 (⟨t2.la8,t2.la9,t2.ma0⟩:V3) (⟨(W ((W (t2.la8+1))+t3.is0)),(W ((W (t2.la9+1))+t4.is0)),(W ((W (t2.ma0+1))+t5.is0))⟩:V3)) (sl (inB a0 ((List.length x)+1)) (sl (t1.is0==2) (sl (Nat.beq (len a1) 0) (sl (okL tI a3 a2) (sl (ub8 (lsL tI a3 a2)) (sl (Ea1 [t7]) (sl t8 (some ((.sl 0 0 1 0),[⟨50,4,[[(i t7.n.x),(i t7.n.y),(i t7.n.z),(i t7.b)]],true,false,0⟩])) (sl (t1.is0==3) (sl (okL tI a3 a2) (sl (Ja7 (lsL tI a3 a2)) (sl (okE tV t9) (sl (Fa4 (rt tV t9)) (sl (t10.2==0) (some ((eL tP t10.1),[])) (some ((eL tP t6),[]))) none) none) none) none) (some ((eL tP t6),[])))) none) none) none) (sl (Nat.beq 0 0&&Nat.ble ((0+(len a1))*32) room) (sl (okL tI a3 a2) (sl (ub8 (lsL tI a3 a2)) (sl (Nat.beq (0+(len a1)) (len (app [] a1))&&Nat.ble (((0+(len a1))+1)*32) room) (sl (okS tP (app (app [] a1) [[(i t7.n.x),(i t7.n.y),(i t7.n.z),(i t7.b)]]) 0 ((0+(len a1))+1)) (sl (Ea1 (slR tP (app (app [] a1) [[(i t7.n.x),(i t7.n.y),(i t7.n.z),(i t7.b)]]) 0 ((0+(len a1))+1))) (sl t11 (some ((.sl 0 0 ((0+(len a1))+1) 0),[⟨50,4,(app (app [] a1) [[(i t7.n.x),(i t7.n.y),(i t7.n.z),(i t7.b)]]),true,false,0⟩])) (sl (t1.is0==3) (sl (okL tI a3 a2) (sl (Ja7 (lsL tI a3 a2)) (sl (okE tV t9) (sl (Fa4 (rt tV t9)) (sl (t10.2==0) (some ((eL tP t10.1),[])) (some ((eL tP t6),[]))) none) none) none) none) (some ((eL tP t6),[])))) none) none) none) none) none) none)) (sl (t1.is0==3) (sl (okL tI a3 a2) (sl (Ja7 (lsL tI a3 a2)) (sl (okE tV t9) (sl (Fa4 (rt tV t9)) (sl (t10.2==0) (some ((eL tP t10.1),[])) (some ((eL tP t6),[]))) none) none) none) none) (some ((eL tP t6),[])))) none) none) none) none) none) none) none) none) none) none) none) none)
noncomputable def F5 (x:List Int):List Pln:=J9 (one (r1L tP)) (eb6 x)
noncomputable def vb6 (x:List Int):Bool:=okO (one (r1L tP)) (eb6 x)
noncomputable def Sb4:Sum:=ea8 (W6 tI) (fun x=>.guard (vb6 x) (.ret ((one (r1L tP)).enc (F5 x),[])))
theorem lc8:i6 prog G 30 Sb4:=za3 (bd b30 Zc1) (one (r1L tP)) (o:=eb6) fun x=>s5 (by kernel_rfl)
noncomputable def Zc2:List (Nat×Sum):=[]
theorem Kc4:l0 prog G Zc2:=trivial
noncomputable def Sa2 (x:List Pln):Option (b7×List b8):=(sl (inB (if 8 < (↑(List.length x):Int) then 8 else (↑(List.length x):Int)) ((List.length x)+1)) (some ((.tree 4 ((if 8 < (↑(List.length x):Int) then 8 else (↑(List.length x):Int)).toNat - 0) (fun k=>(fun k=>(tP).row (gL tP x k)) (0+k))),[])) none)
noncomputable def Sa3 (x:List Pln):List Pln:=J9 (one (r1L tP)) (Sa2 x)
noncomputable def Fb9 (x:List Pln):Bool:=okO (one (r1L tP)) (Sa2 x)
noncomputable def lc9:Sum:=ea8 (W6 tP) (fun x=>.guard (Fb9 x) (.ret ((one (r1L tP)).enc (Sa3 x),[])))
theorem Zc3:i6 prog G 82 lc9:=za3 (bd b82 Kc4) (one (r1L tP)) (o:=Sa2) fun x=>s5 (by kernel_rfl)
noncomputable def kb2:List (Nat×Sum):=[]
theorem Sb5:l0 prog G kb2:=trivial
structure ca5 where
 A9:List Pt
 Fc1:List Pt
structure D2 where
 is5:Int
noncomputable def Lb6 (p:ca5) (s:D2):St:=⟨((eL tX p.A9)::((eL tX p.Fc1)::(ra 3 ((i s.is5)::(ra 20 []))))),[]⟩
noncomputable def V5 {α:Type} (k:D2→α) (e:Nat→α) (z:α) (p:ca5) (s:D2):α:=(sl (decide (s.is5 < (↑(List.length p.A9):Int))) (sl (inB s.is5 (List.length p.A9)) (sl (inB s.is5 (List.length p.Fc1)) (sl (!(((gL tX p.A9 s.is5.toNat).px==(gL tX p.Fc1 s.is5.toNat).px)&&(((gL tX p.A9 s.is5.toNat).py==(gL tX p.Fc1 s.is5.toNat).py)&&(((gL tX p.A9 s.is5.toNat).pz==(gL tX p.Fc1 s.is5.toNat).pz)&&(((gL tX p.A9 s.is5.toNat).pw==(gL tX p.Fc1 s.is5.toNat).pw)&&true))))) (e 1) (k ⟨(W (s.is5+1))⟩)) z) z) (e 2))
noncomputable def Y3 (p:ca5) (s:D2):Stp D2:=V5 .next .exit .fail p s
noncomputable def Ea3:Lo ca5 D2:=⟨En kb2,0,re5,[1,1,0,1,4,4],[0,1,5],.p,[⟨((.s (.c 4 (nL tX)))::((.s (.c 4 (nL tX)))::(ru2 3 ((.s (.o (.int .i64)))::(ru2 20 []))))),[],fun a H=>(⟨(rL tX (slT a 0)),(rL tX (slT a 1))⟩,⟨(toI (slT a 5))⟩)⟩],Y3,[(none,fun p s=>⟨[(b false)],[]⟩),(some 0,fun p s=>⟨((eL tX p.A9)::((eL tX p.Fc1)::(ra 3 ((i s.is5)::(ra 5 ((i s.is5)::((eL tX p.A9)::((i (↑(List.length p.A9):Int))::((b (decide (s.is5 < (↑(List.length p.A9):Int))))::(ra 11 [])))))))))),[]⟩)],Lb6⟩
theorem Lb7:Ea3.Ok:=Lo.ok [] (by kernel_rfl) .nil rfl (.cons (fun a H=>by kernel_rfl) .nil) fun p s=>(.of @V5 (fun F _ _ _ _ _=>by unfold V5;(repeat' apply n7 (f:=F))<;>rfl) (by kernel_rfl))
noncomputable def la0 (x:List Pt) (y:List Pt):Option (b7×List b8):=let t1:=(lp (Y3 (⟨(rt tX x),(rt tX y)⟩:ca5)) (⟨0⟩:D2));(sl ((↑(List.length x):Int) != (↑(List.length y):Int)) (some ((b false),[])) (sl ((cnE tX x)&&((cnE tX y)&&true)) (sl (Nat.beq t1.1 1) (some ((b false),[])) (sl (Nat.beq t1.1 2) (some ((b true),[])) none)) none))
noncomputable def la1 (x:List Pt) (y:List Pt):Bool:=J9 (one r1B) (la0 x y)
noncomputable def la2 (x:List Pt) (y:List Pt):Bool:=okO (one r1B) (la0 x y)
noncomputable def qb6:Sum:=ia7 (W6 tX) (W6 tX) (fun x y=>.guard (la2 x y) (.ret ((one r1B).enc (la1 x y),[])))
theorem ac8:i6 prog G 17 qb6:=bb2 (bd b17 Sb5) (one r1B) (o:=la0) fun x y=>za4 (.s .p (.s .p (.s (.s .p (.b (.u Ea3.ls))) .p))) [Ea3.pr] (by kernel_rfl) (.cons Lb7 .nil) (by kernel_rfl)
noncomputable def mc0:List (Nat×Sum):=[]
theorem Zc4:l0 prog G mc0:=trivial
structure Ja8 where
 c9:List Pln
 rb0:List Pln
structure Z7 where
 is5:Int
noncomputable def Kc5 (p:Ja8) (s:Z7):St:=⟨((eL tP p.c9)::((eL tP p.rb0)::(ra 3 ((i s.is5)::(ra 20 []))))),[]⟩
noncomputable def va9 {α:Type} (k:Z7→α) (e:Nat→α) (z:α) (p:Ja8) (s:Z7):α:=(sl (decide (s.is5 < (↑(List.length p.c9):Int))) (sl (inB s.is5 (List.length p.c9)) (sl (inB s.is5 (List.length p.rb0)) (sl (!(((gL tP p.c9 s.is5.toNat).n.x==(gL tP p.rb0 s.is5.toNat).n.x)&&(((gL tP p.c9 s.is5.toNat).n.y==(gL tP p.rb0 s.is5.toNat).n.y)&&(((gL tP p.c9 s.is5.toNat).n.z==(gL tP p.rb0 s.is5.toNat).n.z)&&(((gL tP p.c9 s.is5.toNat).b==(gL tP p.rb0 s.is5.toNat).b)&&true))))) (e 1) (k ⟨(W (s.is5+1))⟩)) z) z) (e 2))
noncomputable def Ca1 (p:Ja8) (s:Z7):Stp Z7:=va9 .next .exit .fail p s
noncomputable def vb7:Lo Ja8 Z7:=⟨En mc0,0,re7,[1,1,0,1,4,4],[0,1,5],.p,[⟨((.s (.c 4 (nL tP)))::((.s (.c 4 (nL tP)))::(ru2 3 ((.s (.o (.int .i64)))::(ru2 20 []))))),[],fun a H=>(⟨(rL tP (slT a 0)),(rL tP (slT a 1))⟩,⟨(toI (slT a 5))⟩)⟩],Ca1,[(none,fun p s=>⟨[(b false)],[]⟩),(some 0,fun p s=>⟨((eL tP p.c9)::((eL tP p.rb0)::(ra 3 ((i s.is5)::(ra 5 ((i s.is5)::((eL tP p.c9)::((i (↑(List.length p.c9):Int))::((b (decide (s.is5 < (↑(List.length p.c9):Int))))::(ra 11 [])))))))))),[]⟩)],Kc5⟩
theorem Kc6:vb7.Ok:=Lo.ok [] (by kernel_rfl) .nil rfl (.cons (fun a H=>by kernel_rfl) .nil) fun p s=>(.of @va9 (fun F _ _ _ _ _=>by unfold va9;(repeat' apply n7 (f:=F))<;>rfl) (by kernel_rfl))
noncomputable def eb7 (x:List Pln) (y:List Pln):Option (b7×List b8):=let t1:=(lp (Ca1 (⟨(rt tP x),(rt tP y)⟩:Ja8)) (⟨0⟩:Z7));(sl ((↑(List.length x):Int) != (↑(List.length y):Int)) (some ((b false),[])) (sl ((cnE tP x)&&((cnE tP y)&&true)) (sl (Nat.beq t1.1 1) (some ((b false),[])) (sl (Nat.beq t1.1 2) (some ((b true),[])) none)) none))
noncomputable def vb8 (x:List Pln) (y:List Pln):Bool:=J9 (one r1B) (eb7 x y)
noncomputable def vb9 (x:List Pln) (y:List Pln):Bool:=okO (one r1B) (eb7 x y)
noncomputable def Cc8:Sum:=ia7 (W6 tP) (W6 tP) (fun x y=>.guard (vb9 x y) (.ret ((one r1B).enc (vb8 x y),[])))
theorem md7:i6 prog G 26 Cc8:=bb2 (bd b26 Zc4) (one r1B) (o:=eb7) fun x y=>za4 (.s .p (.s .p (.s (.s .p (.b (.u vb7.ls))) .p))) [vb7.pr] (by kernel_rfl) (.cons Kc6 .nil) (by kernel_rfl)
noncomputable def Cc9:List (Nat×Sum):=[(47,pb6),(118,Qc8),(119,Sb1)]
theorem md8:l0 prog G Cc9:=⟨tb5,vd4,lc2,trivial⟩
structure Sa4 where
 is6:Int
structure na0 where
 ns5:Nat
 eh0:List (List b7)
noncomputable def Zc5 (p:Sa4) (s:na0):St:=⟨(ra 5 ((.sl 0 0 s.ns5 0)::((i p.is6)::(ra 91 [])))),[⟨50,4,s.eh0,true,false,0⟩]⟩
noncomputable def Oa3 {α:Type} (k:na0→α) (e:Nat→α) (z:α) (p:Sa4) (s:na0):α:=(sl (decide ((↑s.ns5:Int)≤48)) (sl (inB p.is6 s.ns5) (sl (ldR tP s.eh0 (0+p.is6.toNat)) (sl (Nat.beq s.ns5 (len s.eh0)&&Nat.ble ((s.ns5+1)*32) room) (k ⟨(s.ns5+1),(app s.eh0 [[(i (rdR tP s.eh0 (0+p.is6.toNat)).n.x),(i (rdR tP s.eh0 (0+p.is6.toNat)).n.y),(i (rdR tP s.eh0 (0+p.is6.toNat)).n.z),(i (rdR tP s.eh0 (0+p.is6.toNat)).b)]])⟩) z) z) z) (e 1))
noncomputable def Ja9 (p:Sa4) (s:na0):Stp na0:=Oa3 .next .exit .fail p s
noncomputable def Gb0:Lo Sa4 na0:=⟨En Cc9,0,re9,[1,1,1,1,0,1,4,1,3,1,3,1,3,1,3,1,3,1,2,4,4],[5,6],.p,[⟨(ru2 5 ((.s (.o (.sl 0 0 (some 0) none)))::((.s (.o (.int .i64)))::(ru2 91 [])))),[⟨50,4,true,none⟩],fun a H=>(⟨(toI (slT a 6))⟩,⟨(slN (slT a 5)),(elT H 0)⟩)⟩],Ja9,[(some 1,fun p s=>⟨(ra 5 ((.sl 0 0 s.ns5 0)::((i p.is6)::(ra 80 ((.sl 0 0 s.ns5 0)::((i (↑s.ns5:Int))::((b (decide ((↑s.ns5:Int)≤48)))::(ra 8 [])))))))),[⟨50,4,s.eh0,true,false,0⟩]⟩)],Zc5⟩
theorem Zc6:Gb0.Ok:=Lo.ok [] (by kernel_rfl) .nil rfl (.cons (fun a H=>by kernel_rfl) .nil) fun p s=>(.of @Oa3 (fun F _ _ _ _ _=>by unfold Oa3;(repeat' apply n7 (f:=F))<;>rfl) (by kernel_rfl))
noncomputable def qb7 (x:List Pln) (y:V3):Option (b7×List b8):=let t2:=(qa5 y.x 6);let t5:=(qa5 y.z 9);let a0:=(k8 (fun k=>(tP).row (gL tP x k)) (List.range (List.length x)));let t1:=(qa5 y.y (↑(0+(len a0)):Int));let t6:=(lp (Ja9 (⟨t1⟩:Sa4)) (⟨(0+(len a0)),(app [] a0)⟩:na0));let a1:=(D3 (d8 (app [] a0) (0+(W (t1+1)).toNat)) ((0+(len a0)) - (W (t1+1)).toNat));let a2:=(d9 (app [] a0) (0+t1.toNat));let a3:=(rdR tP (app [] a0) (0+t1.toNat));let t3:=(Qc7 a3 (⟨y.z,y.y,y.x⟩:V3));let t4:=(ub9 a3);let a4:=(Nat.blt (0+t1.toNat) (len (app [] a0)));(sl (Nat.beq (len a0) 0) (some ((.sl 0 0 1 0),[⟨50,4,[[(i 0),(i 0),(i 0),(i 0)]],true,false,0⟩])) (sl (Nat.beq 0 0&&Nat.ble ((0+(len a0))*32) room) (sl ((↑(0+(len a0)):Int)==0) (some ((.sl 0 0 1 0),[⟨50,4,[[(i 0),(i 0),(i 0),(i 0)]],true,false,0⟩])) (sl (ja8 y.y (↑(0+(len a0)):Int)) (sl (ja8 y.x 6) (sl (t2==0) (sl (inB t1 (0+(len a0))) (sl (ldR tP (app [] a0) (0+t1.toNat)) (sl (ic0 a3 (⟨y.z,y.y,y.x⟩:V3)) (sl (inB t1 (0+(len a0))) (sl (a4&&(Nat.ble (0+4) (len a2))) (some ((.sl 0 0 (0+(len a0)) 0),[⟨50,4,(setAt (app [] a0) (0+t1.toNat) (J5 a2 0 [(i t3.n.x),(i t3.n.y),(i t3.n.z),(i t3.b)])),true,false,0⟩])) none) none) none) none) none) (sl (t2==1) (sl (inB t1 ((0+(len a0))+1)) (sl (inB (W (t1+1)) ((0+(len a0))+1)) (sl (Nat.ble ((t1.toNat - 0)+(len a1)) (len (app [] a0))) (some ((.sl 0 0 ((t1.toNat - 0)+(len a1)) 0),[⟨50,4,(app (D3 (app [] a0) (t1.toNat - 0)) (app a1 (d8 (app [] a0) ((t1.toNat - 0)+(len a1))))),true,false,0⟩])) none) none) none) (sl (t2==2) (sl (inB t1 (0+(len a0))) (sl (ldR tP (app [] a0) (0+t1.toNat)) (sl (inB t1 (0+(len a0))) (sl (a4&&(Nat.ble (0+4) (len a2))) (some ((.sl 0 0 (0+(len a0)) 0),[⟨50,4,(setAt (app [] a0) (0+t1.toNat) (J5 a2 0 [(i t4.n.x),(i t4.n.y),(i t4.n.z),(i t4.b)])),true,false,0⟩])) none) none) none) none) (sl (t2==3) (sl (inB t1 (0+(len a0))) (sl (ldR tP (app [] a0) (0+t1.toNat)) (sl (Nat.beq (0+(len a0)) (len (app [] a0))&&Nat.ble (((0+(len a0))+1)*32) room) (some ((.sl 0 0 ((0+(len a0))+1) 0),[⟨50,4,(app (app [] a0) [[(i a3.n.x),(i a3.n.y),(i a3.n.z),(i a3.b)]]),true,false,0⟩])) none) none) none) (sl (t2==4) (sl (inB t1 (0+(len a0))) (sl ((a4&&(Nat.ble (3+1) (len a2)))&&(J4 [(CK.int .i64)] (d8 a2 3))) (sl (ja8 y.z 9) (sl (inB t1 (0+(len a0))) (sl (a4&&(Nat.ble (3+1) (len a2))) (some ((.sl 0 0 (0+(len a0)) 0),[⟨50,4,(setAt (app [] a0) (0+t1.toNat) (J5 a2 3 [(i (W ((W ((toI (hdA (d8 a2 3)))+t5)) - 4)))])),true,false,0⟩])) none) none) none) none) none) (sl (t2==5) (sl (Nat.beq t6.1 1) (some ((.sl 0 0 t6.2.ns5 0),[⟨50,4,t6.2.eh0,true,false,0⟩])) none) (some ((.sl 0 0 (0+(len a0)) 0),[⟨50,4,(app [] a0),true,false,0⟩])))))))) none) none)) none))
noncomputable def ea6 (x:List Pln) (y:V3):List Pln:=J9 (one (r1L tP)) (qb7 x y)
noncomputable def qb8 (x:List Pln) (y:V3):Bool:=okO (one (r1L tP)) (qb7 x y)
noncomputable def Rc0:Sum:=ia7 (W6 tP) (O8 tV) (fun x y=>.guard (qb8 x y) (.ret ((one (r1L tP)).enc (ea6 x y),[])))
theorem vd6:i6 prog G 39 Rc0:=bb2 (bd b39 md8) (one (r1L tP)) (o:=qb7) fun x y=>za4 (.s .p (.s .p (.s .p (.s .p (.s (.s .p (.b (.s .p (.c .p (.s .p (.c .p (.s .p (.c .p (.s .p (.c .p (.s .p (.c .p (.s .p (.c (.b (.u Gb0.ls)) .p)))))))))))))) .p))))) [Gb0.pr] (by kernel_rfl) (.cons Zc6 .nil) (by kernel_rfl)
end Go.Ev.Ce
end
