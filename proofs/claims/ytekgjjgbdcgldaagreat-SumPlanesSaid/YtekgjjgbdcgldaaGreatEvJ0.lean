/- Own work: a part of the proof. -/
import Derived.Test.YtekgjjgbdcgldaaGreatEvOS2
import Derived.Test.YtekgjjgbdcgldaaGreatEvODH
set_option linter.unusedVariables false
set_option linter.unusedSimpArgs false
set_option linter.unnecessarySimpa false
set_option linter.unusedSectionVars false
namespace Go.Ev.Ce
open Go Go.Ev Go.Ev.L Go.Proofs
theorem pd4 (x y:Int) (hx:0≤x) (hy:0≤y) (hb:y≤9223372036854775807):Ia4 x y=some (i (Int.gcd x y:Int),[]):=by
 unfold Ia4
 have:=Pe4 (step:=na1 ⟨⟩) (mk:=fun g n=>(⟨g,n⟩:U4)) (fun g n h=>by simp[na1,ka2,xb1,h]) (fun g=>by simp[na1,ka2,xb1]) x y (by omega)
 simp only[this,Ae6 hx hy]
 rfl
theorem Wc0 (x y:Int) (hx:0≤x) (hy:0≤y) (hb:y≤9223372036854775807):M1 x y=(Int.gcd x y:Int):=by unfold M1;rw[pd4 x y hx hy hb];rfl
theorem Wc1 (x y:Int) (hx:0≤x) (hy:0≤y) (hb:y≤9223372036854775807):M2 x y=true:=by unfold M2;rw[pd4 x y hx hy hb];rfl
noncomputable def rm (p:Pln) (x:Pt):Int:=W (p.b*x.pw - (p.n.x*x.px+p.n.y*x.py+p.n.z*x.pz))
theorem ge9 (p:Pln) (x:Pt):db5 p x=rm p x:=by
 unfold db5 rm
 simp only[zb6,Yb3,zd1,ae1]
 congr 1
 omega
structure Bd (p:Pln):Prop where
 x1:-4608≤p.n.x
 x2:p.n.x≤4608
 y1:-4608≤p.n.y
 y2:p.n.y≤4608
 z1:-4608≤p.n.z
 z2:p.n.z≤4608
 b1:-2097152≤p.b
 b2:p.b≤2097152
def mv (p q r:Pln):V3 :=
 ⟨(f7 q.n r.n).x*p.b+(f7 r.n p.n).x*q.b+(f7 p.n q.n).x*r.b,
  (f7 q.n r.n).y*p.b+(f7 r.n p.n).y*q.b+(f7 p.n q.n).y*r.b,
  (f7 q.n r.n).z*p.b+(f7 r.n p.n).z*q.b+(f7 p.n q.n).z*r.b⟩
def gc (v:V3) (w:Int):Int:=(Nat.gcd (Nat.gcd v.x.natAbs v.y.natAbs) (Nat.gcd v.z.natAbs w.natAbs):Nat)
def mpt (p q r:Pln):Pt×Bool :=
 if mw p q r=0 then (⟨0,0,0,0⟩,false)
 else if mw p q r < 0 then (⟨Int.tdiv (-(mv p q r).x) (gc (mv p q r) (mw p q r)),Int.tdiv (-(mv p q r).y) (gc (mv p q r) (mw p q r)),Int.tdiv (-(mv p q r).z) (gc (mv p q r) (mw p q r)),Int.tdiv (-(mw p q r)) (gc (mv p q r) (mw p q r))⟩,true)
 else (⟨Int.tdiv (mv p q r).x (gc (mv p q r) (mw p q r)),Int.tdiv (mv p q r).y (gc (mv p q r) (mw p q r)),Int.tdiv (mv p q r).z (gc (mv p q r) (mw p q r)),Int.tdiv (mw p q r) (gc (mv p q r) (mw p q r))⟩,true)
def Sm (n:Int) (x:Int):Prop:=-n≤x∧x≤n
theorem Kb5 {a b:V3} (ha:Sm 4608 a.x∧Sm 4608 a.y∧Sm 4608 a.z) (hb:Sm 4608 b.x∧Sm 4608 b.y∧Sm 4608 b.z):Sm 42467328 (f7 a b).x∧Sm 42467328 (f7 a b).y∧Sm 42467328 (f7 a b).z:=by
 obtain⟨⟨a1,a2⟩,⟨a3,a4⟩,a5,a6⟩:=ha
 obtain⟨⟨b1,b2⟩,⟨b3,b4⟩,b5,b6⟩:=hb
 have h1:=mb a3 a4 b5 b6;have h2:=mb a5 a6 b3 b4;have h3:=mb a5 a6 b1 b2;have h4:=mb a1 a2 b5 b6;have h5:=mb a1 a2 b3 b4;have h6:=mb a3 a4 b1 b2
 unfold Sm f7
 simp only
 omega
theorem Bd.n {p:Pln} (h:Bd p):Sm 4608 p.n.x∧Sm 4608 p.n.y∧Sm 4608 p.n.z:=⟨⟨h.x1,h.x2⟩,⟨h.y1,h.y2⟩,h.z1,h.z2⟩
theorem af4 {p q r:Pln} (hp:Bd p) (hq:Bd q) (hr:Bd r):Sm 600000000000 (mw p q r):=by
 obtain⟨⟨c1,c2⟩,⟨c3,c4⟩,c5,c6⟩:=Kb5 hq.n hr.n
 have h1:=mb hp.x1 hp.x2 c1 c2;have h2:=mb hp.y1 hp.y2 c3 c4;have h3:=mb hp.z1 hp.z2 c5 c6
 unfold Sm mw dot
 omega
theorem af5 {p q r:Pln} (hp:Bd p) (hq:Bd q) (hr:Bd r):Sm 300000000000000 (mv p q r).x∧Sm 300000000000000 (mv p q r).y∧Sm 300000000000000 (mv p q r).z:=by
 obtain⟨⟨c1,c2⟩,⟨c3,c4⟩,c5,c6⟩:=Kb5 hq.n hr.n
 obtain⟨⟨d1,d2⟩,⟨d3,d4⟩,d5,d6⟩:=Kb5 hr.n hp.n
 obtain⟨⟨e1,e2⟩,⟨e3,e4⟩,e5,e6⟩:=Kb5 hp.n hq.n
 have a1:=mb c1 c2 hp.b1 hp.b2;have a2:=mb c3 c4 hp.b1 hp.b2;have a3:=mb c5 c6 hp.b1 hp.b2
 have b1:=mb d1 d2 hq.b1 hq.b2;have b2:=mb d3 d4 hq.b1 hq.b2;have b3:=mb d5 d6 hq.b1 hq.b2
 have f1:=mb e1 e2 hr.b1 hr.b2;have f2:=mb e3 e4 hr.b1 hr.b2;have f3:=mb e5 e6 hr.b1 hr.b2
 unfold Sm mv
 simp only
 omega
theorem Pe7 (a b:V3):ba0 a b=⟨W (f7 a b).x,W (f7 a b).y,W (f7 a b).z⟩:=by
 unfold ba0 f7
 simp only[zd1,ae1]
theorem ic6 (a b:V3):P5 a b=⟨W (f7 a b).x,W (f7 a b).y,W (f7 a b).z⟩:=by
 unfold P5 f7
 simp only[zd1,ae1]
theorem zd5 {v:V3} {w:Int} (h:w≠0):0 < gc v w:=by
 unfold gc
 have:0 < Nat.gcd v.z.natAbs w.natAbs:=Nat.gcd_pos_of_pos_right _ (by omega)
 have:=Nat.gcd_pos_of_pos_right (Nat.gcd v.x.natAbs v.y.natAbs) this
 omega
theorem af6 {v:V3} {w:Int} (h:w≠0):gc v w≤w.natAbs:=by
 unfold gc
 have h1:Nat.gcd v.z.natAbs w.natAbs≤w.natAbs:=Nat.gcd_le_right _ (by omega)
 have h2:0 < Nat.gcd v.z.natAbs w.natAbs:=Nat.gcd_pos_of_pos_right _ (by omega)
 have h3:=Nat.gcd_le_right (m:=Nat.gcd v.x.natAbs v.y.natAbs) (n:=Nat.gcd v.z.natAbs w.natAbs) h2
 omega
theorem La8 {x:Int} (h:Sm 1000000000000000000 x):W x=x:=ga3 (by have:=h.1;omega) (by have:=h.2;omega)
theorem Sm.mono {n m x:Int} (h:Sm n x) (hn:n≤m):Sm m x:=⟨by have:=h.1;omega,by have:=h.2;omega⟩
theorem K9 {n x g:Int} (h:Sm n x) (hg:0 < g):Sm n (Int.tdiv x g):=by
 have h1:(Int.tdiv x g).natAbs≤x.natAbs:=by rw[Int.natAbs_tdiv];exact Nat.div_le_self _ _
 have:=h.1;have:=h.2
 constructor<;>omega
theorem ae2 {p q r:Pln} (hp:Bd p) (hq:Bd q) (hr:Bd r) (h:(mpt p q r).2=true):0 < (mpt p q r).1.pw∧Sm 300000000000000 (mpt p q r).1.px∧Sm 300000000000000 (mpt p q r).1.py∧Sm 300000000000000 (mpt p q r).1.pz∧(mpt p q r).1.pw≤600000000000:=by
 have hw:=af4 hp hq hr
 obtain⟨v1,v2,v3⟩:=af5 hp hq hr
 have neg:∀ {n x:Int},Sm n x→Sm n (-x):=fun h=>⟨by have:=h.2;omega,by have:=h.1;omega⟩
 have pos:∀ {x:Int},0 < x→x.natAbs=(mw p q r).natAbs→0 < Int.tdiv x (gc (mv p q r) (mw p q r)):=fun {x} hx he=>by
  have h0:mw p q r≠0:=by omega
  have h1:=zd5 (v:=mv p q r) h0
  have h2:=af6 (v:=mv p q r) h0
  rw[Int.tdiv_eq_ediv_of_nonneg (by omega)]
  exact Int.ediv_pos_of_pos_of_dvd hx (by omega) (by
   rw[← Int.dvd_natAbs,he]
   exact Int.natCast_dvd_natCast.2 (Nat.dvd_trans (Nat.gcd_dvd_right _ _) (Nat.gcd_dvd_right _ _)))
 unfold mpt at h ⊢
 by_cases h0:mw p q r=0
 ·rw[if_pos h0] at h;cases h
 ·rw[if_neg h0]
  have hg:=zd5 (v:=mv p q r) h0
  by_cases h1:mw p q r < 0
  ·rw[if_pos h1]
   exact⟨pos (by omega) (by omega),K9 (neg v1) hg,K9 (neg v2) hg,K9 (neg v3) hg,(K9 (neg hw) hg).2⟩
  ·rw[if_neg h1]
   exact⟨pos (by omega) rfl,K9 v1 hg,K9 v2 hg,K9 v3 hg,(K9 hw hg).2⟩
theorem Od4 {p q r:Pln} (hp:Bd p) (hq:Bd q) (hr:Bd r):db7 p q r=some (.tup [.agg (tX.row (mpt p q r).1),b (mpt p q r).2],[]):=by
 have hw:=af4 hp hq hr
 obtain⟨v1,v2,v3⟩:=af5 hp hq hr
 have e1:Fa8 p.n (P5 q.n r.n)=mw p q r:=by
  rw[ic6]
  unfold Fa8
  simp only[zb6,Yb3,gf3]
  show W (dot p.n (f7 q.n r.n))=_
  rw[show dot p.n (f7 q.n r.n)=mw p q r from rfl,La8 (hw.mono (by omega))]
 have e2:bb1 (bb1 (M0 (P5 q.n r.n) p.b) (M0 (P5 r.n p.n) q.b)) (M0 (P5 p.n q.n) r.b)=mv p q r:=by
  rw[ic6,ic6,ic6]
  unfold bb1 M0
  simp only[zb6,Yb3,Ae4]
  show (⟨W (mv p q r).x,W (mv p q r).y,W (mv p q r).z⟩:V3)=_
  rw[La8 (v1.mono (by omega)),La8 (v2.mono (by omega)),La8 (v3.mono (by omega))]
 have neg:∀ {n x:Int},Sm n x→Sm n (-x):=fun h=>⟨by have:=h.2;omega,by have:=h.1;omega⟩
 have e3:M0 (mv p q r) (-1)=⟨-(mv p q r).x,-(mv p q r).y,-(mv p q r).z⟩:=by
  unfold M0
  have:∀ x:Int,x*-1=-x:=fun x=>by omega
  simp only[this]
  rw[La8 ((neg v1).mono (by omega)),La8 ((neg v2).mono (by omega)),La8 ((neg v3).mono (by omega))]
 have ab:∀ {x:Int},Sm 300000000000000 x→(if W (0 - x) > x then W (0 - x) else x)=(x.natAbs:Int):=fun {x} h=>by
  have:W (0 - x)=-x:=by rw[show 0 - x=-x by omega];exact La8 ((neg h).mono (by omega))
  rw[this]
  split<;>omega
 unfold db7
 simp only[e1,e2,e3]
 rw[ab v1,ab v2,ab v3,ab (neg v1),ab (neg v2),ab (neg v3)]
 simp only[Int.natAbs_neg]
 unfold mpt
 by_cases h0:mw p q r=0
 ·rw[bt (by rw[h0];rfl),if_pos h0]
  rfl
 ·have hz:(mw p q r==0)=false:=by simpa using h0
  rw[bf hz,if_neg h0]
  have hgp:=zd5 (v:=mv p q r) h0
  have hgl:=af6 (v:=mv p q r) h0
  have hw0:=hw
  unfold Sm at hw0
  have q1:((mv p q r).y.natAbs:Int)≤9223372036854775807:=by unfold Sm at v2;omega
  have k1:=Wc0 ((mv p q r).x.natAbs:Int) ((mv p q r).y.natAbs:Int) (by omega) (by omega) q1
  have k2:=Wc1 ((mv p q r).x.natAbs:Int) ((mv p q r).y.natAbs:Int) (by omega) (by omega) q1
  have c1:Int.gcd ((mv p q r).x.natAbs:Int) ((mv p q r).y.natAbs:Int)=Nat.gcd (mv p q r).x.natAbs (mv p q r).y.natAbs:=by simp[Int.gcd]
  have fin : ∀ w : Int, 0 < w → w.natAbs = (mw p q r).natAbs → M1 ((mv p q r).z.natAbs : Int) w = (Nat.gcd (mv p q r).z.natAbs (mw p q r).natAbs : Nat) ∧ M2 ((mv p q r).z.natAbs : Int) w = true ∧
    M1 (Nat.gcd (mv p q r).x.natAbs (mv p q r).y.natAbs:Nat) (Nat.gcd (mv p q r).z.natAbs (mw p q r).natAbs:Nat)=gc (mv p q r) (mw p q r)∧M2 (Nat.gcd (mv p q r).x.natAbs (mv p q r).y.natAbs:Nat) (Nat.gcd (mv p q r).z.natAbs (mw p q r).natAbs:Nat)=true:=by
   intro w hw1 hw2
   have l1:Nat.gcd (mv p q r).z.natAbs (mw p q r).natAbs≤(mw p q r).natAbs:=Nat.gcd_le_right _ (by omega)
   refine⟨?_,Wc1 _ _ (by omega) (by omega) (by omega),?_,Wc1 _ _ (by omega) (by omega) (by omega)⟩
   ·rw[Wc0 _ _ (by omega) (by omega) (by omega)]
    have:Int.gcd ((mv p q r).z.natAbs:Int) w=Nat.gcd (mv p q r).z.natAbs (mw p q r).natAbs:=by unfold Int.gcd;rw[hw2];simp
    rw[this]
   ·rw[Wc0 _ _ (by omega) (by omega) (by omega)]
    rfl
  by_cases h1:mw p q r < 0
  ·rw[bt (decide_eq_true h1),if_pos h1]
   have hWw:W (0 - mw p q r)=-mw p q r:=by rw[ga3 (by omega) (by omega)];omega
   rw[hWw]
   obtain⟨f1,f2,f3,f4⟩:=fin (-mw p q r) (by omega) (by omega)
   simp only[k1,k2,c1,f1,f2,f3,f4]
   generalize gc (mv p q r) (mw p q r)=G at *
   have hGp:(G==0)=false:=by simp;omega
   simp only[hGp]
   rw[La8 ((K9 (neg v1) hgp).mono (by omega)),La8 ((K9 (neg v2) hgp).mono (by omega)),La8 ((K9 (neg v3) hgp).mono (by omega)),La8 ((K9 (neg hw) hgp).mono (by omega))]
   rfl
  ·rw[bf (decide_eq_false h1),if_neg h1]
   obtain⟨f1,f2,f3,f4⟩:=fin (mw p q r) (by omega) rfl
   simp only[k1,k2,c1,f1,f2,f3,f4]
   generalize gc (mv p q r) (mw p q r)=G at *
   have hGp:(G==0)=false:=by simp;omega
   simp only[hGp]
   rw[La8 ((K9 v1 hgp).mono (by omega)),La8 ((K9 v2 hgp).mono (by omega)),La8 ((K9 v3 hgp).mono (by omega)),La8 ((K9 hw hgp).mono (by omega))]
   rfl
theorem Pe8 {p q r:Pln} (hp:Bd p) (hq:Bd q) (hr:Bd r):db8 p q r=mpt p q r:=by unfold db8;rw[Od4 hp hq hr];rfl
theorem Pe9 {p q r:Pln} (hp:Bd p) (hq:Bd q) (hr:Bd r):db9 p q r=true:=by unfold db9;rw[Od4 hp hq hr];rfl
end Go.Ev.Ce
namespace Go.Ev.Ce
open Go Go.Ev Go.Ev.L Go.Proofs
noncomputable def inn (l:List Pln) (x:Pt):Bool:=l.all fun p=>!decide (rm p x < 0)
theorem Qe0 (l:List Pln) (x:Pt):inn l x=!l.any fun p=>decide (rm p x < 0):=by unfold inn;rw[List.not_any_eq_all_not]
theorem af7 (l:List Pln) (x:Pt) (hl:l.length≤1000000000):Hb9 l x=some (b (inn l x),[]):=by
 have h:=Wa4 (step:=Sa5 ⟨l,x.px,x.py,x.pz,x.pw⟩) (mk:=fun j=>(⟨(j:Int)⟩:la2)) (c:=fun p=>decide (rm p x < 0)) (u:=1) (fin:=2) tP l hl
  (fun j hj=>by
   simp only[Sa5,Ia5,Int.toNat_natCast,ge9,o5 hj (by omega)]
   rw[bt (Jb3 hj),bt (f8 hj)])
  (by simp only[Sa5,Ia5];rw[bf (mb0 (Nat.lt_irrefl _))]) 0 (Nat.zero_le _)
 rw[List.drop_zero] at h
 unfold Hb9
 simp only[l5,j7,Qe0]
 rw[show (⟨0⟩:la2)=⟨((0:Nat):Int)⟩ from rfl,h]
 split
 ·rename_i h;rw[h];rfl
 ·rename_i h;rw[Bool.not_eq_true] at h;rw[h];rfl
theorem Gf3 (l:List Pln) (x:Pt) (hl:l.length≤1000000000):sb0 l x=inn l x:=by unfold sb0;rw[af7 l x hl];rfl
theorem Gf4 (l:List Pln) (x:Pt) (hl:l.length≤1000000000):sb1 l x=true:=by unfold sb1;rw[af7 l x hl];rfl
def eqX (x q:Pt):Bool:=q.px==x.px&&(q.py==x.py&&(q.pz==x.pz&&(q.pw==x.pw&&true)))
theorem he0 (x q:Pt):eqX x q=true↔q=x:=by
 unfold eqX
 simp only[Bool.and_true,Bool.and_eq_true,beq_iff_eq]
 exact⟨fun⟨h1,h2,h3,h4⟩=>by cases q;cases x;simp_all,fun h=>by subst h;exact⟨rfl,rfl,rfl,rfl⟩⟩
def Wc2 (l:List Pt) (x:Pt):Bool:=l.any (eqX x)
theorem Ae8 (l:List Pt) (x:Pt):Wc2 l x=true↔x∈l:=by
 unfold Wc2
 rw[List.any_eq_true]
 exact⟨fun⟨q,h,e⟩=>(he0 x q).1 e ▸ h,fun h=>⟨x,h,(he0 x x).2 rfl⟩⟩
theorem Od5 (l:List Pt) (x:Pt) (hl:l.length≤1000000000):Sa6 l x=some (b (Wc2 l x),[]):=by
 have h:=Wa4 (step:=ta0 ⟨l,x.px,x.py,x.pz,x.pw⟩) (mk:=fun j=>(⟨(j:Int)⟩:T3)) (c:=eqX x) (u:=1) (fin:=2) tX l hl
  (fun j hj=>by
   simp only[ta0,na2,Int.toNat_natCast,o5 hj (by omega)]
   rw[bt (Jb3 hj),bt (f8 hj)]
   rfl)
  (by simp only[ta0,na2];rw[bf (mb0 (Nat.lt_irrefl _))]) 0 (Nat.zero_le _)
 rw[List.drop_zero] at h
 unfold Sa6
 simp only[l5,j7]
 rw[show (⟨0⟩:T3)=⟨((0:Nat):Int)⟩ from rfl,h]
 unfold Wc2
 split
 ·rename_i h;rw[h];rfl
 ·rename_i h;rw[Bool.not_eq_true] at h;rw[h];rfl
theorem Qe1 (l:List Pt) (x:Pt) (hl:l.length≤1000000000):Fa9 l x=Wc2 l x:=by unfold Fa9;rw[Od5 l x hl];rfl
theorem Qe2 (l:List Pt) (x:Pt) (hl:l.length≤1000000000):Ga0 l x=true:=by unfold Ga0;rw[Od5 l x hl];rfl
def smb (n x:Int):Bool:=!decide (x < -n)&&!decide (x > n)
theorem ab3 (n x:Int):smb n x=true↔Sm n x:=by unfold smb Sm;simp only[Bool.and_eq_true,Bool.not_eq_true',decide_eq_false_iff_not];omega
theorem Wc3 (n:Int) (l:List Int) (hn:0≤n∧n≤1000000000) (hl:l.length≤1000000000):ta7 n l=some (b (l.all (smb n)),[]):=by
 have hW:W (0 - n)=-n:=by rw[ga3 (by omega) (by omega)];omega
 have h:=Wa4 (step:=fa3 ⟨n,l,(l.length:Int)⟩) (mk:=fun j=>(⟨(j:Int)⟩:G7)) (c:=fun x=>!smb n x) (u:=1) (fin:=2) tI l hl
  (fun j hj=>by
   simp only[fa3,ca6,Int.toNat_natCast,o5 hj (by omega),hW]
   rw[bt (Jb3 hj),bt (f8 hj)]
   unfold smb
   cases decide (gL tI l j < -n)<;>cases decide (gL tI l j > n)<;>rfl)
  (by simp only[fa3,ca6];rw[bf (mb0 (Nat.lt_irrefl _))]) 0 (Nat.zero_le _)
 rw[List.drop_zero] at h
 unfold ta7
 simp only[l5,j7]
 rw[show (⟨0⟩:G7)=⟨((0:Nat):Int)⟩ from rfl,h]
 have e:(l.any fun x=>!smb n x)=!l.all (smb n):=by rw[List.not_all_eq_any_not]
 rw[e]
 cases l.all (smb n)<;>rfl
theorem ub4 (n:Int) (l:List Int) (hn:0≤n∧n≤1000000000) (hl:l.length≤1000000000):J4 n l=l.all (smb n):=by unfold J4;rw[Wc3 n l hn hl];rfl
theorem ub5 (n:Int) (l:List Int) (hn:0≤n∧n≤1000000000) (hl:l.length≤1000000000):J5 n l=true:=by unfold J5;rw[Wc3 n l hn hl];rfl
theorem mb3 {n:Int} (h:Sm 1000000000000000000 n):R6 n=(n.natAbs:Int):=by
 unfold R6
 obtain⟨h1,h2⟩:=h
 rw[ga3 (by omega) (by omega)]
 split<;>omega
theorem ic7 {n:Int} (h:Sm 1000000000000000000 n):ka3 n=some (i (n.natAbs:Int),[]):=by
 unfold ka3
 obtain⟨h1,h2⟩:=h
 rw[ga3 (by omega) (by omega)]
 by_cases h:n < 0
 ·rw[bt (decide_eq_true h)];congr 3;omega
 ·rw[bf (decide_eq_false h)];congr 3;omega
theorem Ha1 {n:Int} (h:Sm 1000000000000000000 n):M9 n=(n.natAbs:Int):=by unfold M9;rw[ic7 h];rfl
theorem Ha2 {n:Int} (h:Sm 1000000000000000000 n):E3 n=true:=by unfold E3;rw[ic7 h];rfl
def g3 (v:V3):Int:=(Nat.gcd (Nat.gcd v.x.natAbs v.y.natAbs) v.z.natAbs:Nat)
theorem Ae9 (g n:Nat):eu (g:Int) (n:Int)=(Nat.gcd g n:Nat):=by rw[Ae6 (by omega) (by omega)];rfl
theorem jd0 (P:V6) (g n:Nat) (hn:n≤1000000000000000000):lp (R7 P) ⟨(g:Int),(n:Int)⟩=(1,⟨(Nat.gcd g n:Nat),0⟩):=by
 have:=yc1 (step:=R7 P) (mk:=fun g n=>(⟨g,n⟩:I8)) (fun g n h=>by
  have h0:n≠0:=by omega
  simp[R7,Z5,xb1,h,h0]) (fun g=>by simp[R7,Z5,xb1]) (g:Int) (n:Int) (by omega) (by omega) (by omega)
 rw[this,Ae9]
theorem Wc4 (l:List Int) (hl:l.length≤1000000000) (hb:∀ x∈l,Sm 1000000000000000000 x):na4 l=some (i (l.foldl (fun g x=>Nat.gcd g x.natAbs) 0:Nat),[]):=by
 have h := ge7 (step := ca7 ⟨(l.length : Int)⟩) (mk := fun j (a : Nat) => (⟨(a : Int), l, (j : Int)⟩ : D0)) (f := fun g x => Nat.gcd g x.natAbs) (fin := 2) tI l (fun _ _ => True) hl (fun j a hj _ => ⟨by
   have hm:=hb _ (Uc5 tI hj)
   have hne:(gL tI l j==(-9223372036854775808:Int))=false:=by
    have:=hm.1
    rw[beq_eq_false_iff_ne];omega
   have hs:(gL tI l j).natAbs≤1000000000000000000:=by obtain⟨h1,h2⟩:=hm;omega
   simp only[ca7,Z6,Int.toNat_natCast,l5,j7,mb3 hm,jd0 _ _ _ hs,o5 hj (by omega)]
   rw[bt (Jb3 hj),bt (f8 hj),bf hne]
   rfl,trivial⟩) (fun a _=>by simp only[ca7,Z6];rw[bf (mb0 (Nat.lt_irrefl _))]) 0 (Nat.zero_le _) 0 trivial
 have h:=h.1
 rw[List.drop_zero] at h
 unfold na4
 simp only[l5,j7]
 rw[show (⟨0,l,0⟩:D0)=⟨((0:Nat):Int),l,((0:Nat):Int)⟩ from rfl,h]
 rfl
def okp (p:Pln):Bool:=[p.n.x,p.n.y,p.n.z].all (smb 4608)&&(g3 p.n==1&&[p.b].all (smb 2097152))
theorem hf5 (p:Pln):Bd p↔[p.n.x,p.n.y,p.n.z].all (smb 4608)=true∧[p.b].all (smb 2097152)=true:=by
 simp only[List.all_cons,List.all_nil,Bool.and_true,Bool.and_eq_true,ab3,Sm]
 exact⟨fun h=>⟨⟨⟨h.x1,h.x2⟩,⟨h.y1,h.y2⟩,h.z1,h.z2⟩,h.b1,h.b2⟩,fun⟨⟨⟨a,b⟩,⟨c,d⟩,e,f⟩,g,h⟩=>⟨a,b,c,d,e,f,g,h⟩⟩
theorem qb4 {p:Pln} (h:okp p=true):Bd p:=by
 unfold okp at h
 rw[Bool.and_eq_true,Bool.and_eq_true] at h
 exact (hf5 p).2 ⟨h.1,h.2.2⟩
theorem sm3 {v:V3} (h:[v.x,v.y,v.z].all (smb 4608)=true):Sm 4608 v.x∧Sm 4608 v.y∧Sm 4608 v.z:=by
 simpa only[List.all_cons,List.all_nil,Bool.and_true,Bool.and_eq_true,ab3] using h
theorem Od6 (p:Pln):Aa1 p=some (b (okp p),[]):=by
 unfold Aa1 okp
 have l3:[p.n.x,p.n.y,p.n.z].length≤1000000000:=by simp
 have l1:[p.b].length≤1000000000:=by simp
 simp only[ub4 4608 _ (by omega) l3,ub5 4608 _ (by omega) l3,ub4 2097152 _ (by omega) l1,ub5 2097152 _ (by omega) l1]
 cases hw:[p.n.x,p.n.y,p.n.z].all (smb 4608) with
 | false=>rfl
 | true =>
  obtain⟨h1,h2,h3⟩:=sm3 hw
  have hd:=Wc4 [p.n.x,p.n.y,p.n.z] l3 (by
   intro x hx
   simp only[List.mem_cons,List.not_mem_nil,or_false] at hx
   rcases hx with rfl | rfl | rfl
   ·exact h1.mono (by omega)
   ·exact h2.mono (by omega)
   ·exact h3.mono (by omega))
  have hg:([p.n.x,p.n.y,p.n.z].foldl (fun g x=>Nat.gcd g x.natAbs) 0:Nat)=Nat.gcd (Nat.gcd p.n.x.natAbs p.n.y.natAbs) p.n.z.natAbs:=by
   simp only[List.foldl_cons,List.foldl_nil,Nat.gcd_zero_left]
  have hp:Y2 [p.n.x,p.n.y,p.n.z]=g3 p.n:=by unfold Y2;rw[hd,hg];rfl
  have hgd:Y3 [p.n.x,p.n.y,p.n.z]=true:=by unfold Y3;rw[hd];rfl
  rw[hp,hgd]
  cases g3 p.n==1<;>rfl
theorem he3 (p:Pln):Aa2 p=okp p:=by unfold Aa2;rw[Od6 p];rfl
theorem he4 (p:Pln):Aa3 p=true:=by unfold Aa3;rw[Od6 p];rfl
theorem tc3 (P:fa1) (g n:Nat) (hn:n≤1000000000000000000):lp (aa9 P) ⟨(g:Int),(n:Int)⟩=(1,⟨(Nat.gcd g n:Nat),0⟩):=by
 have:=yc1 (step:=aa9 P) (mk:=fun g n=>(⟨g,n⟩:N0)) (fun g n h=>by
  have h0:n≠0:=by omega
  simp[aa9,ta1,xb1,h,h0]) (fun g=>by simp[aa9,ta1,xb1]) (g:Int) (n:Int) (by omega) (by omega) (by omega)
 rw[this,Ae9]
theorem zd6 {v : V3} (h1 : Sm 1000000000000000000 v.x) (h2 : Sm 1000000000000000000 v.y) (h3 : Sm 1000000000000000000 v.z) :
  eb2 v=if g3 v=0 then some (.tup [.agg (tV.row ⟨0,0,0⟩),i 0],[]) else some (.tup [.agg (tV.row ⟨W (Int.tdiv v.x (g3 v)),W (Int.tdiv v.y (g3 v)),W (Int.tdiv v.z (g3 v))⟩),i (g3 v)],[]):=by
 have ne:∀ {x:Int},Sm 1000000000000000000 x→(x==(-9223372036854775808:Int))=false:=fun {x} h=>by
  have:=h.1
  rw[beq_eq_false_iff_ne];omega
 have bd:∀ {x:Int},Sm 1000000000000000000 x→x.natAbs≤1000000000000000000:=fun {x} h=>by obtain⟨h1,h2⟩:=h;omega
 have l1:=tc3 ⟨0,v.x,v.y,v.z,v.x,v.y,v.z⟩ 0 v.x.natAbs (bd h1)
 rw[Nat.gcd_zero_left] at l1
 have l2:=tc3 ⟨1,v.x,v.y,v.z,v.x,v.y,v.z⟩ v.x.natAbs v.y.natAbs (bd h2)
 have l3:=tc3 ⟨2,v.x,v.y,v.z,v.x,v.y,v.z⟩ (Nat.gcd v.x.natAbs v.y.natAbs) v.z.natAbs (bd h3)
 unfold eb2
 simp only[Ha1 h1,Ha1 h2,Ha1 h3,Ha2 h1,Ha2 h2,Ha2 h3]
 rw[show (⟨0,(v.x.natAbs:Int)⟩:N0)=⟨((0:Nat):Int),(v.x.natAbs:Int)⟩ from rfl]
 simp only[l1,l2,l3,ne h1,ne h2,ne h3]
 rw[show ((Nat.gcd (Nat.gcd v.x.natAbs v.y.natAbs) v.z.natAbs:Nat):Int)=g3 v from rfl]
 by_cases h:g3 v=0
 ·rw[if_pos h,show (g3 v==0)=true from by rw[h];rfl];rfl
 ·rw[if_neg h,show (g3 v==0)=false from by rw[beq_eq_false_iff_ne];exact h];rfl
theorem Wc5 {v:V3} (h1:Sm 1000000000000000000 v.x) (h2:Sm 1000000000000000000 v.y) (h3:Sm 1000000000000000000 v.z):(Ea9 v).2=g3 v:=by
 unfold Ea9
 rw[zd6 h1 h2 h3]
 split
 ·rename_i h;rw[h];rfl
 ·rfl
theorem hf6 {v:V3} (h1:Sm 1000000000000000000 v.x) (h2:Sm 1000000000000000000 v.y) (h3:Sm 1000000000000000000 v.z) (h:g3 v≠0):Ea9 v=(⟨W (Int.tdiv v.x (g3 v)),W (Int.tdiv v.y (g3 v)),W (Int.tdiv v.z (g3 v))⟩,g3 v):=by
 unfold Ea9
 rw[zd6 h1 h2 h3,if_neg h]
 rfl
theorem Be0 {v:V3} (h1:Sm 1000000000000000000 v.x) (h2:Sm 1000000000000000000 v.y) (h3:Sm 1000000000000000000 v.z):eb3 v=true:=by
 unfold eb3
 rw[zd6 h1 h2 h3]
 split<;>rfl
theorem pd5 (p:Pln):Sa7 p=some (b (okp p),[]):=by
 unfold Sa7 okp
 cases hw:[p.n.x,p.n.y,p.n.z].all (smb 4608) with
 | false =>
  simp only[List.all_cons,List.all_nil,Bool.and_true,smb] at hw
  cases h1:decide (p.n.x < -4608)<;>cases h2:decide (p.n.x > 4608)<;>cases h3:decide (p.n.y < -4608)<;>cases h4:decide (p.n.y > 4608)<;>cases h5:decide (p.n.z < -4608)<;>cases h6:decide (p.n.z > 4608)<;>simp only[h1,h2,h3,h4,h5,h6] at hw ⊢<;>first | rfl | cases hw
 | true =>
  obtain⟨h1,h2,h3⟩:=sm3 hw
  rw[bf (decide_eq_false (by have:=h1.1;omega)),bf (decide_eq_false (by have:=h1.2;omega)),bf (decide_eq_false (by have:=h2.1;omega)),bf (decide_eq_false (by have:=h2.2;omega)),bf (decide_eq_false (by have:=h3.1;omega)),bf (decide_eq_false (by have:=h3.2;omega))]
  have k1:=h1.mono (m:=1000000000000000000) (by omega)
  have k2:=h2.mono (m:=1000000000000000000) (by omega)
  have k3:=h3.mono (m:=1000000000000000000) (by omega)
  rw[bt (Be0 k1 k2 k3),Wc5 k1 k2 k3]
  cases g3 p.n==1 with
  | false=>rfl
  | true =>
   simp only[List.all_cons,List.all_nil,Bool.and_true,smb,Bool.true_and]
   rw[o0]
   by_cases ha:p.b < -2097152
   ·rw[bf (decide_eq_false (by omega)),show decide (p.b < -2097152)=true from decide_eq_true ha];rfl
   ·rw[bt (decide_eq_true (by omega)),show decide (p.b < -2097152)=false from decide_eq_false ha]
    congr 3
    by_cases hc:p.b≤2097152
    ·rw[decide_eq_true hc,decide_eq_false (by omega)];rfl
    ·rw[decide_eq_false hc,decide_eq_true (by omega)];rfl
theorem Od7 (p:Pln):ta2 p=okp p:=by unfold ta2;rw[pd5 p];rfl
theorem Wc6 (p:Pln):ta3 p=true:=by unfold ta3;rw[pd5 p];rfl
def chk (l:List Pln):Int:=if (l.length:Int) > 48 then 2 else if l.all okp then 0 else 12
theorem pd6 (l:List Pln) (hl:l.length≤1000000000):Sa8 l=some (i (chk l),[]):=by
 have h:=Wa4 (step:=ta4 ⟨l⟩) (mk:=fun j=>(⟨(j:Int)⟩:T4)) (c:=fun p=>!okp p) (u:=1) (fin:=2) tP l hl
  (fun j hj=>by
   simp only[ta4,na3,Int.toNat_natCast,Od7,Wc6,o5 hj (by omega)]
   rw[bt (Jb3 hj),bt (f8 hj),o0])
  (by simp only[ta4,na3];rw[bf (mb0 (Nat.lt_irrefl _))]) 0 (Nat.zero_le _)
 rw[List.drop_zero] at h
 have e:(l.any fun x=>!okp x)=!l.all okp:=by rw[List.not_all_eq_any_not]
 unfold Sa8 chk
 simp only[l5,j7]
 rw[show (⟨0⟩:T4)=⟨((0:Nat):Int)⟩ from rfl,h,e]
 by_cases hn:(l.length:Int) > 48
 ·rw[bt (decide_eq_true hn),if_pos hn]
 ·rw[bf (decide_eq_false hn),if_neg hn]
  cases l.all okp<;>rfl
theorem Be1 (l:List Pln) (hl:l.length≤1000000000):lb3 l=chk l:=by unfold lb3;rw[pd6 l hl];rfl
theorem Be2 (l:List Pln) (hl:l.length≤1000000000):lb4 l=true:=by unfold lb4;rw[pd6 l hl];rfl
theorem Od8 {l:List Pln}:chk l=0↔l.length≤48∧∀ p∈l,okp p=true:=by
 unfold chk
 by_cases hn:(l.length:Int) > 48
 ·rw[if_pos hn]
  exact⟨fun h=>absurd h (by decide),fun h=>by omega⟩
 ·rw[if_neg hn]
  cases h:l.all okp with
  | true=>exact⟨fun _=>⟨by omega,List.all_eq_true.1 h⟩,fun _=>rfl⟩
  | false=>exact⟨fun h=>absurd h (by decide),fun h'=>by rw[List.all_eq_true.2 h'.2] at h;cases h⟩
end Go.Ev.Ce
namespace Go.Ev.Ce
open Go Go.Ev Go.Ev.L Go.Proofs
theorem btD {p:Prop} {inst:Decidable p} (h:p) {α:Type} (t e:α):sl (@decide p inst) t e=t:=bt (decide_eq_true h) t e
theorem bfD {p:Prop} {inst:Decidable p} (h:¬ p) {α:Type} (t e:α):sl (@decide p inst) t e=e:=bf (decide_eq_false h) t e
theorem k8 {j n:Nat} (h:j < n):(j:Int) < (n:Int):=Int.ofNat_lt.2 h
theorem p7 {j n:Nat} (h:¬ j < n):¬ (j:Int) < (n:Int):=fun h'=>h (Int.ofNat_lt.1 h')
theorem Wc7 {σ τ α : Type} {step : σ → Stp σ} {mk : Nat → τ → σ} {f : α → List α → τ → τ} {g : List α → τ → τ} {fin : τ → Nat} (l : List α) (I : Nat → τ → Prop) (hl : l.length ≤ 1000000000)
  (g0:∀ a,g [] a=a) (g1:∀ x r a,g (x::r) a=g r (f x r a))
  (h:∀ j a (hj:j < l.length),I j a→step (mk j a)=.next (mk (j+1) (f l[j] (l.drop (j+1)) a))∧I (j+1) (f l[j] (l.drop (j+1)) a))
  (hf:∀ j a,l.length≤j→I j a→step (mk j a)=.exit (fin a)) (j0:Nat) (a:τ) (hi:I j0 a) :
  lp step (mk j0 a)=(fin (g (l.drop j0) a),mk (max j0 l.length) (g (l.drop j0) a))∧I (max j0 l.length) (g (l.drop j0) a):=by
 have key:=zb7 (step:=step) (I:=fun m s=>∃ j b,m=l.length - j∧max j l.length=max j0 l.length∧s=mk j b∧I j b∧g (l.drop j) b=g (l.drop j0) a)
  (Q:=fun u s=>u=fin (g (l.drop j0) a)∧s=mk (max j0 l.length) (g (l.drop j0) a)∧I (max j0 l.length) (g (l.drop j0) a)) (fun m s ⟨j,b,hm,hj,hs,hb,he⟩=>by
   subst hs
   by_cases hlt:j < l.length
   ·obtain⟨h1,h2⟩:=h j b hlt hb
    refine .inr ⟨_,l.length - (j+1),by omega,h1,j+1,_,rfl,by omega,rfl,h2,?_⟩
    rw[← he,List.drop_eq_getElem_cons hlt,g1]
   ·have hd:l.drop j=[]:=List.drop_eq_nil_of_le (by omega)
    rw[hd,g0] at he
    have hj':j=max j0 l.length:=by omega
    subst he
    rw[← hj']
    exact .inl ⟨_,hf j _ (by omega) hb,rfl,rfl,hb⟩) (l.length - j0) (mk j0 a) (by omega) ⟨j0,a,rfl,rfl,rfl,hi,rfl⟩
 exact⟨Prod.ext key.1 key.2.1,key.2.2⟩
noncomputable def Na7 (r:List Pln) (p q:Pln) (out:List Pt) (s:Pln):List Pt :=
 if (mpt p q s).2&&(!Wc2 out (mpt p q s).1&&inn r (mpt p q s).1) then out++[(mpt p q s).1] else out
noncomputable def Kb6 (r:List Pln) (p q:Pln) (l:List Pln) (out:List Pt):List Pt:=l.foldl (Na7 r p q) out
noncomputable def qb5 (r:List Pln) (p:Pln):List Pln→List Pt→List Pt
 | [],out=>out
 | q::l,out=>qb5 r p l (Kb6 r p q l out)
noncomputable def tc4 (r:List Pln):List Pln→List Pt→List Pt
 | [],out=>out
 | p::l,out=>tc4 r l (qb5 r p l out)
noncomputable def cor (r:List Pln):List Pt:=tc4 r r []
def Bds (r:List Pln):Prop:=∀ p∈r,Bd p
theorem pd7 (r:List Pln) (p q:Pln) (out:List Pt) (s:Pln):(Na7 r p q out s).length≤out.length+1:=by
 unfold Na7
 split
 ·simp
 ·omega
theorem Wc8 (r:List Pln) (p q:Pln):∀ (l:List Pln) (out:List Pt),(Kb6 r p q l out).length≤out.length+l.length
 | [],out=>Nat.le_refl _
 | s::l,out=>by
  have h1:=pd7 r p q out s
  have h2:=Wc8 r p q l (Na7 r p q out s)
  show (Kb6 r p q l (Na7 r p q out s)).length≤_
  simp only[List.length_cons]
  omega
theorem Od9 (r:List Pln) (p:Pln):∀ (l:List Pln) (out:List Pt),l.length≤200→(qb5 r p l out).length≤out.length+200*l.length
 | [],out,_=>by simp[qb5]
 | q::l,out,h=>by
  simp only[List.length_cons] at h ⊢
  have h1:=Wc8 r p q l out
  have h2:=Od9 r p l (Kb6 r p q l out) (by omega)
  show (qb5 r p l (Kb6 r p q l out)).length≤_
  omega
theorem Pd0 (r:List Pln):∀ (l:List Pln) (out:List Pt),l.length≤200→(tc4 r l out).length≤out.length+40000*l.length
 | [],out,_=>by simp[tc4]
 | p::l,out,h=>by
  simp only[List.length_cons] at h ⊢
  have h1:=Od9 r p l out (by omega)
  have h2:=Pd0 r l (qb5 r p l out) (by omega)
  show (tc4 r l (qb5 r p l out)).length≤_
  omega
theorem Qe3 (r:List Pln) (_:Bds r) (hr:r.length≤200):(cor r).length≤8000000:=by
 have:=Pd0 r r [] hr
 rw[List.length_nil] at this
 show (tc4 r r []).length≤_
 omega
noncomputable def ph (out:List Pt):Nat:=match out with
 | []=>0
 | _::_=>1
theorem Be3 (x:Pt):Wc2 [] x=false:=rfl
theorem zd7 {α:Type} (t:Ty α) (l:List α) (n k:Nat):gL t (l.drop n) k=gL t l (n+k):=by simp[gL,List.getD_eq_getElem?_getD,List.getElem?_drop]
theorem Be4 {n:Nat} {l:List Pt} (hn:n=l.length) (h:l.length≤1000000000):(Nat.beq n (len (bL tX l))&&Nat.ble ((n+1)*32) room)=true:=by
 subst hn
 rw[Y1,Nat.beq_refl,Bool.true_and]
 exact xa8 (by omega)
theorem Qe4 (l:List Pt) (x:Pt):app (bL tX l) [[i x.px,i x.py,i x.pz,i x.pw]]=bL tX (l++[x]):=sa7 tX l [x]
@[reducible] noncomputable def Qb0 (k:Nat) (out:List Pt):o6:=⟨ph out,(k:Int),out.length,bL tX out⟩
theorem hf7 (l:List Pt):slR tX (bL tX l) 0 l.length=l:=cb9 tX l
theorem Qe5 (r : List Pln) (hb : Bds r) (hr : r.length ≤ 200) (a c k : Nat) (ha : a < r.length) (hc : c < r.length) (out : List Pt) (ho : out.length ≤ 1000000000) (hk : k < r.length) :
  L3 ⟨r,a,c⟩ (Qb0 k out)=.next (Qb0 (k+1) (Na7 r r[a] r[c] out r[k])):=by
 have hin:∀ x,sb0 r x=inn r x:=fun x=>Gf3 r x (by omega)
 have hig:∀ x,sb1 r x=true:=fun x=>Gf4 r x (by omega)
 have hth:∀ x,Fa9 out x=Wc2 out x:=fun x=>Qe1 out x ho
 have htg:∀ x,Ga0 out x=true:=fun x=>Qe2 out x ho
 have hme:=Pe8 (hb _ (List.getElem_mem ha)) (hb _ (List.getElem_mem hc)) (hb _ (List.getElem_mem hk))
 have hmg:=Pe9 (hb _ (List.getElem_mem ha)) (hb _ (List.getElem_mem hc)) (hb _ (List.getElem_mem hk))
 unfold L3
 cases out with
 | nil =>
  show M3 Stp.next Stp.exit Stp.fail _ (Qb0 k [])=_
  simp only[M3,Qb0,Int.toNat_natCast,l5,aa1,Ua0 tP ha,Ua0 tP hc,Ua0 tP hk,hme,hmg,hin,hig,hth,htg,o5 hk (by omega)]
  rw[btD (k8 hk),bt (f8 ha),bt (f8 hc),bt (f8 hk),o0]
  unfold Na7
  rw[Be3]
  cases (mpt r[a] r[c] r[k]).2 with
  | false=>rfl
  | true =>
   cases inn r (mpt r[a] r[c] r[k]).1 with
   | false=>rfl
   | true=>rfl
 | cons o os =>
  show M4 Stp.next Stp.exit Stp.fail _ (Qb0 k (o::os))=_
  simp only[M4,Qb0,Int.toNat_natCast,l5,aa1,Ua0 tP ha,Ua0 tP hc,Ua0 tP hk,hme,hmg,hin,hig,hf7,nb5,hth,htg,o5 hk (by omega)]
  rw[btD (k8 hk),bt (f8 ha),bt (f8 hc),bt (f8 hk),o0,Be4 rfl ho,Qe4]
  unfold Na7
  cases (mpt r[a] r[c] r[k]).2 with
  | false=>rfl
  | true =>
   cases inn r (mpt r[a] r[c] r[k]).1 with
   | false=>cases Wc2 (o::os) (mpt r[a] r[c] r[k]).1<;>rfl
   | true =>
    cases Wc2 (o::os) (mpt r[a] r[c] r[k]).1 with
    | true=>rfl
    | false =>
     show Stp.next (⟨1,((k+1:Nat):Int),(o::os).length+1,bL tX (o::os++[(mpt r[a] r[c] r[k]).1])⟩:o6)=_
     simp[ph]
theorem hf8 (r:List Pln) (a c k:Nat) (out:List Pt) (hk:r.length≤k):L3 ⟨r,a,c⟩ (Qb0 k out)=.exit (ph out+1):=by
 unfold L3
 have this:¬ ((k:Int) < (r.length:Int)):=by omega
 cases out with
 | nil =>
  show M3 Stp.next Stp.exit Stp.fail _ (Qb0 k [])=_
  simp only[M3,Qb0]
  rw[bfD this]
  rfl
 | cons o os =>
  show M4 Stp.next Stp.exit Stp.fail _ (Qb0 k (o::os))=_
  simp only[M4,Qb0]
  rw[bfD this]
  rfl
theorem Qe6 (r : List Pln) (hb : Bds r) (hr : r.length ≤ 200) (a c : Nat) (ha : a < r.length) (hc : c < r.length) (k : Nat) (out : List Pt) (ho : out.length ≤ 100000000) :
  ∃ m,lp (L3 ⟨r,a,c⟩) (Qb0 k out)=(ph (Kb6 r r[a] r[c] (r.drop k) out)+1,Qb0 m (Kb6 r r[a] r[c] (r.drop k) out)) :=
 ⟨_,(Wc7 (mk:=Qb0) (f:=fun s _ out=>Na7 r r[a] r[c] out s) (g:=fun l out=>Kb6 r r[a] r[c] l out) (fin:=fun out=>ph out+1) r (fun j o=>o.length+k≤out.length+j) (by omega)
  (fun _=>rfl) (fun _ _ _=>rfl) (fun j o hj hi=>⟨Qe5 r hb hr a c j ha hc o (by omega) hj,by have:=pd7 r r[a] r[c] o r[j];show (Na7 r r[a] r[c] o r[j]).length+k≤out.length+(j+1);omega⟩)
  (fun j o hj _=>hf8 r a c j o hj) k out (by omega)).1⟩
@[reducible] noncomputable def Qb1 (r:List Pln) (j:Nat) (out:List Pt):q8:=⟨ph out,r,(j:Int),out.length,bL tX out⟩
theorem Qe7 (r : List Pln) (hb : Bds r) (hr : r.length ≤ 200) (a j : Nat) (ha : a < r.length) (out : List Pt) (ho : out.length ≤ 100000000) (hj : j < r.length) :
  G6 ⟨a⟩ (Qb1 r j out)=.next (Qb1 r (j+1) (Kb6 r r[a] r[j] (r.drop (j+1)) out)):=by
 obtain⟨m,hm⟩:=Qe6 r hb hr a j ha hj (j+1) out ho
 unfold G6
 generalize Kb6 r r[a] r[j] (r.drop (j+1)) out=res at *
 cases out with
 | nil =>
  show M5 Stp.next Stp.exit Stp.fail _ (Qb1 r j [])=_
  simp only[M5,Qb1,l5,j7,o5 hj (by omega)]
  rw[show (⟨0,((j+1:Nat):Int),0,[]⟩:o6)=Qb0 (j+1) [] from rfl,hm,btD (k8 hj)]
  cases res<;>rfl
 | cons o os =>
  show M6 Stp.next Stp.exit Stp.fail _ (Qb1 r j (o::os))=_
  simp only[M6,Qb1,l5,j7,o5 hj (by omega)]
  rw[show (⟨1,((j+1:Nat):Int),(o::os).length,bL tX (o::os)⟩:o6)=Qb0 (j+1) (o::os) from rfl,hm,btD (k8 hj)]
  cases res<;>rfl
theorem hf9 (r:List Pln) (a j:Nat) (out:List Pt) (hj:r.length≤j):G6 ⟨a⟩ (Qb1 r j out)=.exit (ph out+1):=by
 unfold G6
 have this:¬ ((j:Int) < (r.length:Int)):=by omega
 cases out with
 | nil =>
  show M5 Stp.next Stp.exit Stp.fail _ (Qb1 r j [])=_
  simp only[M5,Qb1]
  rw[bfD this]
  rfl
 | cons o os =>
  show M6 Stp.next Stp.exit Stp.fail _ (Qb1 r j (o::os))=_
  simp only[M6,Qb1]
  rw[bfD this]
  rfl
theorem Qe8 (r : List Pln) (hb : Bds r) (hr : r.length ≤ 200) (a : Nat) (ha : a < r.length) (j : Nat) (out : List Pt) (ho : out.length ≤ 40000 * a) :
  ∃ m,lp (G6 ⟨a⟩) (Qb1 r j out)=(ph (qb5 r r[a] (r.drop j) out)+1,Qb1 r m (qb5 r r[a] (r.drop j) out))∧(qb5 r r[a] (r.drop j) out).length≤40000*(a+1):=by
 have hk:=Wc7 (step:=G6 ⟨a⟩) (mk:=Qb1 r) (f:=fun q l out=>Kb6 r r[a] q l out) (g:=fun l out=>qb5 r r[a] l out) (fin:=fun out=>ph out+1) r (fun k o=>o.length≤40000*a+200*(k - j)∧j≤k∧k≤j+r.length) (by omega)
  (fun _=>rfl) (fun _ _ _=>rfl) (fun k o hj hi=>⟨Qe7 r hb hr a k ha o (by omega) hj,by
   have:=Wc8 r r[a] r[k] (r.drop (k+1)) o
   rw[List.length_drop] at this
   show (Kb6 r r[a] r[k] (r.drop (k+1)) o).length≤40000*a+200*(k+1 - j)∧j≤k+1∧k+1≤j+r.length
   omega⟩)
  (fun k o hj _=>hf9 r a k o hj) j out (by omega)
 exact⟨_,hk.1,by have:=hk.2;omega⟩
@[reducible] noncomputable def Yb8 (r:List Pln) (j:Nat) (out:List Pt):w6:=⟨ph out,r,(j:Int),out.length,bL tX out⟩
theorem he5 (r : List Pln) (hb : Bds r) (hr : r.length ≤ 200) (a : Nat) (ha : a < r.length) (out : List Pt) (ho : out.length ≤ 40000 * a) :
  L4 ⟨⟩ (Yb8 r a out)=.next (Yb8 r (a+1) (qb5 r r[a] (r.drop (a+1)) out))∧(qb5 r r[a] (r.drop (a+1)) out).length≤40000*(a+1):=by
 obtain⟨m,hm,hl⟩:=Qe8 r hb hr a ha (a+1) out ho
 refine⟨?_,hl⟩
 clear hl
 unfold L4
 generalize qb5 r r[a] (r.drop (a+1)) out=res at *
 cases out with
 | nil =>
  show M7 Stp.next Stp.exit Stp.fail _ (Yb8 r a [])=_
  simp only[M7,Yb8,l5,j7,o5 ha (by omega)]
  rw[show (⟨0,r,((a+1:Nat):Int),0,[]⟩:q8)=Qb1 r (a+1) [] from rfl,hm,btD (k8 ha)]
  cases res<;>rfl
 | cons o os =>
  show M8 Stp.next Stp.exit Stp.fail _ (Yb8 r a (o::os))=_
  simp only[M8,Yb8,l5,j7,o5 ha (by omega)]
  rw[show (⟨1,r,((a+1:Nat):Int),(o::os).length,bL tX (o::os)⟩:q8)=Qb1 r (a+1) (o::os) from rfl,hm,btD (k8 ha)]
  cases res<;>rfl
theorem if0 (r:List Pln) (j:Nat) (out:List Pt) (hj:r.length≤j):L4 ⟨⟩ (Yb8 r j out)=.exit (ph out+1):=by
 unfold L4
 have this:¬ ((j:Int) < (r.length:Int)):=by omega
 cases out with
 | nil =>
  show M7 Stp.next Stp.exit Stp.fail _ (Yb8 r j [])=_
  simp only[M7,Yb8]
  rw[bfD this]
  rfl
 | cons o os =>
  show M8 Stp.next Stp.exit Stp.fail _ (Yb8 r j (o::os))=_
  simp only[M8,Yb8]
  rw[bfD this]
  rfl
theorem Qe9 (r:List Pln) (hb:Bds r) (hr:r.length≤200):∃ m,lp (L4 ⟨⟩) (Yb8 r 0 [])=(ph (cor r)+1,Yb8 r m (cor r))∧(cor r).length≤8000000:=by
 have hk:=Wc7 (step:=L4 ⟨⟩) (mk:=Yb8 r) (f:=fun q l out=>qb5 r q l out) (g:=fun l out=>tc4 r l out) (fin:=fun out=>ph out+1) r (fun k o=>o.length≤40000*k∧k≤r.length) (by omega)
  (fun _=>rfl) (fun _ _ _=>rfl) (fun k o hj hi=>⟨(he5 r hb hr k hj o hi.1).1,(he5 r hb hr k hj o hi.1).2,hj⟩)
  (fun k o hj _=>if0 r k o hj) 0 [] (by simp)
 exact⟨_,hk.1,by have:=hk.2;rw[show max 0 r.length=r.length by omega] at this;have h1:=this.1;show (tc4 r r []).length≤_;rw[List.drop_zero] at h1;omega⟩
noncomputable def slX (l:List Pt):b7×List b8:=match l with
 | []=>(.v (.slice none 0 0),[])
 | _::_=>(.sl 0 0 l.length 0,[⟨136,4,bL tX l,true,false,0⟩])
theorem Be5 (l:List Pt):(one (r1L tX)).rd (slX l)=some l:=by
 cases l with
 | nil=>rfl
 | cons x l =>
  show Bool.rec (motive:=fun _=>Option (List Pt)) none (some (slR tX (bL tX (x::l)) 0 (x::l).length)) (Bool.and true (okS tX (bL tX (x::l)) 0 (x::l).length))=_
  rw[cb9,nb5]
  rfl
theorem yc4 (r:List Pln) (hb:Bds r) (hr:r.length≤200):za8 r=some (slX (cor r)):=by
 obtain⟨m,hm,_⟩:=Qe9 r hb hr
 unfold za8
 simp only[l5,j7]
 rw[show (⟨0,r,0,0,[]⟩:w6)=Yb8 r 0 [] from rfl,hm]
 cases cor r<;>rfl
theorem ea7 {ρ:Type} (R:RR ρ) {x:b7×List b8} {r:ρ} (h:R.rd x=some r):C9 R (some x)=r:=by
 show Option.rec (motive:=fun _=>ρ) R.d (fun x=>x) (R.rd x)=r
 rw[h]
theorem pa0 {ρ:Type} (R:RR ρ) {x:b7×List b8} {r:ρ} (h:R.rd x=some r):okO R (some x)=true:=by
 show Option.rec (motive:=fun _=>Bool) false (fun _=>true) (R.rd x)=true
 rw[h]
theorem ae3 (r:List Pln) (hb:Bds r) (hr:r.length≤200):Qa6 r=cor r:=by unfold Qa6;rw[yc4 r hb hr];exact ea7 _ (Be5 _)
theorem ae4 (r:List Pln) (hb:Bds r) (hr:r.length≤200):Qa7 r=true:=by unfold Qa7;rw[yc4 r hb hr];exact pa0 _ (Be5 _)
@[reducible] noncomputable def flK:List (Nat×CK):=[(0,(.int .i64)),(1,(.int .i64)),(2,(.int .i64)),(3,(.int .i64))]
structure C2 (P:sb6) (r:List Pln) (p q:Pln) (lo:Nat):Prop where
 ns:P.Hf5=(r.drop lo).length
 gs:P.Hf6=fun k=>tP.row (gL tP r (lo+k))
 is:P.Hf7=((r.drop lo).length:Int)
 p1:(⟨⟨P.u7,P.u9,P.v7⟩,P.Ma9⟩:Pln)=p
 q1:(⟨⟨P.Ma5,P.Ma6,P.Ma7⟩,P.Xe7⟩:Pln)=q
 r1:P.se7=r
theorem if1 (s:Pln):((Nat.ble 4 (len (tP.row s)))&&(L9 [(CK.int .i64),(CK.int .i64),(CK.int .i64),(CK.int .i64)] (tP.row s)))=true:=rfl
structure C1 (P:sb7) (r:List Pln) (p:Pln) (a:Nat):Prop where
 i3:P.is3=(a:Int)
 ns:P.wf2=(r.drop (a+1)).length
 gs:P.wf3=fun k=>tP.row (gL tP r (a+1+k))
 is:P.mf5=((r.drop (a+1)).length:Int)
 p1:(⟨⟨P.u7,P.u9,P.v7⟩,P.Ma9⟩:Pln)=p
end Go.Ev.Ce
namespace Go.Ev.Ce
open Go Go.Ev Go.Ev.L Go.Proofs
noncomputable def slP (l:List Pln):b7×List b8:=(.sl 0 0 l.length 0,[⟨73,4,bL tP l,true,false,0⟩])
theorem Wc9 (l:List Pln):(one (r1L tP)).rd (slP l)=some l:=by
 show Bool.rec (motive:=fun _=>Option (List Pln)) none (some (slR tP (bL tP l) 0 l.length)) (Bool.and true (okS tP (bL tP l) 0 l.length))=_
 rw[cb9,nb5]
 rfl
theorem he6 {α:Type} (t:Ty α) (l:List α):(one (r1L t)).rd (eL t l,[])=some l:=by
 show Bool.rec (motive:=fun _=>Option (List α)) none (some (rt t l)) (Bool.and (Nat.beq t.es t.es) (okE t l))=_
 rw[l5,aa1,Nat.beq_refl]
 rfl
noncomputable def ws:List Pln:=[⟨⟨1,0,0⟩,24⟩,⟨⟨-1,0,0⟩,24⟩,⟨⟨0,1,0⟩,24⟩,⟨⟨0,-1,0⟩,24⟩,⟨⟨0,0,1⟩,24⟩,⟨⟨0,0,-1⟩,24⟩]
theorem uf0:Bds ws:=by
 intro p hp
 have:okp p=true:=by
  have h:ws.all okp=true:=by decide
  exact List.all_eq_true.1 h p hp
 exact qb4 this
noncomputable def Be6 (lo hi:V3):List Pln:=[⟨⟨1,0,0⟩,hi.x⟩,⟨⟨-1,0,0⟩,W (0 - lo.x)⟩,⟨⟨0,1,0⟩,hi.y⟩,⟨⟨0,-1,0⟩,W (0 - lo.y)⟩,⟨⟨0,0,1⟩,hi.z⟩,⟨⟨0,0,-1⟩,W (0 - lo.z)⟩]
theorem Be7 (lo hi:V3):Nb9 lo hi=some (slP (Be6 lo hi)):=rfl
theorem af8 (lo hi:V3):sb2 lo hi=Be6 lo hi:=by unfold sb2;rw[Be7];exact ea7 _ (Wc9 _)
theorem af9 (lo hi:V3):bb2 lo hi=true:=by unfold bb2;rw[Be7];exact pa0 _ (Wc9 _)
theorem if2:Be6 ⟨-24,-24,-24⟩ ⟨24,24,24⟩=ws:=by
 simp only[Be6,ws]
 rw[show W (0 - -24)=24 from by rw[Ae3];rfl]
theorem Re0 {l:List Pln}:Nat.beq (len (bL tP l)) 0=l.isEmpty:=by rw[Y1];cases l<;>rfl
theorem Be8 (c:List Pln) (hc:c.length≤1000000000):sb3 c=some (slP (c++ws)):=by
 unfold sb3
 simp only[rb5,af8,af9,if2,Re0]
 have h6:(0+len (bL tP c))=c.length:=by rw[Y1];omega
 have hw:len (bL tP ws)=6:=rfl
 rw[h6,hw]
 have e1:Nat.ble (c.length*32) room=true:=xa8 (by omega)
 have e2:Nat.ble ((c.length+6)*32) room=true:=xa8 (by omega)
 have e3:app (app [] (bL tP c)) (bL tP ws)=bL tP (c++ws):=sa7 tP c ws
 have e4:Nat.beq c.length (len (app [] (bL tP c)))=true:=by
  rw[show app [] (bL tP c)=bL tP c from rfl,Y1,Nat.beq_refl]
 rw[e1,e2,e3,e4]
 cases c with
 | nil=>rfl
 | cons p c =>
  show some (b7.sl 0 0 ((p::c).length+6) 0,[(⟨73,4,bL tP (p::c++ws),true,false,0⟩:b8)])=_
  unfold slP
  rw[List.length_append]
  rfl
theorem uf1 (c:List Pln) (hc:c.length≤1000000000):Ob0 c=c++ws:=by unfold Ob0;rw[Be8 c hc];exact ea7 _ (Wc9 _)
theorem uf2 (c:List Pln) (hc:c.length≤1000000000):Ob1 c=true:=by unfold Ob1;rw[Be8 c hc];exact pa0 _ (Wc9 _)
noncomputable def Fc4 (t:Nat) (d:List Pln):List (List b7):=app (bL tP d) (List.replicate (t - d.length) Ff8)
noncomputable def pos (X:List Pt) (p:Pln):Bool:=X.any fun x=>decide (rm p x > 0)
noncomputable def ae5 (r:List Pln):Bool:=r.all (pos (cor r))
theorem ae6 (r:List Pln) (X:List Pt) (hr:r.length≤200) (hX:X.length≤1000000000) (a:Nat) (ha:a < r.length):∃ m,lp (pa6 ⟨r,X,(a:Int)⟩) ⟨false,0⟩=(1,⟨pos X r[a],m⟩):=by
 have h:=ge7 (step:=pa6 ⟨r,X,(a:Int)⟩) (mk:=fun j (c:Bool)=>(⟨c,(j:Int)⟩:fa2)) (f:=fun c x=>c||decide (rm r[a] x > 0)) (fin:=1) tX X (fun _ _=>True) hX
  (fun j c hj _=>⟨by
   simp only[pa6,ta5,Int.toNat_natCast,ge9,o5 hj (by omega),Ua0 tP ha,f8 ha,f8 hj]
   rw[btD (k8 hj)]
   cases c<;>rfl,trivial⟩)
  (fun c _=>by simp only[pa6,ta5];rw[bfD (p7 (Nat.lt_irrefl _))]) 0 (Nat.zero_le _) false trivial
 have h:=h.1
 rw[List.drop_zero] at h
 have e:∀ (l:List Pt) (c:Bool),l.foldl (fun c x=>c||decide (rm r[a] x > 0)) c=(c||l.any fun x=>decide (rm r[a] x > 0)):=by
  intro l
  induction l with
  | nil=>intro c;simp
  | cons x l ih=>intro c;rw[List.foldl_cons,ih,List.any_cons,Bool.or_assoc]
 rw[e,Bool.false_or] at h
 exact⟨_,h⟩
theorem he7 (r:List Pln) (hb:Bds r) (hr:r.length≤200):eb4 r=some (b (ae5 r),[]):=by
 have hX:(cor r).length≤1000000000:=Nat.le_trans (Qe3 r hb hr) (by omega)
 have h:=Wa4 (step:=Aa0 ⟨⟩) (mk:=fun j=>(⟨r,cor r,(j:Int)⟩:aa2)) (c:=fun p=>!pos (cor r) p) (u:=1) (fin:=2) tP r (by omega)
  (fun j hj=>by
   obtain⟨m,hm⟩:=ae6 r (cor r) hr hX j hj
   simp only[Aa0,ta6,l5,j7,hm,o5 hj (by omega),Ua0 tP hj]
   rw[btD (k8 hj)]
   rfl)
  (by simp only[Aa0,ta6];rw[bfD (p7 (Nat.lt_irrefl _))]) 0 (Nat.zero_le _)
 rw[List.drop_zero] at h
 have e:(r.any fun p=>!pos (cor r) p)=!r.all (pos (cor r)):=by rw[List.not_all_eq_any_not]
 unfold eb4 ae5
 simp only[l5,j7,aa1,ae3 r hb hr,ae4 r hb hr]
 rw[show (⟨r,cor r,0⟩:aa2)=⟨r,cor r,((0:Nat):Int)⟩ from rfl,h,e]
 cases r.all (pos (cor r))<;>rfl
theorem if3 (r:List Pln) (hb:Bds r) (hr:r.length≤200):yb1 r=ae5 r:=by unfold yb1;rw[he7 r hb hr];rfl
theorem if4 (r:List Pln) (hb:Bds r) (hr:r.length≤200):yb2 r=true:=by unfold yb2;rw[he7 r hb hr];rfl
theorem he8 {c:List Pln} (h:(chk c==0)=true):Bds (c++ws)∧(c++ws).length≤200:=by
 rw[beq_iff_eq,Od8] at h
 refine⟨fun p hp=>?_,by rw[List.length_append,show ws.length=6 from rfl];omega⟩
 rcases List.mem_append.1 hp with hp | hp
 ·exact qb4 (h.2 p hp)
 ·exact uf0 p hp
noncomputable def ful (c:List Pln):Bool:=(chk c==0)&&ae5 (c++ws)
theorem Be9 {c:List Pln} (hc:c.length≤1000000000):eb5 c=some (b (ful c),[]):=by
 unfold eb5 ful
 simp only[l5,aa1,Be1 c hc,Be2 c hc,uf1 c hc,uf2 c hc]
 cases h:chk c==0 with
 | false=>rfl
 | true =>
  obtain⟨h1,h2⟩:=he8 h
  rw[if3 _ h1 h2,if4 _ h1 h2]
  rfl
theorem Re1 {c:List Pln} (hc:c.length≤1000000000):Oa5 c=true:=by unfold Oa5;rw[Be9 hc];rfl
end Go.Ev.Ce
namespace Go.Ev.Ce
open Go Go.Ev Go.Ev.L Go.Proofs
theorem Pd1 {Q:Pt→Prop} (r:List Pln) (p q:Pln):∀ (l:List Pln) (out:List Pt),(∀ s∈l,(mpt p q s).2=true→inn r (mpt p q s).1=true→Q (mpt p q s).1)→(∀ x∈out,Q x)→∀ x∈Kb6 r p q l out,Q x
 | [],out,_,h=>h
 | s::l,out,hs,h=>Pd1 r p q l (Na7 r p q out s) (fun t ht=>hs t (List.mem_cons_of_mem _ ht)) fun x hx=>by
  unfold Na7 at hx
  split at hx
  ·rename_i hc
   rw[Bool.and_eq_true,Bool.and_eq_true] at hc
   rcases List.mem_append.1 hx with hx | hx
   ·exact h x hx
   ·rw[List.mem_singleton] at hx
    subst hx
    exact hs s List.mem_cons_self hc.1 hc.2.2
  ·exact h x hx
theorem Pd2 {Q:Pt→Prop} (r:List Pln) (p:Pln):∀ (l:List Pln) (out:List Pt),(∀ q∈l,∀ s∈l,(mpt p q s).2=true→inn r (mpt p q s).1=true→Q (mpt p q s).1)→(∀ x∈out,Q x)→∀ x∈qb5 r p l out,Q x
 | [],out,_,h=>h
 | q::l,out,hs,h=>Pd2 r p l _ (fun a ha t ht=>hs a (List.mem_cons_of_mem _ ha) t (List.mem_cons_of_mem _ ht)) (Pd1 r p q l out (fun t ht=>hs q List.mem_cons_self t (List.mem_cons_of_mem _ ht)) h)
theorem Pd3 {Q:Pt→Prop} (r:List Pln):∀ (l:List Pln) (out:List Pt),(∀ p∈l,∀ q∈l,∀ s∈l,(mpt p q s).2=true→inn r (mpt p q s).1=true→Q (mpt p q s).1)→(∀ x∈out,Q x)→∀ x∈tc4 r l out,Q x
 | [],out,_,h=>h
 | p::l,out,hs,h=>Pd3 r l _ (fun a ha c hc t ht=>hs a (List.mem_cons_of_mem _ ha) c (List.mem_cons_of_mem _ hc) t (List.mem_cons_of_mem _ ht)) (Pd2 r p l out (fun c hc t ht=>hs p List.mem_cons_self c (List.mem_cons_of_mem _ hc) t (List.mem_cons_of_mem _ ht)) h)
theorem he9 {Q:Pt→Prop} {r:List Pln} (hs:∀ p∈r,∀ q∈r,∀ s∈r,(mpt p q s).2=true→inn r (mpt p q s).1=true→Q (mpt p q s).1):∀ x∈cor r,Q x :=
 Pd3 r r [] hs fun x hx=>by cases hx
structure Okx (x:Pt):Prop where
 w1:0 < x.pw
 w2:x.pw≤600000000000
 c1:Sm 300000000000000 x.px
 c2:Sm 300000000000000 x.py
 c3:Sm 300000000000000 x.pz
theorem zd8 {r:List Pln} (hb:Bds r):∀ x∈cor r,Okx x:=he9 fun p hp q hq s hs h _=>by
 obtain⟨h1,h2,h3,h4,h5⟩:=ae2 (hb p hp) (hb q hq) (hb s hs) h
 exact⟨h1,h5,h2,h3,h4⟩
theorem Ce0 {x y:Int} (hy:0 < y):Int.tmod x y+y*Int.tdiv x y=x∧-y < Int.tmod x y∧Int.tmod x y < y:=by
 refine⟨Int.tmod_add_mul_tdiv x y,?_,Int.tmod_lt_of_pos x hy⟩
 have:=Int.lt_tmod_of_pos x hy
 omega
theorem Ce1 (x:Int) {y:Int} (hy:0 < y) (hy2:y≤4000000000000000000):sb4 x y=some (i (x % y),[]):=by
 have hz:(y==0)=false:=by rw[beq_eq_false_iff_ne];omega
 obtain⟨h1,h2,h3⟩:=Ce0 (x:=x) hy
 unfold sb4
 rw[bfD (by omega),bf hz,bf hz,ga3 (by omega) (by omega),Int.tmod_eq_emod_of_nonneg (by omega)]
 congr 3
 rw[Int.add_emod_right]
 conv=>rhs;rw[← h1]
 rw[Int.add_mul_emod_self_left]
theorem ie0 (x:Int) {y:Int} (hy:0 < y) (hy2:y≤4000000000000000000):pa7 x y=x % y:=by unfold pa7;rw[Ce1 x hy hy2];rfl
theorem Xc0 (x:Int) {y:Int} (hy:0 < y) (hy2:y≤4000000000000000000):ka4 x y=true:=by unfold ka4;rw[Ce1 x hy hy2];rfl
theorem Sm.neg {n x:Int} (h:Sm n x):Sm n (-x):=⟨by have:=h.2;omega,by have:=h.1;omega⟩
theorem Ce2 (x:Pln):(x.n.x==x.n.x&&(x.n.y==x.n.y&&(x.n.z==x.n.z&&(x.b==x.b&&true))))=true:=by simp
theorem ie1 (l:List Pln) (hl:l.length≤1000000000):fb4 l l=some (b true,[]):=by
 have h:=Wa4 (step:=Ba1 ⟨l,l⟩) (mk:=fun j=>(⟨(j:Int)⟩:aa3)) (c:=fun _=>false) (u:=1) (fin:=2) tP l hl
  (fun j hj=>by
   simp only[Ba1,ua8,Int.toNat_natCast,o5 hj (by omega),Ce2]
   rw[btD (k8 hj),bt (f8 hj),bt (f8 hj)]
   rfl)
  (by simp only[Ba1,ua8];rw[bfD (p7 (Nat.lt_irrefl _))]) 0 (Nat.zero_le _)
 rw[List.drop_zero,show (l.any fun _=>false)=false by simp] at h
 unfold fb4
 simp only[l5,j7]
 rw[show (⟨0⟩:aa3)=⟨((0:Nat):Int)⟩ from rfl,h,bf (by simp)]
 rfl
theorem Xc1 (l:List Pln) (hl:l.length≤1000000000):ia1 l l=true:=by unfold ia1;rw[ie1 l hl];rfl
theorem Xc2 (l:List Pln) (hl:l.length≤1000000000):ia2 l l=true:=by unfold ia2;rw[ie1 l hl];rfl
end Go.Ev.Ce
namespace Go.Ev.Ce
open Go Go.Ev Go.Ev.L Go.Proofs
def Nx {σ:Type} (x:Stp σ) (E:Nat→Prop) (N:σ→Prop):Prop:=(∃ t,x=.exit t∧E t)∨∃ s,x=.next s∧N s
theorem Nx.sl {σ:Type} {c:Bool} {t e:Stp σ} {E:Nat→Prop} {N:σ→Prop} (h1:c=true→Nx t E N) (h2:c=false→Nx e E N):Nx (sl c t e) E N:=by cases c;exact h2 rfl;exact h1 rfl
theorem Nx.ex {σ:Type} {t:Nat} {E:Nat→Prop} {N:σ→Prop} (h:E t):Nx (.exit t) E N:=.inl ⟨t,rfl,h⟩
theorem Nx.nx {σ:Type} {s:σ} {E:Nat→Prop} {N:σ→Prop} (h:N s):Nx (.next s) E N:=.inr ⟨s,rfl,h⟩
theorem U0 {σ τ : Type} {step : σ → Stp σ} {mk : Nat → τ → σ} (n : Nat) (I : Nat → τ → Prop) (E : Nat → σ → Prop) (hn : n ≤ 1000000000)
  (h:∀ j a,j < n→I j a→Nx (step (mk j a)) (fun t=>E t (mk j a)) (fun s=>∃ a',s=mk (j+1) a'∧I (j+1) a'))
  (hf:∀ j a,n≤j→I j a→∃ t,step (mk j a)=.exit t∧E t (mk j a)) (j0:Nat) (a:τ) (hi:I j0 a):∃ t s,lp step (mk j0 a)=(t,s)∧E t s:=by
 have key:=zb7 (step:=step) (I:=fun m s=>∃ j a,m=n - j∧s=mk j a∧I j a) (Q:=E) (fun m s ⟨j,a,hm,hs,ha⟩=>by
  subst hs
  by_cases hlt:j < n
  ·rcases h j a hlt ha with h1 | ⟨s',h1,a',h2,h3⟩
   ·exact .inl h1
   ·subst h2
    exact .inr ⟨_,n - (j+1),by omega,h1,j+1,a',rfl,rfl,h3⟩
  ·exact .inl (hf j a (by omega) ha)) (n - j0) (mk j0 a) (by omega) ⟨j0,a,rfl,rfl,hi⟩
 exact⟨_,_,rfl,key⟩
def Rd {ρ:Type} (R:RR ρ) (o:Option (b7×List b8)) (P:ρ→Prop):Prop:=∃ x r,o=some x∧R.rd x=some r∧P r
theorem Rd.p {ρ:Type} {R:RR ρ} {o:Option (b7×List b8)} {P:ρ→Prop} (h:Rd R o P):P (C9 R o):=by
 obtain⟨x,r,h1,h2,h3⟩:=h
 rw[h1,ea7 R h2]
 exact h3
theorem Rd.g {ρ:Type} {R:RR ρ} {o:Option (b7×List b8)} {P:ρ→Prop} (h:Rd R o P):okO R o=true:=by
 obtain⟨x,r,h1,h2,h3⟩:=h
 rw[h1]
 exact pa0 R h2
theorem Rd.sl {ρ:Type} {R:RR ρ} {c:Bool} {t e:Option (b7×List b8)} {P:ρ→Prop} (h1:c=true→Rd R t P) (h2:c=false→Rd R e P):Rd R (sl c t e) P:=by cases c;exact h2 rfl;exact h1 rfl
theorem sa0 (n : Int) (l : List Int) (j : Int) (h1 : 0 ≤ j) (h2 : j ≤ 1000000) (hn : 0 < n) (hn2 : n ≤ 1000000) :
  ∃ v j',j8 ⟨n,l,j⟩=⟨1,v,j'⟩∧0≤v∧v < n∧j≤j'∧j'≤j+1:=by
 unfold j8 ea3
 simp only
 by_cases h:j≥(l.length:Int)
 ·rw[btD h]
  exact⟨0,j,rfl,by omega,hn,by omega,by omega⟩
 ·rw[bfD h]
  have hW:W (W (j+1) - 1)=j:=by rw[zd1,ga3 (by omega) (by omega)];omega
  have hW2:W (j+1)=j+1:=ga3 (by omega) (by omega)
  have hin:inB j l.length=true:=by rw[zd2];exact decide_eq_true (by omega)
  rw[hW,hW2,hin,Xc0 _ hn (by omega),ie0 _ hn (by omega)]
  exact⟨_,_,rfl,Int.emod_nonneg _ (by omega),Int.emod_lt_of_pos _ hn,by omega,by omega⟩
theorem zd9 (m : Int) (l : List Int) (j : Int) (h1 : 0 ≤ j) (h2 : j ≤ 900000) (hm : 0 ≤ m) (hm2 : m ≤ 100000) :
  ∃ a b c j',Pa1 ⟨m,l,j⟩=⟨1,a,b,c,l,j'⟩∧Sm m a∧Sm m b∧Sm m c∧j≤j'∧j'≤j+3:=by
 unfold Pa1 bb3
 simp only[l5,j7]
 have hW:W (W (2*m)+1)=2*m+1:=by rw[zb6,ga3 (by omega) (by omega)]
 rw[hW]
 obtain⟨v1,j1,e1,a1,b1,c1,d1⟩:=sa0 (2*m+1) l j h1 (by omega) (by omega) (by omega)
 rw[e1]
 obtain⟨v2,j2,e2,a2,b2,c2,d2⟩:=sa0 (2*m+1) l j1 (by omega) (by omega) (by omega) (by omega)
 simp only
 rw[e2]
 obtain⟨v3,j3,e3,a3,b3,c3,d3⟩:=sa0 (2*m+1) l j2 (by omega) (by omega) (by omega) (by omega)
 simp only
 rw[e3]
 refine⟨v1 - m,v2 - m,v3 - m,j3,?_,⟨by omega,by omega⟩,⟨by omega,by omega⟩,⟨by omega,by omega⟩,by omega,by omega⟩
 simp only
 rw[ga3 (n:=v1 - m) (by omega) (by omega),ga3 (n:=v2 - m) (by omega) (by omega),ga3 (n:=v3 - m) (by omega) (by omega)]
 rfl
def inV (v:V3):Bool:=smb 24 v.x&&(smb 24 v.y&&smb 24 v.z)
theorem Ab3 (v:V3):inV v=true↔Sm 24 v.x∧Sm 24 v.y∧Sm 24 v.z:=by unfold inV;rw[Bool.and_eq_true,Bool.and_eq_true,ab3,ab3,ab3]
theorem Ce3 (v:V3):Ib5 v=some (b (inV v),[]):=by
 unfold Ib5 inV smb
 cases h1:decide (v.x < -24)<;>cases h2:decide (v.x > 24)<;>cases h3:decide (v.y < -24)<;>cases h4:decide (v.y > 24)<;>cases h5:decide (v.z < -24)<;>cases h6:decide (v.z > 24)<;>rfl
theorem bf0 (v:V3):Ta0 v=inV v:=by unfold Ta0;rw[Ce3];rfl
theorem Ce4 (v:V3):Ta1 v=true:=by unfold Ta1;rw[Ce3];rfl
def sub (a b:V3):V3:=⟨a.x - b.x,a.y - b.y,a.z - b.z⟩
theorem ie2 {a b:V3} (ha:inV a=true) (hb:inV b=true):Ga2 a b=sub a b∧Sm 48 (sub a b).x∧Sm 48 (sub a b).y∧Sm 48 (sub a b).z:=by
 rw[Ab3] at ha hb
 obtain⟨⟨a1,a2⟩,⟨a3,a4⟩,a5,a6⟩:=ha
 obtain⟨⟨b1,b2⟩,⟨b3,b4⟩,b5,b6⟩:=hb
 unfold Ga2 sub
 rw[ga3 (by omega) (by omega),ga3 (by omega) (by omega),ga3 (by omega) (by omega)]
 exact⟨rfl,⟨by show _≤a.x - b.x;omega,by show a.x - b.x≤_;omega⟩,⟨by show _≤a.y - b.y;omega,by show a.y - b.y≤_;omega⟩,⟨by show _≤a.z - b.z;omega,by show a.z - b.z≤_;omega⟩⟩
theorem qb6 {a b c : V3} (ha : inV a = true) (hb : inV b = true) (hc : inV c = true) :
  P5 (Ga2 b a) (Ga2 c a)=f7 (sub b a) (sub c a)∧Sm 4608 (f7 (sub b a) (sub c a)).x∧Sm 4608 (f7 (sub b a) (sub c a)).y∧Sm 4608 (f7 (sub b a) (sub c a)).z:=by
 obtain⟨e1,⟨u1,u2⟩,⟨u3,u4⟩,u5,u6⟩:=ie2 hb ha
 obtain⟨e2,⟨v1,v2⟩,⟨v3,v4⟩,v5,v6⟩:=ie2 hc ha
 rw[e1,e2,ic6]
 generalize sub b a=p at *
 generalize sub c a=q at *
 have h1:=mb u3 u4 v5 v6;have h2:=mb u5 u6 v3 v4;have h3:=mb u5 u6 v1 v2;have h4:=mb u1 u2 v5 v6;have h5:=mb u1 u2 v3 v4;have h6:=mb u3 u4 v1 v2
 have k:Sm 4608 (f7 p q).x∧Sm 4608 (f7 p q).y∧Sm 4608 (f7 p q).z:=by unfold Sm f7;simp only;omega
 obtain⟨k1,k2,k3⟩:=k
 rw[La8 (k1.mono (by omega)),La8 (k2.mono (by omega)),La8 (k3.mono (by omega))]
 exact⟨rfl,k1,k2,k3⟩
def K0 (a b c:V3):Pln×Bool :=
 if inV a&&(inV b&&inV c) then
  if g3 (f7 (sub b a) (sub c a))=0 then (⟨⟨0,0,0⟩,0⟩,false)
  else (⟨⟨Int.tdiv (f7 (sub b a) (sub c a)).x (g3 (f7 (sub b a) (sub c a))),Int.tdiv (f7 (sub b a) (sub c a)).y (g3 (f7 (sub b a) (sub c a))),Int.tdiv (f7 (sub b a) (sub c a)).z (g3 (f7 (sub b a) (sub c a)))⟩,
   dot ⟨Int.tdiv (f7 (sub b a) (sub c a)).x (g3 (f7 (sub b a) (sub c a))),Int.tdiv (f7 (sub b a) (sub c a)).y (g3 (f7 (sub b a) (sub c a))),Int.tdiv (f7 (sub b a) (sub c a)).z (g3 (f7 (sub b a) (sub c a)))⟩ a⟩,true)
 else (⟨⟨0,0,0⟩,0⟩,false)
theorem Ob7 (v:V3):0≤g3 v:=by unfold g3;omega
theorem Xc3 (a c d:V3):Aa5 a c d=some (.tup [.agg (tP.row (K0 a c d).1),b (K0 a c d).2],[]):=by
 unfold Aa5 K0
 simp only[bf0,Ce4]
 cases ha:inV a with
 | false=>rfl
 | true =>
  cases hc:inV c with
  | false=>rfl
  | true =>
   cases hd:inV d with
   | false=>rfl
   | true =>
    obtain⟨e,k1,k2,k3⟩:=qb6 ha hc hd
    rw[e]
    generalize f7 (sub c a) (sub d a)=n at *
    have m1:=k1.mono (m:=1000000000000000000) (by omega)
    have m2:=k2.mono (m:=1000000000000000000) (by omega)
    have m3:=k3.mono (m:=1000000000000000000) (by omega)
    rw[Be0 m1 m2 m3,Wc5 m1 m2 m3]
    by_cases h0:g3 n=0
    ·rw[show (g3 n==0)=true from by rw[h0];rfl]
     simp only[Bool.and_self,if_true,h0]
     rfl
    ·have hp:=Ob7 n
     have q1:=K9 (g:=g3 n) k1 (by omega)
     have q2:=K9 (g:=g3 n) k2 (by omega)
     have q3:=K9 (g:=g3 n) k3 (by omega)
     rw[show (g3 n==0)=false from by rw[beq_eq_false_iff_ne];exact h0,hf6 m1 m2 m3 h0]
     simp only[Bool.and_self,if_true,h0,if_false]
     rw[La8 (q1.mono (by omega)),La8 (q2.mono (by omega)),La8 (q3.mono (by omega))]
     have hdot:Fa8 ⟨Int.tdiv n.x (g3 n),Int.tdiv n.y (g3 n),Int.tdiv n.z (g3 n)⟩ a=dot ⟨Int.tdiv n.x (g3 n),Int.tdiv n.y (g3 n),Int.tdiv n.z (g3 n)⟩ a:=by
      unfold Fa8
      simp only[zb6,Yb3]
      obtain⟨⟨a1,a2⟩,⟨a3,a4⟩,a5,a6⟩:=(Ab3 a).1 ha
      have r1:=mb q1.1 q1.2 a1 a2;have r2:=mb q2.1 q2.2 a3 a4;have r3:=mb q3.1 q3.2 a5 a6
      rw[ga3 (by omega) (by omega)]
      rfl
     rw[hdot]
     rfl
theorem pe8 (a b c:V3):ha9 a b c=K0 a b c:=by unfold ha9;rw[Xc3];rfl
theorem Ob8 (a b c:V3):ia0 a b c=true:=by unfold ia0;rw[Xc3];rfl
theorem Re2 (l:List Int):Rd (one r1P) (eb8 l) (fun _=>True):=by
 unfold eb8
 simp only[l5,j7]
 obtain⟨v1,j1,e1,a1,b1,c1,d1⟩:=sa0 8 l 0 (by omega) (by omega) (by omega) (by omega)
 rw[e1]
 simp only
 obtain⟨v2,j2,e2,a2,b2,c2,d2⟩:=sa0 17 l j1 (by omega) (by omega) (by omega) (by omega)
 rw[e2]
 simp only
 obtain⟨x1,x2,x3,j3,e3,_,_,_,c3,d3⟩:=zd9 8 l j2 (by omega) (by omega) (by omega) (by omega)
 rw[e3]
 simp only
 obtain⟨y1,y2,y3,j4,e4,_,_,_,c4,d4⟩:=zd9 8 l j3 (by omega) (by omega) (by omega) (by omega)
 rw[e4]
 simp only
 obtain⟨z1,z2,z3,j5,e5,_,_,_,c5,d5⟩:=zd9 8 l j4 (by omega) (by omega) (by omega) (by omega)
 rw[e5]
 simp only[pe8,Ob8,Xc0 _ (show (0:Int) < 3 by omega) (by omega),j7]
 simp only[Nat.beq_refl,Bool.and_true,o0]
 refine Rd.sl (fun _=>Rd.sl (fun _=>⟨_,_,rfl,rfl,trivial⟩) fun _=>?_) (fun _=>?_)
 ·exact Rd.sl (fun _=>⟨_,_,rfl,rfl,trivial⟩) fun _=>Rd.sl (fun _=>⟨_,_,rfl,rfl,trivial⟩) fun _=>⟨_,_,rfl,rfl,trivial⟩
 ·exact Rd.sl (fun _=>⟨_,_,rfl,rfl,trivial⟩) fun _=>Rd.sl (fun _=>⟨_,_,rfl,rfl,trivial⟩) fun _=>⟨_,_,rfl,rfl,trivial⟩
theorem Re3 (l:List Int):yb6 l=true:=(Re2 l).g
theorem Re4 (p:Pln) (v:V3):Rd (one r1I) (eb9 p v) (fun _=>True):=by
 unfold eb9
 simp only[Wc6,Ce4,o0]
 exact Rd.sl (fun _=>⟨_,_,rfl,rfl,trivial⟩) fun _=>Rd.sl (fun _=>⟨_,_,rfl,rfl,trivial⟩) fun _=>Rd.sl (fun _=>⟨_,_,rfl,rfl,trivial⟩) fun _=>Rd.sl (fun _=>⟨_,_,rfl,rfl,trivial⟩) fun _=>⟨_,_,rfl,rfl,trivial⟩
theorem Ce5 (p:Pln) (v:V3):yb9 p v=true:=(Re4 p v).g
theorem uf3 (P:la3) (hl:P.d9.length≤1000000000):∃ t s,lp (pa8 P) ⟨0⟩=(t,s)∧(t=1∨t=2∨t=3):=by
 obtain⟨l,x1,x2,x3,x4,x5,x6,x7,x8⟩:=P
 refine U0 (step:=pa8 ⟨l,x1,x2,x3,x4,x5,x6,x7,x8⟩) (mk:=fun j (_:Unit)=>(⟨(j:Int)⟩:fa6)) l.length (fun _ _=>True) (fun t _=>t=1∨t=2∨t=3) hl (fun j a hj _=>?_) (fun j a hj _=>?_) 0 () trivial
 ·simp only[pa8,ua0,Ce5,Int.toNat_natCast,o5 hj (show l.length≤4611686018427387904 from Nat.le_trans hl (by omega))]
  rw[btD (k8 hj),bt (f8 hj),o0]
  exact Nx.sl (fun _=>Nx.sl (fun _=>.ex (by simp)) fun _=>.nx ⟨(),rfl,trivial⟩) fun _=>.ex (by simp)
 ·simp only[pa8,ua0]
  rw[bfD (by omega)]
  exact⟨_,rfl,by simp⟩
theorem uf4 (l:List V3) (hl:l.length≤1000000000) (a c:Nat) (ha:a < l.length) (hc:c < a):∃ t s,lp (pa9 ⟨(a:Int),(c:Int)⟩) ⟨l,0⟩=(t,s)∧((t=1∨t=2)∧s.d9=l):=by
 refine U0 (step:=pa9 ⟨(a:Int),(c:Int)⟩) (mk:=fun j (_:Unit)=>(⟨l,(j:Int)⟩:fa7)) c (fun _ _=>True) (fun t s=>(t=1∨t=2)∧s.d9=l) (by omega) (fun j x hj _=>?_) (fun j x hj _=>?_) 0 () trivial
 ·simp only[pa9,ua1,Ob8,Int.toNat_natCast,l5,j7,o5 hj (show c≤4611686018427387904 by omega)]
  rw[btD (k8 hj),bt (f8 ha),bt (f8 (show c < l.length by omega)),bt (f8 (show j < l.length by omega)),o0]
  generalize hP:la3.mk _ _ _ _ _ _ _ _ _=P3
  obtain⟨t,s,h1,h2⟩:=uf3 P3 (by subst hP;exact hl)
  rw[h1]
  rcases h2 with rfl | rfl | rfl
  ·exact .ex (by simp)
  ·exact .nx ⟨(),rfl,trivial⟩
  ·exact .nx ⟨(),rfl,trivial⟩
 ·simp only[pa9,ua1]
  rw[bfD (by omega)]
  exact⟨_,rfl,by simp⟩
theorem uf5 (l:List V3) (hl:l.length≤1000000000) (a:Nat) (ha:a < l.length):∃ t s,lp (qa0 ⟨(a:Int)⟩) ⟨l,0⟩=(t,s)∧((t=1∨t=2)∧s.d9=l):=by
 refine U0 (step:=qa0 ⟨(a:Int)⟩) (mk:=fun j (_:Unit)=>(⟨l,(j:Int)⟩:fa8)) a (fun _ _=>True) (fun t s=>(t=1∨t=2)∧s.d9=l) (by omega) (fun j x hj _=>?_) (fun j x hj _=>?_) 0 () trivial
 ·simp only[qa0,ua2,l5,j7,o5 hj (show a≤4611686018427387904 by omega)]
  obtain⟨t,s,h1,h2,h3⟩:=uf4 l hl a j ha hj
  rw[btD (k8 hj),h1]
  rcases h2 with rfl | rfl
  ·exact .ex (by simp)
  ·exact .nx ⟨(),by rw[h3],trivial⟩
 ·simp only[qa0,ua2]
  rw[bfD (by omega)]
  exact⟨_,rfl,by simp⟩
theorem kb5 (l:List V3) (hl:l.length≤1000000000):Rd (one r1B) (fb0 l) (fun _=>True):=by
 have key:∃ t s,lp (qa1 ⟨⟩) ⟨l,0⟩=(t,s)∧(t=1∨t=2):=by
  refine U0 (step:=qa1 ⟨⟩) (mk:=fun j (_:Unit)=>(⟨l,(j:Int)⟩:fa9)) l.length (fun _ _=>True) (fun t s=>(t=1∨t=2)) hl (fun j x hj _=>?_) (fun j x hj _=>?_) 0 () trivial
  ·simp only[qa1,ua3,l5,j7,o5 hj (show l.length≤4611686018427387904 by omega)]
   obtain⟨t,s,h1,h2,h3⟩:=uf5 l hl j hj
   rw[btD (k8 hj),h1]
   rcases h2 with rfl | rfl
   ·exact .ex (by simp)
   ·exact .nx ⟨(),by rw[h3],trivial⟩
  ·simp only[qa1,ua3]
   rw[bfD (by omega)]
   exact⟨_,rfl,by simp⟩
 obtain⟨t,s,h1,h2⟩:=key
 unfold fb0
 simp only[l5,j7]
 rw[h1]
 rcases h2 with rfl | rfl<;>exact⟨_,_,rfl,rfl,trivial⟩
theorem Ce6 (l:List V3) (hl:l.length≤1000000000):Pa2 l=true:=(kb5 l hl).g
theorem ae7 (l:List V3) (hl:l.length≤1000000000):Rd (one r1I) (Ta3 l) (fun _=>True):=by
 have h:=Wa4 (step:=ua4 ⟨l⟩) (mk:=fun j=>(⟨(j:Int)⟩:T5)) (c:=fun v=>!inV v) (u:=1) (fin:=2) tV l hl
  (fun j hj=>by
   simp only[ua4,na8,Int.toNat_natCast,bf0,Ce4,o5 hj (show l.length≤4611686018427387904 by omega)]
   rw[btD (k8 hj),bt (f8 hj),o0])
  (by simp only[ua4,na8];rw[bfD (p7 (Nat.lt_irrefl _))]) 0 (Nat.zero_le _)
 unfold Ta3
 simp only[l5,j7,aa1,Ce6 l hl]
 rw[show (⟨0⟩:T5)=⟨((0:Nat):Int)⟩ from rfl,h]
 refine Rd.sl (fun _=>⟨_,_,rfl,rfl,trivial⟩) fun _=>?_
 rw[List.drop_zero]
 cases l.any fun v=>!inV v with
 | true=>exact⟨_,_,rfl,rfl,trivial⟩
 | false =>
  show Rd (one r1I) (sl (fb1 l) (some (i 11,[])) (some (i 0,[]))) (fun _=>True)
  exact Rd.sl (fun _=>⟨_,_,rfl,rfl,trivial⟩) fun _=>⟨_,_,rfl,rfl,trivial⟩
theorem pe9 (l:List V3) (hl:l.length≤1000000000):Ib8 l=true:=(ae7 l hl).g
theorem Ce7 (p:Pln) (l:List V3) (hl:l.length≤1000000000):Rd (one r1B) (Ta4 p l) (fun _=>True):=by
 have h:=Wa4 (step:=ua5 ⟨l,p.n.x,p.n.y,p.n.z,p.b⟩) (mk:=fun j=>(⟨(j:Int)⟩:T6)) (c:=fun v=>decide (yb8 p v > 0)) (u:=1) (fin:=2) tV l hl
  (fun j hj=>by
   simp only[ua5,na9,Int.toNat_natCast,Ce5,o5 hj (show l.length≤4611686018427387904 by omega)]
   rw[btD (k8 hj),bt (f8 hj),o0])
  (by simp only[ua5,na9];rw[bfD (p7 (Nat.lt_irrefl _))]) 0 (Nat.zero_le _)
 unfold Ta4
 simp only[l5,j7]
 rw[show (⟨0⟩:T6)=⟨((0:Nat):Int)⟩ from rfl,h]
 split<;>exact⟨_,_,rfl,rfl,trivial⟩
theorem Re5 (p:Pln) (l:List V3) (hl:l.length≤1000000000):ga0 p l=true:=(Ce7 p l hl).g
theorem if5 (p q:Pln):Rd (one r1I) (Aa6 p q) (fun _=>True):=by
 have key:∃ t s,lp (ba6 ⟨p.n.x,p.n.y,p.n.z,p.b,q.n.x,q.n.y,q.n.z,q.b⟩) ⟨0⟩=(t,s)∧(t=1∨t=2∨t=3):=by
  refine U0 (step:=ba6 ⟨p.n.x,p.n.y,p.n.z,p.b,q.n.x,q.n.y,q.n.z,q.b⟩) (mk:=fun j (_:Unit)=>(⟨(j:Int)⟩:P7)) 4 (fun _ _=>True) (fun t s=>(t=1∨t=2∨t=3)) (by omega) (fun j x hj _=>?_) (fun j x hj _=>?_) 0 () trivial
  ·have hn:=o5 hj (show 4≤4611686018427387904 by omega)
   simp only[ba6,fa5,Int.toNat_natCast,hn]
   have hlt:(j:Int) < 4:=by omega
   have hin:=f8 hj
   have g:∀ x1 x2 x3 x4:Int,((Nat.ble ((0+(j*1))+1) 4)&&(L9 [(CK.int .i64)] (g9 [(i x1),(i x2),(i x3),(i x4)] (0+(j*1)))))=true:=by
    intro x1 x2 x3 x4
    match j,hj with
    | 0,_=>rfl
    | 1,_=>rfl
    | 2,_=>rfl
    | 3,_=>rfl
   rw[btD hlt]
   simp only[hin,g,o0]
   exact Nx.sl (fun _=>.ex (by simp)) fun _=>Nx.sl (fun _=>.ex (by simp)) fun _=>.nx ⟨(),rfl,trivial⟩
  ·simp only[ba6,fa5]
   rw[bfD (by omega)]
   exact⟨_,rfl,by simp⟩
 obtain⟨t,s,h1,h2⟩:=key
 unfold Aa6
 simp only
 rw[h1]
 rcases h2 with rfl | rfl | rfl<;>exact⟨_,_,rfl,rfl,trivial⟩
theorem if6 (p q:Pln):ob5 p q=true:=(if5 p q).g
theorem ae8 (l:List Pln) (n:Nat) (h:n≤l.length):m9 (fun k=>(fun k=>tP.row (gL tP l k)) (0+k)) (List.range (n - 0))=bL tP (l.take n):=by
 rw[← rb5,j9,j9,List.length_take,Nat.min_eq_left h,Nat.sub_zero]
 apply List.map_congr_left
 intro k hk
 rw[List.mem_range] at hk
 show tP.row (gL tP l (0+k))=tP.row (gL tP (l.take n) k)
 congr 1
 simp[gL,List.getD_eq_getElem?_getD,List.getElem?_take,hk]
theorem ae9 (l:List Pln) (n:Nat):m9 (fun k=>(fun k=>tP.row (gL tP l k)) (n+k)) (List.range (l.length - n))=bL tP (l.drop n):=by
 rw[← rb5,j9,j9,List.length_drop]
 apply List.map_congr_left
 intro k hk
 show tP.row (gL tP l (n+k))=tP.row (gL tP (l.drop n) k)
 rw[zd7]
theorem ic8 (l:List Pln) (x1 x2 x3 x4:Int):app (bL tP l) [[i x1,i x2,i x3,i x4]]=bL tP (l++[⟨⟨x1,x2,x3⟩,x4⟩]):=sa7 tP l [⟨⟨x1,x2,x3⟩,x4⟩]
def Ad0 (x:List Pln) (y:Pln) (n:Nat):List Pln:=x.take n++(y::x.drop n)
theorem Ab4 {l:List Pln} {n:Nat} {r:List (List b7)} {P:List Pln→Prop} (hn:n=l.length) (hr:r=bL tP l) (h:P l):Rd (one (r1L tP)) (some (.sl 0 0 n 0,[⟨73,4,r,true,false,0⟩])) P:=by
 subst hn hr
 exact⟨_,l,rfl,Wc9 l,h⟩
theorem Ce8 (x:List Pln) (y:Pln) (hx:x.length≤1000000):Rd (one (r1L tP)) (tb0 x y) (fun r=>r≠[]∧r.length≤x.length+1∧∀ p∈r,p=y∨p∈x):=by
 have h:=ab1 (step:=xa5 ⟨x,y.n.x,y.n.y,y.n.z,y.b⟩) (mk:=fun j=>(⟨(j:Int)⟩:ga1)) (c:=fun p=>!decide (Aa7 p y < 0)) (u:=1) (fin:=2) tP x (by omega)
  (fun j hj=>by
   simp only[xa5,Ba0,Int.toNat_natCast,if6,o5 hj (show x.length≤4611686018427387904 by omega)]
   rw[btD (k8 hj),bt (f8 hj),o0]
   cases decide (Aa7 (gL tP x j) y < 0)<;>rfl)
  (by simp only[xa5,Ba0];rw[bfD (p7 (Nat.lt_irrefl _))]) 0 (Nat.zero_le _)
 rw[List.drop_zero] at h
 have key:∃ t n,lp (xa5 ⟨x,y.n.x,y.n.y,y.n.z,y.b⟩) ⟨0⟩=(t,⟨((n:Nat):Int)⟩)∧(t=1∨t=2)∧n≤x.length:=by
  rw[show (⟨0⟩:ga1)=⟨((0:Nat):Int)⟩ from rfl,h]
  split
  ·exact⟨1,_,rfl,.inl rfl,by rw[Nat.zero_add];exact List.findIdx_le_length⟩
  ·exact⟨2,_,rfl,.inr rfl,Nat.le_refl _⟩
 obtain⟨t,n,h1,h2,h3⟩:=key
 have hlo:inB (n:Int) (x.length+1)=true:=f8 (by omega)
 have hd:(bL tP (x.take n)).length=n:=by rw[← l6,Y1,List.length_take];omega
 have hmem:∀ p∈Ad0 x y n,p=y∨p∈x:=fun p hp=>by
  unfold Ad0 at hp
  rcases List.mem_append.1 hp with hp | hp
  ·exact .inr (List.mem_of_mem_take hp)
  ·rcases List.mem_cons.1 hp with hp | hp
   ·exact .inl hp
   ·exact .inr (List.mem_of_mem_drop hp)
 have hne:Ad0 x y n≠[]:=by unfold Ad0;simp
 have hlen:(Ad0 x y n).length=x.length+1:=by unfold Ad0;simp only[List.length_append,List.length_cons,List.length_take,List.length_drop];omega
 have lt:len (bL tP (x.take n))=n:=by rw[l6];exact hd
 have ld:len (bL tP (x.drop n))=x.length - n:=by rw[Y1,List.length_drop]
 have b1:(Nat.beq 1 1&&Nat.ble ((1+(x.length - n))*32) room)=true:=by rw[xa8 (by omega)];rfl
 have b2:(Nat.beq 0 0&&Nat.ble ((0+n)*32) room)=true:=by rw[xa8 (by omega)];rfl
 have e0:app [] (bL tP (x.take n))=bL tP (x.take n):=rfl
 have b3:(Nat.beq (0+n) n&&Nat.ble (((0+n)+1)*32) room)=true:=by rw[xa8 (by omega),Nat.zero_add,Nat.beq_refl];rfl
 have l3:len (bL tP (x.take n++[y]))=n+1:=by rw[Y1,List.length_append,List.length_take];simp only[List.length_singleton];omega
 have b4:(Nat.beq ((0+n)+1) (n+1)&&Nat.ble ((((0+n)+1)+(x.length - n))*32) room)=true:=by rw[xa8 (by omega),Nat.zero_add,Nat.beq_refl];rfl
 have z0:∀ {k:Nat},Nat.beq k 0=true→k=0:=fun {k} h=>Nat.eq_of_beq_eq_true h
 have fin:∀ m r,m=x.length+1→r=bL tP (Ad0 x y n)→Rd (one (r1L tP)) (some (.sl 0 0 m 0,[⟨73,4,r,true,false,0⟩])) (fun r=>r≠[]∧r.length≤x.length+1∧∀ p∈r,p=y∨p∈x) :=
  fun m r hm hr=>Ab4 (by rw[hlen];exact hm) hr ⟨hne,by omega,hmem⟩
 have tail : Rd (one (r1L tP)) (sl (Nat.beq n 0) (sl (Nat.beq (x.length - n) 0) (some ((.sl 0 0 1 0), [⟨73, 4, [[(i y.n.x), (i y.n.y), (i y.n.z), (i y.b)]], true, false, 0⟩]))
   (some ((.sl 0 0 (1+(x.length - n)) 0),[⟨73,4,(app [[(i y.n.x),(i y.n.y),(i y.n.z),(i y.b)]] (bL tP (x.drop n))),true,false,0⟩])))
   (sl (Nat.beq (x.length - n) 0) (some ((.sl 0 0 ((0+n)+1) 0),[⟨73,4,bL tP (x.take n++[y]),true,false,0⟩]))
    (some ((.sl 0 0 (((0+n)+1)+(x.length - n)) 0),[⟨73,4,(app (bL tP (x.take n++[y])) (bL tP (x.drop n))),true,false,0⟩])))) (fun r=>r≠[]∧r.length≤x.length+1∧∀ p∈r,p=y∨p∈x):=by
  refine Rd.sl (fun q1=>Rd.sl (fun q2=>?_) (fun q2=>?_)) (fun q1=>Rd.sl (fun q2=>?_) (fun q2=>?_))
  ·have:=z0 q1;have:=z0 q2
   refine fin _ _ (by omega) ?_
   have:x=[]:=List.eq_nil_of_length_eq_zero (by omega)
   subst this
   rw[show n=0 by omega];rfl
  ·have:=z0 q1;subst this
   exact fin _ _ (by omega) rfl
  ·have:=z0 q2
   refine fin _ _ (by omega) ?_
   unfold Ad0
   rw[show x.drop n=[] from List.drop_eq_nil_of_le (by omega)]
  ·refine fin _ _ (by omega) ?_
   rw[sa7]
   unfold Ad0
   rw[List.append_assoc];rfl
 have same:∀ p:Pln,(p.n.x==y.n.x&&(p.n.y==y.n.y&&(p.n.z==y.n.z&&(p.b==y.b&&true))))=true→n < x.length→Rd (one (r1L tP)) (some (eL tP x,[])) (fun r=>r≠[]∧r.length≤x.length+1∧∀ p∈r,p=y∨p∈x):=fun p _ hn =>
  ⟨_,x,rfl,he6 tP x,List.ne_nil_of_length_pos (by omega),Nat.le_succ _,fun p hp=>Or.inr hp⟩
 unfold tb0
 simp only[l5,j7]
 rw[h1]
 simp only[Int.toNat_natCast,ae8 x n h3,ae9,lt,ld,b1,b2,e0,b3,ic8,l3,b4,hlo,o0]
 have main : Rd (one (r1L tP)) (sl (decide ((n : Int) < (x.length : Int))) (sl (inB (n : Int) x.length) (sl (((gL tP x n).n.x == y.n.x) && (((gL tP x n).n.y == y.n.y) && (((gL tP x n).n.z == y.n.z) && (((gL tP x n).b == y.b) && true)))) (some (eL tP x, []))
   (sl (Nat.beq n 0) (sl (Nat.beq (x.length - n) 0) (some ((.sl 0 0 1 0),[⟨73,4,[[(i y.n.x),(i y.n.y),(i y.n.z),(i y.b)]],true,false,0⟩]))
   (some ((.sl 0 0 (1+(x.length - n)) 0),[⟨73,4,(app [[(i y.n.x),(i y.n.y),(i y.n.z),(i y.b)]] (bL tP (x.drop n))),true,false,0⟩])))
   (sl (Nat.beq (x.length - n) 0) (some ((.sl 0 0 ((0+n)+1) 0),[⟨73,4,bL tP (x.take n++[y]),true,false,0⟩]))
    (some ((.sl 0 0 (((0+n)+1)+(x.length - n)) 0),[⟨73,4,(app (bL tP (x.take n++[y])) (bL tP (x.drop n))),true,false,0⟩]))))) none)
   (sl (Nat.beq n 0) (sl (Nat.beq (x.length - n) 0) (some ((.sl 0 0 1 0),[⟨73,4,[[(i y.n.x),(i y.n.y),(i y.n.z),(i y.b)]],true,false,0⟩]))
   (some ((.sl 0 0 (1+(x.length - n)) 0),[⟨73,4,(app [[(i y.n.x),(i y.n.y),(i y.n.z),(i y.b)]] (bL tP (x.drop n))),true,false,0⟩])))
   (sl (Nat.beq (x.length - n) 0) (some ((.sl 0 0 ((0+n)+1) 0),[⟨73,4,bL tP (x.take n++[y]),true,false,0⟩]))
    (some ((.sl 0 0 (((0+n)+1)+(x.length - n)) 0),[⟨73,4,(app (bL tP (x.take n++[y])) (bL tP (x.drop n))),true,false,0⟩]))))) (fun r=>r≠[]∧r.length≤x.length+1∧∀ p∈r,p=y∨p∈x):=by
  by_cases hn:n < x.length
  ·rw[btD (k8 hn),bt (f8 hn)]
   exact Rd.sl (fun q=>same _ q hn) fun _=>tail
  ·rw[bfD (p7 hn)]
   exact tail
 rcases h2 with rfl | rfl
 ·exact main
 ·exact main
end Go.Ev.Ce
namespace Go.Ev.Ce
open Go Go.Ev Go.Ev.L Go.Proofs
theorem bf1 (x:List Pln) (y:Pln) (hx:x.length≤1000000):qa2 x y=true:=(Ce8 x y hx).g
theorem bf2 (x:List Pln) (y:Pln) (hx:x.length≤1000000):G8 x y≠[]∧(G8 x y).length≤x.length+1∧∀ p∈G8 x y,p=y∨p∈x:=(Ce8 x y hx).p
structure Fc (ph:Nat) (out:List Pln) (m:Nat):Prop where
 h:(ph=0∧out=[])∨ph=1
 l:out.length≤m
theorem Fc.more {ph m m':Nat} {out:List Pln} (h:Fc ph out m) (hm:m≤m'):Fc ph out m':=⟨h.h,Nat.le_trans h.l hm⟩
theorem Re6 (l : List V3) (hl : l.length ≤ 48) (a c : Nat) (ha : a < l.length) (hc : c < a) (h0 : Nat) (out : List Pln) (m : Nat) (hm : m ≤ 900000) (hf : Fc h0 out m) :
  ∃ t s,lp (ua6 ⟨l,(a:Int),(c:Int)⟩) ⟨h0,0,out⟩=(t,s)∧(t=s.ph+1∧Fc s.ph s.da2 (m+100)):=by
 refine U0 (step:=ua6 ⟨l,(a:Int),(c:Int)⟩) (mk:=fun j (x:Nat×List Pln)=>(⟨x.1,(j:Int),x.2⟩:C0)) c (fun j x=>Fc x.1 x.2 (m+2*j)∧j≤48) (fun t s=>t=s.ph+1∧Fc s.ph s.da2 (m+100)) (by omega) (fun j x hj hx=>?_) (fun j x hj hx=>?_) 0 (h0,out) ⟨hf,by omega⟩
 ·obtain⟨h,o⟩:=x
  obtain⟨⟨hx,hx2⟩,_⟩:=hx
  have hn:=o5 hj (show c≤4611686018427387904 by omega)
  have hh:∀ p,ga0 p l=true:=fun p=>Re5 p l (by omega)
  have hg1:∀ y,qa2 o y=true:=fun y=>bf1 o y (by simp only at hx2;omega)
  have hp1:∀ y,G8 o y≠[]∧(G8 o y).length≤o.length+1:=fun y=>by have:=bf2 o y (by simp only at hx2;omega);exact⟨this.1,this.2.1⟩
  have hg2:∀ y z,qa2 (G8 o y) z=true:=fun y z=>bf1 _ z (by have:=(hp1 y).2;simp only at hx2;omega)
  have hp2:∀ y z,(G8 (G8 o y) z).length≤o.length+2:=fun y z=>by
   have:=(bf2 (G8 o y) z (by have:=(hp1 y).2;simp only at hx2;omega)).2.1
   have:=(hp1 y).2
   omega
  simp only at hx hx2
  have stay:Fc h o (m+2*(j+1))∧j+1≤48:=⟨⟨hx,by omega⟩,by omega⟩
  have put1:∀ y,Fc 1 (G8 o y) (m+2*(j+1))∧j+1≤48:=fun y=>⟨⟨.inr rfl,by have:=(hp1 y).2;omega⟩,by omega⟩
  have put2:∀ y z,Fc 1 (G8 (G8 o y) z) (m+2*(j+1))∧j+1≤48:=fun y z=>⟨⟨.inr rfl,by have:=hp2 y z;omega⟩,by omega⟩
  rcases hx with⟨rfl,rfl⟩ | rfl
  ·show Nx (Y4 Stp.next Stp.exit Stp.fail _ _) _ _
   simp only[Y4,Ob8,Int.toNat_natCast,l5,aa1,hh,hg1,hg2,hn]
   rw[btD (k8 hj),bt (f8 ha),bt (f8 (show c < l.length by omega)),bt (f8 (show j < l.length by omega))]
   simp only[o0]
   refine Nx.sl (fun _=>.nx ⟨(0,[]),rfl,stay⟩) fun _=>Nx.sl (fun _=>Nx.sl (fun _=>.nx ⟨(1,_),rfl,put2 _ _⟩) fun _=>.nx ⟨(1,_),rfl,put1 _⟩) fun _=>Nx.sl (fun _=>.nx ⟨(1,_),rfl,put1 _⟩) fun _=>.nx ⟨(0,[]),rfl,stay⟩
  ·show Nx (Y5 Stp.next Stp.exit Stp.fail _ _) _ _
   simp only[Y5,Ob8,Int.toNat_natCast,l5,aa1,hh,hg1,hg2,hn]
   rw[btD (k8 hj),bt (f8 ha),bt (f8 (show c < l.length by omega)),bt (f8 (show j < l.length by omega))]
   simp only[o0]
   refine Nx.sl (fun _=>.nx ⟨(1,o),rfl,stay⟩) fun _=>Nx.sl (fun _=>Nx.sl (fun _=>.nx ⟨(1,_),rfl,put2 _ _⟩) fun _=>.nx ⟨(1,_),rfl,put1 _⟩) fun _=>Nx.sl (fun _=>.nx ⟨(1,_),rfl,put1 _⟩) fun _=>.nx ⟨(1,o),rfl,stay⟩
 ·obtain⟨h,o⟩:=x
  obtain⟨⟨hx,hx2⟩,h48⟩:=hx
  simp only at hx hx2
  rcases hx with⟨rfl,rfl⟩ | rfl
  ·refine⟨1,?_,rfl,⟨.inl ⟨rfl,rfl⟩,by show 0≤_;omega⟩⟩
   show Y4 Stp.next Stp.exit Stp.fail _ _=_
   simp only[Y4]
   rw[bfD (by omega)]
  ·refine⟨2,?_,rfl,⟨.inr rfl,by show o.length≤_;omega⟩⟩
   show Y5 Stp.next Stp.exit Stp.fail _ _=_
   simp only[Y5]
   rw[bfD (by omega)]
theorem Re7 (l : List V3) (hl : l.length ≤ 48) (a : Nat) (ha : a < l.length) (h0 : Nat) (out : List Pln) (m : Nat) (hm : m ≤ 800000) (hf : Fc h0 out m) :
  ∃ t s,lp (ua7 ⟨(a:Int)⟩) ⟨h0,l,0,out⟩=(t,s)∧(t=s.ph+1∧Fc s.ph s.da2 (m+5000)∧s.d9=l):=by
 refine U0 (step:=ua7 ⟨(a:Int)⟩) (mk:=fun j (x:Nat×List Pln)=>(⟨x.1,l,(j:Int),x.2⟩:C3)) a (fun j x=>Fc x.1 x.2 (m+100*j)∧j≤48) (fun t s=>t=s.ph+1∧Fc s.ph s.da2 (m+5000)∧s.d9=l) (by omega) (fun j x hj hx=>?_) (fun j x hj hx=>?_) 0 (h0,out) ⟨hf,by omega⟩
 ·obtain⟨h,o⟩:=x
  obtain⟨hx,_⟩:=hx
  have hn:=o5 hj (show a≤4611686018427387904 by omega)
  simp only at hx
  obtain⟨t,s,e1,e2,e3⟩:=Re6 l hl a j ha hj h o (m+100*j) (by omega) hx
  obtain⟨s1,s2,s3⟩:=s
  simp only at e2 e3
  have go:Fc s1 s3 (m+100*(j+1))∧j+1≤48:=⟨e3.more (by omega),by omega⟩
  rcases hx.h with⟨rfl,rfl⟩ | rfl
  ·show Nx (Y6 Stp.next Stp.exit Stp.fail _ _) _ _
   simp only[Y6,l5,j7,hn]
   rw[btD (k8 hj),e1,e2]
   rcases e3.h with⟨rfl,rfl⟩ | rfl
   ·exact .nx ⟨(0,[]),rfl,go⟩
   ·exact .nx ⟨(1,s3),rfl,go⟩
  ·show Nx (Y7 Stp.next Stp.exit Stp.fail _ _) _ _
   simp only[Y7,l5,j7,hn]
   rw[btD (k8 hj),e1,e2]
   rcases e3.h with⟨rfl,rfl⟩ | rfl
   ·exact .nx ⟨(0,[]),rfl,go⟩
   ·exact .nx ⟨(1,s3),rfl,go⟩
 ·obtain⟨h,o⟩:=x
  obtain⟨hx,h48⟩:=hx
  simp only at hx
  have h2:=hx.more (show m+100*j≤m+5000 by omega)
  rcases hx.h with⟨rfl,rfl⟩ | rfl
  ·refine⟨1,?_,rfl,h2,rfl⟩
   show Y6 Stp.next Stp.exit Stp.fail _ _=_
   simp only[Y6]
   rw[bfD (by omega)]
  ·refine⟨2,?_,rfl,h2,rfl⟩
   show Y7 Stp.next Stp.exit Stp.fail _ _=_
   simp only[Y7]
   rw[bfD (by omega)]
theorem Re8 (l : List V3) (hl : l.length ≤ 48) :
  ∃ t s,lp (Ja6 ⟨⟩) ⟨0,l,0,[]⟩=(t,s)∧(t=s.ph+1∧Fc s.ph s.da2 250000):=by
 refine U0 (step:=Ja6 ⟨⟩) (mk:=fun j (x:Nat×List Pln)=>(⟨x.1,l,(j:Int),x.2⟩:F7)) l.length (fun j x=>Fc x.1 x.2 (5000*j)∧j≤48) (fun t s=>t=s.ph+1∧Fc s.ph s.da2 250000) (by omega) (fun j x hj hx=>?_) (fun j x hj hx=>?_) 0 (0,[]) ⟨⟨.inl ⟨rfl,rfl⟩,Nat.le_refl _⟩,by omega⟩
 ·obtain⟨h,o⟩:=x
  obtain⟨hx,_⟩:=hx
  have hn:=o5 hj (show l.length≤4611686018427387904 by omega)
  simp only at hx
  obtain⟨t,s,e1,e2,e3,e4⟩:=Re7 l hl j hj h o (5000*j) (by omega) hx
  obtain⟨s1,s2,s3,s4⟩:=s
  simp only at e2 e3 e4
  subst e4
  have go:Fc s1 s4 (5000*(j+1))∧j+1≤48:=⟨e3.more (by omega),by omega⟩
  rcases hx.h with⟨rfl,rfl⟩ | rfl
  ·show Nx (Y8 Stp.next Stp.exit Stp.fail ⟨⟩ _) _ _
   simp only[Y8,l5,j7,hn]
   rw[btD (k8 hj),e1,e2]
   rcases e3.h with⟨rfl,rfl⟩ | rfl
   ·exact .nx ⟨(0,[]),rfl,go⟩
   ·exact .nx ⟨(1,s4),rfl,go⟩
  ·show Nx (Y9 Stp.next Stp.exit Stp.fail ⟨⟩ _) _ _
   simp only[Y9,l5,j7,hn]
   rw[btD (k8 hj),e1,e2]
   rcases e3.h with⟨rfl,rfl⟩ | rfl
   ·exact .nx ⟨(0,[]),rfl,go⟩
   ·exact .nx ⟨(1,s4),rfl,go⟩
 ·obtain⟨h,o⟩:=x
  obtain⟨hx,h48⟩:=hx
  simp only at hx
  have h2:=hx.more (show 5000*j≤250000 by omega)
  rcases hx.h with⟨rfl,rfl⟩ | rfl
  ·refine⟨1,?_,rfl,h2⟩
   show Y8 Stp.next Stp.exit Stp.fail ⟨⟩ _=_
   simp only[Y8]
   rw[bfD (by omega)]
  ·refine⟨2,?_,rfl,h2⟩
   show Y9 Stp.next Stp.exit Stp.fail ⟨⟩ _=_
   simp only[Y9]
   rw[bfD (by omega)]
theorem if7 (l:List Pln) (n:Int):(two (r1L tP) r1I).rd (.tup [eL tP l,i n],[])=some (l,n):=by
 have h:(r1L tP).rd [] (eL tP l)=some l:=by
  show Bool.rec (motive:=fun _=>Option (List Pln)) none (some (rt tP l)) (Bool.and (Nat.beq tP.es tP.es) (okE tP l))=_
  rw[l5,aa1,Nat.beq_refl]
  rfl
 simp only[two,h]
 rfl
theorem Pd4 (l:List V3) (hl:l.length≤48):Rd (two (r1L tP) r1I) (Ta7 l) (fun r=>r.1.length≤250000):=by
 obtain⟨t,s,e1,e2,e3⟩:=Re8 l hl
 unfold Ta7
 simp only[l5,j7,aa1,pe9 l (show l.length≤1000000000 by omega),o0]
 refine Rd.sl (fun _=>⟨_,([],Ib7 l),rfl,rfl,Nat.zero_le _⟩) fun _=>?_
 rw[e1,e2]
 obtain⟨s1,s2,s3,s4⟩:=s
 simp only at e3 ⊢
 rcases e3.h with⟨rfl,rfl⟩ | rfl
 ·exact⟨_,([],0),rfl,rfl,Nat.zero_le _⟩
 ·exact⟨_,(s4,0),rfl,if7 s4 0,e3.l⟩
theorem Re9 (l:List V3) (hl:l.length≤48):Ga3 l=true:=(Pd4 l hl).g
theorem Se0 (l:List V3) (hl:l.length≤48):(lb6 l).1.length≤250000:=(Pd4 l hl).p
def phV (out:List V3):Nat:=match out with
 | []=>0
 | _::_=>1
theorem Se1 (out:List V3) (x:V3):phV (out++[x])=1:=by cases out<;>rfl
theorem Pd5 (l:List V3) (x1 x2 x3:Int):app (bL tV l) [[i x1,i x2,i x3]]=bL tV (l++[⟨x1,x2,x3⟩]):=sa7 tV l [⟨x1,x2,x3⟩]
theorem uf6 {l:List V3} {m:Nat} (h:m < l.length):(((Nat.blt (0+m) (len (bL tV l)))&&(Nat.ble (0+3) (len (i6 (bL tV l) (0+m)))))&&(L9 [(CK.int .i64),(CK.int .i64),(CK.int .i64)] (g9 (i6 (bL tV l) (0+m)) 0)))=true:=by
 rw[Nat.zero_add,P1 tV h,Y1,show Nat.blt m l.length=true from by rw[Nat.blt_eq];exact h]
 rfl
theorem uf7 {l:List V3} {m:Nat} (h:m < l.length):(((Nat.blt (0+m) (len (bL tV l)))&&(Nat.ble (2+1) (len (i6 (bL tV l) (0+m)))))&&(L9 [(CK.int .i64)] (g9 (i6 (bL tV l) (0+m)) 2)))=true:=by
 rw[Nat.zero_add,P1 tV h,Y1,show Nat.blt m l.length=true from by rw[Nat.blt_eq];exact h]
 rfl
theorem bf3 {n:Nat} {l:List V3} (hn:l.length=n) (h:n≤1000000000):(Nat.beq n (len (bL tV l))&&Nat.ble ((n+1)*24) room)=true:=by
 subst hn
 rw[Y1,Nat.beq_refl,Bool.true_and,Nat.ble_eq]
 unfold room
 omega
theorem Se2 (x : List Int) (N : Nat) (h4 : 4 ≤ N) (h8 : N ≤ 8) (j0 : Int) (hj0 : 0 ≤ j0 ∧ j0 ≤ 10) :
  ∃ idx out,lp (Da1 ⟨(N:Int)⟩) ⟨0,0,x,j0,0,[]⟩=(2,⟨1,(N:Int),x,idx,N,bL tV out⟩)∧out.length=N:=by
 have key:=U0 (step:=Da1 ⟨(N:Int)⟩) (mk:=fun j (a:Int×List V3)=>(⟨phV a.2,(j:Int),x,a.1,a.2.length,bL tV a.2⟩:w9)) N
  (fun j a=>a.2.length=j∧0≤a.1∧a.1≤10+4*j∧j≤N) (fun t s=>t=2∧∃ idx out,s=⟨1,(N:Int),x,idx,N,bL tV out⟩∧out.length=N) (by omega) (fun j a hj ha=>?_) (fun j a hj ha=>?_) 0 (j0,[]) ⟨rfl,hj0.1,by omega,by omega⟩
 ·obtain⟨t,s,e1,rfl,idx,out,e2,e3⟩:=key
  exact⟨idx,out,by rw[← e2];exact e1,e3⟩
 ·obtain⟨at0,out⟩:=a
  obtain⟨ho,ha1,ha2,_⟩:=ha
  simp only at ho ha1 ha2
  have hn:=o5 hj (show N≤4611686018427387904 by omega)
  obtain⟨v1,j1,d1,_,_,c1,b1⟩:=sa0 17 x at0 ha1 (by omega) (by omega) (by omega)
  obtain⟨v2,j2,d2,_,_,c2,b2⟩:=sa0 17 x j1 (by omega) (by omega) (by omega) (by omega)
  obtain⟨v3,j3,d3,_,_,c3,b3⟩:=sa0 17 x j2 (by omega) (by omega) (by omega) (by omega)
  obtain⟨v4,j4,d4,_,_,c4,b4⟩:=sa0 6 x j3 (by omega) (by omega) (by omega) (by omega)
  have leaf : ∀ (E : Nat → Prop) (x1 x2 x3 : Int), Nx (.next (⟨1, ((j + 1 : Nat) : Int), x, j4, j + 1, bL tV (out ++ [⟨x1, x2, x3⟩])⟩ : w9)) E
    (fun s=>∃ a':Int×List V3,s=⟨phV a'.2,((j+1:Nat):Int),x,a'.1,a'.2.length,bL tV a'.2⟩∧a'.2.length=j+1∧0≤a'.1∧a'.1≤10+4*((j+1:Nat):Int)∧j+1≤N):=fun E x1 x2 x3=>by
   have hl:(out++[(⟨x1,x2,x3⟩:V3)]).length=j+1:=by simp[ho]
   exact .nx ⟨(j4,out++[⟨x1,x2,x3⟩]),by simp only[Se1,hl],hl,by show 0≤j4;omega,by show j4≤_;omega,by omega⟩
  cases out with
  | nil =>
   have hj0':j=0:=by simpa using ho.symm
   subst hj0'
   show Nx (ka6 Stp.next Stp.exit Stp.fail _ _) _ _
   simp only[ka6,l5,j7,d1,d2,d3,d4,hn]
   rw[btD (k8 hj)]
   have f1:decide (((0:Nat):Int) > 1)=false:=rfl
   have f2:decide (((0:Nat):Int) > 0)=false:=rfl
   have f3:decide (((0:Nat):Int) > 2)=false:=rfl
   have lf:∀ (E:Nat→Prop) (x1 x2 x3:Int),Nx (.next (⟨1,((0+1:Nat):Int),x,j4,1,[[i x1,i x2,i x3]]⟩:w9)) E _:=leaf
   simp only[f1,f2,f3,rb4,Nat.beq_refl,Bool.and_true,o0]
   refine Nx.sl (fun _=>?_) (fun _=>?_)<;>refine Nx.sl (fun _=>?_) (fun _=>?_)
   all_goals first
    | exact lf _ _ _ _
    | (refine Nx.sl (fun _=>?_) (fun _=>?_)<;>exact lf _ _ _ _)
  | cons o os =>
   have h1:1≤j:=by simp only[List.length_cons] at ho;omega
   generalize hO:o::os=O at *
   have hph:phV O=1:=by subst hO;rfl
   have w1:W ((j:Int) - 1)=((j - 1:Nat):Int):=by rw[ga3 (by omega) (by omega)];omega
   have i1:inB ((j - 1:Nat):Int) j=true:=f8 (by omega)
   have r1:=uf6 (l:=O) (m:=j - 1) (by omega)
   have r1':=uf7 (l:=O) (m:=j - 1) (by omega)
   have rr:=bf3 ho (by omega)
   have f2:∀ {inst:Decidable ((j:Int) > 0)},@decide ((j:Int) > 0) inst=true:=decide_eq_true (by omega)
   show Nx (sel (Nat.beq (phV O) 1) (G9 Stp.next Stp.exit Stp.fail _ _) _) _ _
   rw[hph]
   show Nx (G9 Stp.next Stp.exit Stp.fail _ _) _ _
   by_cases h2:2≤j
   ·have w2:W ((j:Int) - 2)=((j - 2:Nat):Int):=by rw[ga3 (by omega) (by omega)];omega
    have i2:inB ((j - 2:Nat):Int) j=true:=f8 (by omega)
    have r2:=uf6 (l:=O) (m:=j - 2) (by omega)
    simp only[G9,l5,j7,d1,d2,d3,d4,hn,ho,w1,w2,i1,i2,Int.toNat_natCast,r1,r1',r2,rr,Pd5]
    rw[btD (k8 hj)]
    simp only[Nat.beq_refl,Bool.and_true,o0]
    repeat' (first | exact leaf _ _ _ _ | refine Nx.sl (fun _=>?_) (fun _=>?_))
   ·have hj1:j=1:=by omega
    subst hj1
    simp only[G9,l5,j7,d1,d2,d3,d4,hn,ho,w1,i1,Int.toNat_natCast,r1,r1',rr,Pd5]
    have f1:decide (((1:Nat):Int) > 1)=false:=rfl
    rw[btD (k8 hj)]
    simp only[f1,rb4,Nat.beq_refl,Bool.and_true,o0]
    repeat' (first | exact leaf _ _ _ _ | refine Nx.sl (fun _=>?_) (fun _=>?_))
 ·obtain⟨at0,out⟩:=a
  obtain⟨ho,ha1,ha2,hjN⟩:=ha
  simp only at ho ha1 ha2
  have hj':j=N:=by omega
  subst hj'
  cases out with
  | nil=>simp only[List.length_nil] at ho;omega
  | cons o os =>
   refine⟨2,?_,rfl,at0,o::os,by rw[ho];rfl,ho⟩
   show G9 Stp.next Stp.exit Stp.fail _ _=_
   simp only[G9]
   rw[bfD (by omega)]
theorem Ce9 {l:List V3} {n:Nat} {r:List (List b7)} {P:List V3→Prop} (hn:n=l.length) (hr:r=bL tV l) (h:P l):Rd (one (r1L tV)) (some (.sl 0 0 n 0,[⟨27,3,r,true,false,0⟩])) P:=by
 subst hn hr
 refine⟨_,l,rfl,?_,h⟩
 show Bool.rec (motive:=fun _=>Option (List V3)) none (some (slR tV (bL tV l) 0 l.length)) (Bool.and true (okS tV (bL tV l) 0 l.length))=_
 rw[cb9,nb5]
 rfl
theorem pd8 (x:List Int):Rd (one (r1L tV)) (Ja7 x) (fun r=>4≤r.length∧r.length≤8):=by
 obtain⟨v,j,e1,a1,b1,c1,d1⟩:=sa0 5 x 0 (by omega) (by omega) (by omega) (by omega)
 have hN:W (4+v)=(((4+v).toNat:Nat):Int):=by rw[ga3 (by omega) (by omega)];omega
 obtain⟨idx,out,e2,e3⟩:=Se2 x (4+v).toNat (by omega) (by omega) j (by omega)
 unfold Ja7
 simp only[l5,j7,e1,hN,e2]
 have h4:4≤(4+v).toNat:=by omega
 have h8:(4+v).toNat≤8:=by omega
 generalize (4+v).toNat=N at *
 have s1:lsL tV N (fun k=>i6 (bL tV out) (0+k))=out:=by rw[← e3];exact cb9 tV out
 have s2:okL tV N (fun k=>i6 (bL tV out) (0+k))=true:=by rw[← e3];exact nb5 tV out
 have gf:Pa2 out=true:=Ce6 out (by omega)
 rw[s1,s2,gf]
 simp only[Nat.beq_refl,Bool.and_true,o0,show Nat.beq 2 1=false from rfl,rb4]
 refine Rd.sl (fun _=>?_) fun _=>Ce9 e3.symm rfl ⟨by omega,by omega⟩
 have i0:inB 0 N=true:=f8 (j:=0) (by omega)
 have i1:inB 1 N=true:=f8 (j:=1) (by omega)
 have i2:inB 2 N=true:=f8 (j:=2) (by omega)
 have i3:inB 3 N=true:=f8 (j:=3) (by omega)
 have sp:∀ (v:V3) (x1 x2 x3:Int),J1 (tV.row v) 0 [i x1,i x2,i x3]=tV.row ⟨x1,x2,x3⟩:=fun _ _ _ _=>rfl
 have rl:∀ v:V3,Nat.ble (0+3) (len (tV.row v))=true:=fun _=>rfl
 have ck:∀ v:V3,L9 [(CK.int .i64),(CK.int .i64),(CK.int .i64)] (g9 (tV.row v) 0)=true:=fun _=>rfl
 have gr:∀ (l:List V3) (k:Nat),l.length=N→k < 4→i6 (bL tV l) k=tV.row (gL tV l k):=fun l k hl hk=>P1 tV (by omega)
 have bl:∀ (l:List V3) (k:Nat),l.length=N→k < 4→Nat.blt k (len (bL tV l))=true:=fun l k hl hk=>by rw[Y1,Nat.blt_eq];omega
 have ls:∀ (l:List V3) (k:Nat) (v:V3),l.length=N→(l.set k v).length=N:=fun l k v hl=>by rw[List.length_set];exact hl
 rw[gr out 0 e3 (by omega),gr out 1 e3 (by omega)]
 simp only[sp,rb6]
 rw[gr _ 2 (ls out 1 _ e3) (by omega)]
 simp only[sp,rb6]
 rw[gr _ 3 (ls _ 2 _ (ls out 1 _ e3)) (by omega)]
 simp only[sp,rb6,rl,ck,i0,i1,i2,i3,bl out 0 e3 (by omega),bl out 1 e3 (by omega),bl _ 2 (ls out 1 _ e3) (by omega),bl _ 3 (ls _ 2 _ (ls out 1 _ e3)) (by omega),Bool.and_true,o0]
 exact Ce9 (by simp only[List.length_set];omega) rfl (by simp only[List.length_set];omega)
theorem De0 (x:List Int):Ja8 x=true:=(pd8 x).g
theorem De1 (x:List Int):4≤(la4 x).length∧(la4 x).length≤8:=(pd8 x).p
end Go.Ev.Ce
namespace Go.Ev.Ce
open Go Go.Ev Go.Ev.L Go.Proofs
theorem De2 {l:List Pln} {P:List Pln→Prop} (h:P l):Rd (one (r1L tP)) (some (eL tP l,[])) P:=⟨_,l,rfl,he6 tP l,h⟩
theorem ie3 (x:List Int):Rd (one (r1L tP)) (fb3 x) (fun r=>r.length≤250000):=by
 obtain⟨v1,j1,e1,a1,b1,c1,d1⟩:=sa0 4 x 0 (by omega) (by omega) (by omega) (by omega)
 obtain⟨w1,w2,w3,j2,e2,p1,p2,p3,c2,d2⟩:=zd9 6 x j1 (by omega) (by omega) (by omega) (by omega)
 obtain⟨v3,j3,e3,a3,b3,c3,d3⟩:=sa0 6 x j2 (by omega) (by omega) (by omega) (by omega)
 obtain⟨v4,j4,e4,a4,b4,c4,d4⟩:=sa0 6 x j3 (by omega) (by omega) (by omega) (by omega)
 obtain⟨v5,j5,e5,a5,b5,c5,d5⟩:=sa0 6 x j4 (by omega) (by omega) (by omega) (by omega)
 have hin:inB (if 7 < (x.length:Int) then 7 else (x.length:Int)) (x.length+1)=true:=by
  rw[zd2]
  apply decide_eq_true
  split<;>omega
 have hok:∀ n m,okL tI n (fun k=>(fun k=>tI.row (gL tI x k)) (m+k))=true:=fun n m=>Va2 tI (f:=fun k=>gL tI x (m+k)) fun _ _=>rfl
 unfold fb3
 simp only[l5,j7,aa1,e1,e2,e3,e4,e5,af8,af9,hin,hok,rb5,Re3,De0,Nat.beq_refl,Bool.and_true,o0]
 generalize hL:lsL tI _ _=L
 generalize hB:Be6 _ _=B
 have hB6:B.length=6:=by rw[← hB];rfl
 have hl6:len (bL tP B)=6:=by rw[Y1,hB6]
 have ea:app [] (bL tP B)=bL tP B:=rfl
 have es:∀ q:Pln,slR tP (bL tP (B++[q])) 0 (0+6+1)=B++[q]:=fun q=>by
  have:=cb9 tP (B++[q])
  rw[List.length_append,hB6] at this
  exact this
 have eo:∀ q:Pln,okS tP (bL tP (B++[q])) 0 (0+6+1)=true:=fun q=>by
  have:=nb5 tP (B++[q])
  rw[List.length_append,hB6] at this
  exact this
 have gF:∀ q:Pln,Oa5 (B++[q])=true:=fun q=>Re1 (by rw[List.length_append,hB6];exact (by decide:6+1≤1000000000))
 have q1:Nat.ble ((0+6)*32) room=true:=xa8 (by omega)
 have q2:Nat.ble (((0+6)+1)*32) room=true:=xa8 (by omega)
 have q3:Nat.beq (0+6) 6=true:=rfl
 have hp:=De1 L
 have gf:Ga3 (la4 L)=true:=Re9 _ (by omega)
 have pf:=Se0 (la4 L) (by omega)
 simp only[hl6,ea,ic8,es,eo,gF,q1,q2,q3,Bool.and_self,gf,o0,show Nat.beq 6 0=false from rfl,rb4]
 have box:Rd (one (r1L tP)) (some (eL tP B,[])) (fun r=>r.length≤250000):=De2 (by rw[hB6];omega)
 have fcs:Rd (one (r1L tP)) (some (eL tP (lb6 (la4 L)).1,[])) (fun r=>r.length≤250000):=De2 pf
 exact Rd.sl (fun _=>Rd.sl (fun _=>Ab4 (by rw[List.length_append,hB6];rfl) rfl (by rw[List.length_append,hB6];exact (by decide:6+1≤250000))) fun _=>Rd.sl (fun _=>Rd.sl (fun _=>fcs) fun _=>box) fun _=>box) fun _=>Rd.sl (fun _=>Rd.sl (fun _=>fcs) fun _=>box) fun _=>box
theorem if8 (x:List Int):Xb9 x=true:=(ie3 x).g
theorem if9 (x:List Int):(L0 x).length≤250000:=(ie3 x).p
theorem Se3 {l:List Pln} {k:Nat} (h:k < l.length):ldR tP (bL tP l) (0+k)=true:=by rw[Nat.zero_add];exact Nc9 tP h
theorem Se4 {l:List Pln} {k:Nat} (h:k < l.length):rdR tP (bL tP l) (0+k)=gL tP l k:=by rw[Nat.zero_add];exact Nc8 tP h
theorem jf0 {l:List Pln} {n:Nat} {r:List (List b7)} {P:List Pln→Prop} (hn:n≤l.length) (hr:r=bL tP l) (h:P (l.take n)):Rd (one (r1L tP)) (some (.sl 0 0 n 0,[⟨73,4,r,true,false,0⟩])) P:=by
 subst hr
 have e1:slR tP (bL tP l) 0 n=l.take n:=Wb0 tP (by rw[List.length_take];omega) fun k hk=>by
  rw[Nat.zero_add,P1 tP (by omega)]
  congr 1
  simp[gL,List.getD_eq_getElem?_getD,List.getElem?_take,hk]
 have e2:okS tP (bL tP l) 0 n=true:=Va2 tP (f:=fun k=>gL tP l k) fun k hk=>by rw[Nat.zero_add,P1 tP (by omega)]
 refine⟨_,l.take n,rfl,?_,h⟩
 show Bool.rec (motive:=fun _=>Option (List Pln)) none (some (slR tP (bL tP l) 0 n)) (Bool.and true (okS tP (bL tP l) 0 n))=_
 rw[e1,e2]
 rfl
theorem De3 (k:Nat) (l:List Pln) (hk:k < l.length):∃ s:la1,lp (Ka0 ⟨(k:Int)⟩) ⟨l.length,bL tP l⟩=(1,s)∧∃ out:List Pln,s=⟨out.length,bL tP out⟩∧out.length≤l.length+49:=by
 have key:=zb7 (step:=Ka0 ⟨(k:Int)⟩) (I:=fun m s=>∃ out:List Pln,s=⟨out.length,bL tP out⟩∧k < out.length∧(out.length≤49∨out=l)∧m=49 - out.length) (Q:=fun t s=>t=1∧∃ out:List Pln,s=⟨out.length,bL tP out⟩∧out.length≤l.length+49) (fun m s ⟨out,hs,hk,ho,hm⟩=>by
  subst hs
  simp only[Ka0,Qa9,Int.toNat_natCast,Se3 hk,Se4 hk,f8 hk,o0,ic8]
  by_cases h:(out.length:Int)≤48
  ·rw[btD h,Y1,Nat.beq_refl,xa8 (by omega)]
   refine .inr ⟨_,49 - (out.length+1),by omega,rfl,out++[gL tP out k],by rw[List.length_append];rfl,by rw[List.length_append];omega,.inl (by rw[List.length_append];simp only[List.length_singleton];omega),by rw[List.length_append];rfl⟩
  ·rw[bfD h]
   exact .inl ⟨1,rfl,rfl,out,rfl,by rcases ho with ho | rfl<;>omega⟩) (49 - l.length) ⟨l.length,bL tP l⟩ (by omega) ⟨l,rfl,hk,.inr rfl,rfl⟩
 exact⟨_,Prod.ext key.1 rfl,key.2⟩
theorem jf1 (p:Pln) (v:V3):Rd (one r1P) (sb9 p v) (fun _=>True):=by
 have h1:=Int.emod_nonneg v.z (show (9:Int)≠0 by omega)
 have h2:=Int.emod_lt_of_pos v.z (show (0:Int) < 9 by omega)
 unfold sb9
 simp only[Xc0 _ (show (0:Int) < 9 by omega) (by omega),Xc0 _ (show (0:Int) < 5 by omega) (by omega),ie0 _ (show (0:Int) < 9 by omega) (by omega),ie0 _ (show (0:Int) < 5 by omega) (by omega)]
 have hin:inB (v.z % 9) 9=true:=by rw[zd2];exact decide_eq_true (by omega)
 have hck:∀ (x1 x2 x3 x4 x5 x6 x7 x8 x9:Int) (k:Nat),k < 9→((Nat.ble 1 (len (i6 [[(i x1)],[(i x2)],[(i x3)],[(i x4)],[(i x5)],[(i x6)],[(i x7)],[(i x8)],[(i x9)]] (0+k))))&&(L9 [(CK.int .i64)] (i6 [[(i x1)],[(i x2)],[(i x3)],[(i x4)],[(i x5)],[(i x6)],[(i x7)],[(i x8)],[(i x9)]] (0+k))))=true:=by
  intro x1 x2 x3 x4 x5 x6 x7 x8 x9 k hk
  match k,hk with
  | 0,_=>rfl
  | 1,_=>rfl
  | 2,_=>rfl
  | 3,_=>rfl
  | 4,_=>rfl
  | 5,_=>rfl
  | 6,_=>rfl
  | 7,_=>rfl
  | 8,_=>rfl
 rw[hin,hck _ _ _ _ _ _ _ _ _ _ (by omega)]
 simp only[o0]
 exact Rd.sl (fun _=>⟨_,_,rfl,rfl,trivial⟩) fun _=>Rd.sl (fun _=>⟨_,_,rfl,rfl,trivial⟩) fun _=>Rd.sl (fun _=>⟨_,_,rfl,rfl,trivial⟩) fun _=>Rd.sl (fun _=>⟨_,_,rfl,rfl,trivial⟩) fun _=>Rd.sl (fun _=>⟨_,_,rfl,rfl,trivial⟩) fun _=>⟨_,_,rfl,rfl,trivial⟩
theorem jf2 (p:Pln) (v:V3):pc5 p v=true:=(jf1 p v).g
theorem De4 (x:List Pln) (y:V3) (hx:x.length≤1000000):Rd (one (r1L tP)) (tb1 x y) (fun r=>r.length≤x.length+50):=by
 have ea:app [] (bL tP x)=bL tP x:=rfl
 have one0:Rd (one (r1L tP)) (some (.sl 0 0 1 0,[⟨73,4,[[(i 0),(i 0),(i 0),(i 0)]],true,false,0⟩])) (fun r=>r.length≤x.length+50):=Ab4 (l:=[⟨⟨0,0,0⟩,0⟩]) rfl rfl (by simp only[List.length_singleton];omega)
 unfold tb1
 simp only[rb5,ea,Y1,Nat.zero_add]
 by_cases h0:x.length=0
 ·rw[show Nat.beq x.length 0=true from by rw[h0];rfl]
  exact one0
 ·have z0 : Nat.beq x.length 0 = false := by
   cases h:Nat.beq x.length 0 with
   | false=>rfl
   | true=>exact absurd (Nat.eq_of_beq_eq_true h) h0
  have zi:((x.length:Int)==0)=false:=by rw[beq_eq_false_iff_ne];omega
  have hk1:=Int.emod_nonneg y.y (show (x.length:Int)≠0 by omega)
  have hk2:=Int.emod_lt_of_pos y.y (show (0:Int) < (x.length:Int) by omega)
  rw[z0,zi,ie0 y.y (show (0:Int) < (x.length:Int) by omega) (by omega),Xc0 y.y (show (0:Int) < (x.length:Int) by omega) (by omega),Xc0 y.x (show (0:Int) < 6 by omega) (by omega),Xc0 y.z (show (0:Int) < 9 by omega) (by omega)]
  obtain⟨k,hk⟩:=Int.eq_ofNat_of_zero_le hk1
  rw[hk] at hk2 ⊢
  have hkx:k < x.length:=by omega
  have i1:inB (k:Int) x.length=true:=f8 hkx
  have i2:inB (k:Int) (x.length+1)=true:=f8 (by omega)
  have w1:W ((k:Int)+1)=((k+1:Nat):Int):=o5 hkx (by omega)
  have i3:inB ((k+1:Nat):Int) (x.length+1)=true:=f8 (by omega)
  have hrow:i6 (bL tP x) k=tP.row (gL tP x k):=P1 tP hkx
  have hb:Nat.blt k x.length=true:=by rw[Nat.blt_eq];exact hkx
  have hld:ldR tP (bL tP x) k=true:=Nc9 tP hkx
  have hrd:rdR tP (bL tP x) k=gL tP x k:=Nc8 tP hkx
  have sp:∀ (v:Pln) (x1 x2 x3 x4:Int),J1 (tP.row v) 0 [i x1,i x2,i x3,i x4]=tP.row ⟨⟨x1,x2,x3⟩,x4⟩:=fun _ _ _ _ _=>rfl
  have sp3:∀ (v:Pln) (x4:Int),J1 (tP.row v) 3 [i x4]=tP.row ⟨v.n,x4⟩:=fun _ _=>rfl
  have rl:∀ v:Pln,Nat.ble 4 (len (tP.row v))=true:=fun _=>rfl
  have rl3:∀ v:Pln,Nat.ble (3+1) (len (tP.row v))=true:=fun _=>rfl
  have ck3:∀ v:Pln,L9 [(CK.int .i64)] (g9 (tP.row v) 3)=true:=fun _=>rfl
  have b0:Nat.ble (x.length*32) room=true:=xa8 (by omega)
  have b1:Nat.ble ((x.length+1)*32) room=true:=xa8 (by omega)
  obtain⟨s,l1,out,l2,l3⟩:=De3 k x hkx
  have cutL:C4 (g9 (bL tP x) (k+1)) (x.length - (k+1))=bL tP (x.drop (k+1)):=by
   have hl:(bL tP x).length=x.length:=by rw[← l6,Y1]
   rw[C7,B6,List.take_of_length_le (by rw[List.length_drop,hl];omega)]
   unfold bL
   rw[j9,j9,List.map_drop]
  have cutT:C4 (bL tP x) (k - 0)=bL tP (x.take k):=by
   unfold bL
   rw[C7,j9,j9,List.map_take,Nat.sub_zero]
  have cutD:∀ n,g9 (bL tP x) n=bL tP (x.drop n):=fun n=>by
   unfold bL
   rw[B6,j9,j9,List.map_drop]
  simp only[Int.toNat_natCast,i1,i2,w1,i3,hrow,hb,hld,hrd,sp,sp3,rl,rl3,ck3,b0,b1,Nat.beq_refl,Bool.and_self,Bool.and_true,o0,rb4,jf2,rb6,ic8,l1,l2,cutL]
  refine Rd.sl (fun _=>Ab4 (by rw[List.length_set]) rfl (by rw[List.length_set];omega)) fun _=>Rd.sl (fun _=>?_) fun _=>Rd.sl (fun _=>Ab4 (by rw[List.length_set]) rfl (by rw[List.length_set];omega)) fun _ =>
   Rd.sl (fun _=>Ab4 (by rw[List.length_append];rfl) rfl (by rw[List.length_append];simp only[List.length_singleton];omega)) fun _=>Rd.sl (fun _=>Ab4 (by rw[List.length_set]) rfl (by rw[List.length_set];omega)) fun _ =>
   Rd.sl (fun _=>Ab4 rfl rfl (by omega)) fun _=>Ab4 rfl rfl (by omega)
  rw[cutT,cutD,Y1,sa7,sa7,List.length_drop,bt (by rw[Nat.ble_eq];omega)]
  refine jf0 ?_ rfl ?_
  ·simp only[List.length_append,List.length_take,List.length_drop];omega
  ·rw[List.length_take];simp only[List.length_append,List.length_take,List.length_drop];omega
theorem uf8 (x:List Pln) (y:V3) (hx:x.length≤1000000):pc8 x y=true:=(De4 x y hx).g
theorem uf9 (x:List Pln) (y:V3) (hx:x.length≤1000000):(Ga4 x y).length≤x.length+50:=(De4 x y hx).p
end Go.Ev.Ce
namespace Go.Ev.Ce
open Go Go.Ev Go.Ev.L Go.Proofs
theorem tc5 (v:V3):ta8 v=inV v∧ta9 v=true:=by
 have h3:[v.x,v.y,v.z].length≤1000000000:=by simp
 have:eb6 v=some (b (inV v),[]):=by
  unfold eb6 inV
  simp only[ub4 24 _ (by omega) h3,ub5 24 _ (by omega) h3,o0]
  simp only[List.all_cons,List.all_nil,Bool.and_true]
 unfold ta8 ta9
 rw[this]
 exact⟨rfl,rfl⟩
noncomputable def has (c:List Pln) (v:V3):Bool:=(chk c==0)&&(inV v&&inn c ⟨v.x,v.y,v.z,1⟩)
noncomputable def apart (a c:List Pln):Bool:=!((chk a==0)&&(chk c==0))||!ae5 (a++c++ws)
end Go.Ev.Ce
namespace Go.Ev.Ce
open Go Go.Ev Go.Ev.L Go.Proofs
noncomputable def onc (X:List Pt) (p:Pln):Nat:=X.countP fun x=>rm p x==0
noncomputable def keep (X:List Pt) (p:Pln):Bool:=!decide ((onc X p:Int) < 3)
theorem ic9 {α:Type} (c:α→Bool):∀ l:List α,(l.take (l.findIdx c)).filter (fun x=>!c x)=l.take (l.findIdx c)
 | []=>rfl
 | x::l=>by
  rw[List.findIdx_cons]
  cases h:c x with
  | true=>rfl
  | false =>
   simp only[cond_false,List.take_succ_cons,List.filter_cons,h,Bool.not_false,if_true]
   rw[ic9 c l]
theorem be0 {α:Type} (l:List α) (j:Nat) (h:j < l.length):l.take (j+1)=l.take j++[l[j]]:=by rw[List.take_succ_eq_append_getElem h]
theorem ab4 {α:Type} (t:Ty α) {l:List α} {j:Nat} (h:j < l.length):l.take (j+1)=l.take j++[gL t l j]:=by rw[be0 l j h,Ua0 t h]
theorem tc6 {α:Type} (t:Ty α) {l r:List α} {j:Nat} (h:l.drop j=r.drop j):gL t l j=gL t r j:=by
 have h1:=zd7 t l j 0
 have h2:=zd7 t r j 0
 rw[Nat.add_zero] at h1 h2
 rw[← h1,← h2,h]
theorem jc0 {α:Type} {l r:List α} {j:Nat} (h:l.drop j=r.drop j) (k:Nat):l.drop (j+k)=r.drop (j+k):=by rw[← List.drop_drop,← List.drop_drop,h]
structure Del (l:List Pln) (f:Pln→Bool) (cur:List Pln) (m j:Nat):Prop where
 len:cur.length=l.length
 t:cur.take m=(l.take j).filter f
 d:cur.drop j=l.drop j
 le:m≤j
 lm:m≤l.length
theorem Se5 (l:List Pln) (n:Nat):g9 (bL tP l) n=bL tP (l.drop n):=by unfold bL;rw[B6,j9,j9,List.map_drop]
def eqP (x y:Pln):Bool:=x.n.x==y.n.x&&(x.n.y==y.n.y&&(x.n.z==y.n.z&&(x.b==y.b&&true)))
theorem jc1 (x y:Pln):eqP x y=true↔x=y:=by
 unfold eqP
 simp only[Bool.and_true,Bool.and_eq_true,beq_iff_eq]
 refine⟨fun⟨h1,h2,h3,h4⟩=>?_,fun h=>by subst h;exact⟨rfl,rfl,rfl,rfl⟩⟩
 obtain⟨⟨x1,x2,x3⟩,x4⟩:=x
 obtain⟨⟨y1,y2,y3⟩,y4⟩:=y
 simp only at h1 h2 h3 h4
 subst h1 h2 h3 h4
 rfl
def ddF:Pln→List Pln→List Pln
 | _,[]=>[]
 | a,x::l=>if eqP x a then ddF x l else x::ddF x l
def dd:List Pln→List Pln
 | []=>[]
 | x::l=>x::ddF x l
structure Cmp (l:List Pln) (n:Nat) (cur:List Pln) (m j:Nat) (R:List Pln):Prop where
 len:cur.length=l.length
 t:cur.take m++ddF (gL tP l (j - 1)) ((l.take n).drop j)=R
 d:cur.drop (j - 1)=l.drop (j - 1)
 le:m+1≤j
theorem De5 (l:List Pln) (n:Nat) (hn:n≤l.length):slR tP (bL tP l) 0 n=l.take n:=Wb0 tP (by rw[List.length_take];omega) fun k hk=>by
 rw[Nat.zero_add,P1 tP (by omega)]
 congr 1
 simp[gL,List.getD_eq_getElem?_getD,List.getElem?_take,hk]
theorem De6 (l:List Pln) (n:Nat) (hn:n≤l.length):okS tP (bL tP l) 0 n=true:=Va2 tP (f:=fun k=>gL tP l k) fun k hk=>by rw[Nat.zero_add,P1 tP (by omega)]
end Go.Ev.Ce
namespace Go.Ev.Ce
open Go Go.Ev Go.Ev.L Go.Proofs Go.Sort
theorem Xc4 (l:List Pln):List.Perm (Sb0 l) l:=List.mergeSort_perm l _
theorem qe0 (x y z:Pln) (h1:(!ltOf ob3 y x)=true) (h2:(!ltOf ob3 z y)=true):(!ltOf ob3 z x)=true:=by
 simp only[Bool.not_eq_true',Oa9,decide_eq_false_iff_not] at *
 unfold LtP at *
 omega
theorem qe1 (x y:Pln):((!ltOf ob3 y x)||!ltOf ob3 x y)=true:=by
 simp only[Bool.or_eq_true,Bool.not_eq_true',Oa9,decide_eq_false_iff_not]
 unfold LtP
 omega
theorem Ad1 (l:List Pln):(Sb0 l).Pairwise fun x y=>(!ltOf ob3 y x)=true:=List.pairwise_mergeSort qe0 qe1 l
instance:DecidableEq Pln:=fun x y=>decidable_of_iff _ (jc1 x y)
def PC:List Pt:=[⟨0,0,0,1⟩,⟨0,0,1,4⟩,⟨0,1,0,3⟩,⟨1,0,0,2⟩]
end Go.Ev.Ce
section
namespace Go.Ev.Ce
open Go Go.Ev Go.Ev.L Go.Proofs
set_option maxRecDepth 100000
structure Qb2 where
structure Kb7 where
structure Kb8 where
structure Qb3 where
 alt:Nat
structure tc7 where
structure jc2 where
structure jc3 where
structure tc8 where
 alt:Nat
structure jd1 where
structure jd2 where
 alt:Nat
structure cd2 where
 ca2:List Pt
structure Jc3 where
 ca2:List Pt
structure Jc4 where
structure cd3 where
 alt:Nat
 ca2:List Pt
structure Xc5 where
 ca2:List Pt
structure Xc6 where
 alt:Nat
 ca2:List Pt
structure pd9 where
structure qd0 where
structure Ed2 where
structure Ed3 where
end Go.Ev.Ce
end
section
namespace Go.Ev.Ce
open Go Go.Ev Go.Ev.L Go.Proofs
set_option maxRecDepth 100000
structure De7 where
 is1:Int
structure De8 where
 ph:Nat
 is7:Int
 i4:List Int
 c7:Int
 ns6:Nat
 eh1:List (List b7)
structure Se6 where
 d8:List Pln
 Ya1:List Pt
 is5:Int
 cf6:List Pln
structure Se7 where
 ph:Nat
 is6:Int
 is7:Int
structure Se8 where
structure Se9 where
 ph:Nat
 d8:List Pln
 Ya1:List Pt
 is5:Int
 cf6:List Pln
end Go.Ev.Ce
end
namespace Go.Ev.Ce
open Go Go.Ev Go.Ev.L Go.Proofs
def Ya0 (l:List Pln):Prop:=l.Pairwise LtP
theorem qd1 {x y z:Pln} (h1:LtP x y) (h2:LtP y z):LtP x z:=by unfold LtP at *;omega
theorem Ad2 (x:Pln):¬ LtP x x:=by unfold LtP;omega
theorem ie4 (x y:Pln):LtP x y∨x=y∨LtP y x:=by
 by_cases h1:LtP x y
 ·exact .inl h1
 ·by_cases h2:LtP y x
  ·exact .inr (.inr h2)
  ·refine .inr (.inl ?_)
   unfold LtP at h1 h2
   have e1:x.n.x=y.n.x:=by omega
   have e2:x.n.y=y.n.y:=by omega
   have e3:x.n.z=y.n.z:=by omega
   have e4:x.b=y.b:=by omega
   cases x with | mk n b=>cases y with | mk m c=>cases n;cases m;simp_all
theorem qd2:∀ {l r:List Pln},Ya0 l→Ya0 r→(∀ p,p∈l↔p∈r)→l=r
 | [],[],_,_,_=>rfl
 | [],b::r,_,_,h=>by have:=(h b).2 List.mem_cons_self;cases this
 | a::l,[],_,_,h=>by have:=(h a).1 List.mem_cons_self;cases this
 | a::l,b::r,hl,hr,h=>by
  obtain⟨hl1,hl2⟩:=List.pairwise_cons.1 hl
  obtain⟨hr1,hr2⟩:=List.pairwise_cons.1 hr
  have hab:a=b:=by
   rcases List.mem_cons.1 ((h a).1 List.mem_cons_self) with e | h1
   ·exact e
   ·rcases List.mem_cons.1 ((h b).2 List.mem_cons_self) with e | h2
    ·exact e.symm
    ·exact absurd (qd1 (hr1 a h1) (hl1 b h2)) (Ad2 b)
  subst hab
  rw[qd2 hl2 hr2 fun p=>?_]
  constructor
  ·intro hp
   rcases List.mem_cons.1 ((h p).1 (List.mem_cons_of_mem _ hp)) with e | h1
   ·subst e;exact absurd (hl1 p hp) (Ad2 p)
   ·exact h1
  ·intro hp
   rcases List.mem_cons.1 ((h p).2 (List.mem_cons_of_mem _ hp)) with e | h1
   ·subst e;exact absurd (hr1 p hp) (Ad2 p)
   ·exact h1
def Ad3:List Pln→Pln→List Pln
 | [],y=>[y]
 | a::l,y=>if ob3 a y < 0 then a::Ad3 l y else if eqP a y then a::l else y::a::l
theorem Kb9 (y p:Pln):∀ x,p∈Ad3 x y↔p=y∨p∈x
 | []=>by simp[Ad3]
 | a::l=>by
  unfold Ad3
  have ih:=Kb9 y p l
  split
  ·simp only[List.mem_cons,ih]
   constructor
   ·rintro (h | h | h)
    ·exact .inr (.inl h)
    ·exact .inl h
    ·exact .inr (.inr h)
   ·rintro (h | h | h)
    ·exact .inr (.inl h)
    ·exact .inl h
    ·exact .inr (.inr h)
  ·split
   ·rename_i h
    rw[jc1] at h
    subst h
    simp only[List.mem_cons]
    constructor
    ·exact fun h=>.inr h
    ·rintro (h | h)
     ·exact .inl h
     ·exact h
   ·simp only[List.mem_cons]
theorem jc4 (y:Pln):∀ {x},Ya0 x→Ya0 (Ad3 x y)
 | [],_=>List.pairwise_singleton _ _
 | a::l,h=>by
  obtain⟨h1,h2⟩:=List.pairwise_cons.1 h
  unfold Ad3
  split
  ·rename_i hc
   rw[xd5] at hc
   refine List.pairwise_cons.2 ⟨fun p hp=>?_,jc4 y h2⟩
   rcases (Kb9 y p l).1 hp with e | hp
   ·subst e;exact hc
   ·exact h1 p hp
  ·rename_i hc
   rw[xd5] at hc
   split
   ·exact h
   ·rename_i hne
    have hlt:LtP y a:=by
     rcases ie4 y a with h | h | h
     ·exact h
     ·exact absurd ((jc1 _ _).2 h.symm) hne
     ·exact absurd h hc
    refine List.pairwise_cons.2 ⟨fun p hp=>?_,h⟩
    rcases List.mem_cons.1 hp with e | hp
    ·subst e;exact hlt
    ·exact qd1 hlt (h1 p hp)
end Go.Ev.Ce
namespace Go.Ev.Ce
open Go Go.Ev Go.Ev.L Go.Proofs
theorem qe2:Sb0 []=[]:=List.eq_nil_of_length_eq_zero (Ob2 [])
end Go.Ev.Ce
namespace Go.Ev.Ce
def rmZ (p:Pln) (x:Pt):Int:=p.b*x.pw - (p.n.x*x.px+p.n.y*x.py+p.n.z*x.pz)
structure Inr (r:List Pln) (x:Pt):Prop where
 w:0 < x.pw
 h:∀ p∈r,0≤rmZ p x
def sa3 (p:Pln):Pln:=⟨⟨-p.n.x,-p.n.y,-p.n.z⟩,-p.b⟩
theorem Pd6 (p:Pln) (x:Pt):rmZ (sa3 p) x=-rmZ p x:=by unfold rmZ sa3;grind
structure Cn (r:List Pln) (x:Pt):Prop extends Inr r x where
 c:∃ p q s,p∈r∧q∈r∧s∈r∧mw p q s≠0∧rmZ p x=0∧rmZ q x=0∧rmZ s x=0
def Bdd (r:List Pln):Prop:=∀ d:V3,d≠⟨0,0,0⟩→∃ p∈r,0 < dot p.n d
def go (x:Pt) (q:Pln) (d:V3):Pt:=⟨x.px*dot q.n d+rmZ q x*d.x,x.py*dot q.n d+rmZ q x*d.y,x.pz*dot q.n d+rmZ q x*d.z,x.pw*dot q.n d⟩
theorem ie5 (p q:Pln) (x:Pt) (d:V3):rmZ p (go x q d)=dot q.n d*rmZ p x - rmZ q x*dot p.n d:=by simp only[rmZ,go,dot];grind
theorem Sa0 {a b c:Int} (hc:0 < c) (h:a*c≤b*c):a≤b:=Int.le_of_mul_le_mul_right h hc
theorem first (x:Pt) (d:V3):∀ r:List Pln,(∀ p∈r,0≤rmZ p x)→(∃ p∈r,0 < dot p.n d)→∃ q∈r,0 < dot q.n d∧∀ p∈r,0 < dot p.n d→rmZ q x*dot p.n d≤rmZ p x*dot q.n d
 | [],_,h=>by obtain⟨p,hp,_⟩:=h;cases hp
 | a::r,hx,h=>by
  by_cases hr:∃ p∈r,0 < dot p.n d
  ·obtain⟨q,hq,h1,h2⟩:=first x d r (fun p hp=>hx p (List.mem_cons_of_mem _ hp)) hr
   by_cases ha:0 < dot a.n d
   ·by_cases hc:rmZ q x*dot a.n d≤rmZ a x*dot q.n d
    ·refine⟨q,List.mem_cons_of_mem _ hq,h1,fun p hp h3=>?_⟩
     rcases List.mem_cons.1 hp with rfl | hp
     ·exact hc
     ·exact h2 p hp h3
    ·refine⟨a,List.mem_cons_self,ha,fun p hp h3=>?_⟩
     rcases List.mem_cons.1 hp with rfl | hp
     ·exact Int.le_refl _
     ·have h4:=h2 p hp h3
      have h5:rmZ a x*dot q.n d < rmZ q x*dot a.n d:=by omega
      have h6:=Int.mul_le_mul_of_nonneg_right h4 (Int.le_of_lt ha)
      have h7:=Int.mul_lt_mul_of_pos_right h5 h3
      have e1:rmZ q x*dot p.n d*dot a.n d=rmZ q x*dot a.n d*dot p.n d:=by grind
      have e2:rmZ a x*dot q.n d*dot p.n d=rmZ a x*dot p.n d*dot q.n d:=by grind
      have e3:rmZ p x*dot q.n d*dot a.n d=rmZ p x*dot a.n d*dot q.n d:=by grind
      refine Sa0 h1 ?_
      omega
   ·refine⟨q,List.mem_cons_of_mem _ hq,h1,fun p hp h3=>?_⟩
    rcases List.mem_cons.1 hp with rfl | hp
    ·exact absurd h3 ha
    ·exact h2 p hp h3
  ·have ha : 0 < dot a.n d := by
    obtain⟨p,hp,h3⟩:=h
    rcases List.mem_cons.1 hp with rfl | hp
    ·exact h3
    ·exact absurd ⟨p,hp,h3⟩ hr
   refine⟨a,List.mem_cons_self,ha,fun p hp h3=>?_⟩
   rcases List.mem_cons.1 hp with rfl | hp
   ·exact Int.le_refl _
   ·exact absurd ⟨p,hp,h3⟩ hr
theorem step {r:List Pln} {x:Pt} (hx:Inr r x) (d:V3) (h:∃ p∈r,0 < dot p.n d):∃ q∈r,0 < dot q.n d∧Inr r (go x q d):=by
 obtain⟨q,hq,h1,h2⟩:=first x d r hx.h h
 refine⟨q,hq,h1,⟨Int.mul_pos hx.w h1,fun p hp=>?_⟩⟩
 rw[ie5]
 have h3:=hx.h p hp
 have h4:=hx.h q hq
 by_cases h5:0 < dot p.n d
 ·have:=h2 p hp h5
  have e:rmZ p x*dot q.n d=dot q.n d*rmZ p x:=Int.mul_comm _ _
  omega
 ·have h6:=Int.mul_nonneg (Int.le_of_lt h1) h3
  have h7:rmZ q x*dot p.n d≤0:=Int.mul_nonpos_of_nonneg_of_nonpos h4 (by omega)
  omega
theorem De9 {h q:Pln} {x:Pt} {d:V3} (h1:0≤rmZ q x) (h2:0≤dot h.n d):rmZ h (go x q d)*x.pw≤rmZ h x*(go x q d).pw∨x.pw≤0:=by
 rcases Int.lt_or_le 0 x.pw with hw | hw
 ·left
  rw[ie5]
  have:=Int.mul_nonneg h1 h2
  have h3:=Int.mul_nonneg this (Int.le_of_lt hw)
  have e:rmZ h x*(go x q d).pw=dot q.n d*rmZ h x*x.pw:=by unfold go;grind
  have e2:(dot q.n d*rmZ h x - rmZ q x*dot h.n d)*x.pw=dot q.n d*rmZ h x*x.pw - rmZ q x*dot h.n d*x.pw:=by grind
  omega
 ·exact .inr hw
def neg (d:V3):V3:=⟨-d.x,-d.y,-d.z⟩
theorem ie6 (a d:V3):dot a (neg d)=-dot a d:=by unfold dot neg;grind
theorem Ad4 {d:V3} (h:d≠⟨0,0,0⟩):neg d≠⟨0,0,0⟩:=fun h'=>h (by
 cases d;unfold neg at h';simp only[V3.mk.injEq] at h' ⊢;omega)
theorem turn (h:Pln) {d:V3} (hd:d≠⟨0,0,0⟩):∃ e,e≠(⟨0,0,0⟩:V3)∧0≤dot h.n e∧∀ a,dot a d=0→dot a e=0:=by
 by_cases h1:0≤dot h.n d
 ·exact⟨d,hd,h1,fun _ h=>h⟩
 ·exact⟨neg d,Ad4 hd,by rw[ie6];omega,fun a h=>by rw[ie6,h];rfl⟩
theorem Gf5 {n:V3} (hn:n≠⟨0,0,0⟩):∃ d,d≠(⟨0,0,0⟩:V3)∧dot n d=0:=by
 by_cases h:n.x=0∧n.y=0
 ·exact⟨⟨1,0,0⟩,by simp,by unfold dot;simp[h.1]⟩
 ·refine⟨⟨n.y,-n.x,0⟩,fun h'=>h ?_,by unfold dot;grind⟩
  simp only[V3.mk.injEq] at h'
  omega
theorem V3.ext' {a b:V3} (h1:a.x=b.x) (h2:a.y=b.y) (h3:a.z=b.z):a=b:=by cases a;cases b;simp_all
theorem Ee0 {m n d:V3} (hm:m≠⟨0,0,0⟩) (h1:dot m d=0) (h2:dot n d≠0):f7 m n≠⟨0,0,0⟩:=fun h=>by
 unfold f7 at h
 simp only[V3.mk.injEq] at h
 obtain⟨c1,c2,c3⟩:=h
 unfold dot at h1 h2
 have e1:m.x*(n.x*d.x+n.y*d.y+n.z*d.z)=0:=by grind
 have e2:m.y*(n.x*d.x+n.y*d.y+n.z*d.z)=0:=by grind
 have e3:m.z*(n.x*d.x+n.y*d.y+n.z*d.z)=0:=by grind
 have k:∀ {a:Int},a*(n.x*d.x+n.y*d.y+n.z*d.z)=0→a=0:=fun h=>(Int.mul_eq_zero.1 h).resolve_right h2
 exact hm (V3.ext' (k e1) (k e2) (k e3))
theorem Pd7 (a b:V3):dot a (f7 a b)=0:=by unfold dot f7;grind
theorem Pd8 (a b:V3):dot b (f7 a b)=0:=by unfold dot f7;grind
theorem Ee1 {p q:Pln} {x:Pt} {d:V3} (h:rmZ p x=0) (h':dot p.n d=0):rmZ p (go x q d)=0:=by rw[ie5,h,h'];simp
theorem Ee2 (q:Pln) (x:Pt) (d:V3):rmZ q (go x q d)=0:=by rw[ie5];grind
theorem vf0 {q:Pln} {d:V3} (h:0 < dot q.n d):q.n≠⟨0,0,0⟩:=fun h'=>by rw[h'] at h;unfold dot at h;simp at h
theorem bf4 {a b c u v w:Int} (hu:0 < u) (hv:0 < v) (hw:0 < w) (h1:a*v≤b*u) (h2:b*w≤c*v):a*w≤c*u:=by
 have h3:=Int.mul_le_mul_of_nonneg_right h1 (Int.le_of_lt hw)
 have h4:=Int.mul_le_mul_of_nonneg_right h2 (Int.le_of_lt hu)
 have e1:a*v*w=a*w*v:=by grind
 have e2:b*u*w=b*w*u:=by grind
 have e3:c*v*u=c*u*v:=by grind
 exact Sa0 hv (by omega)
theorem jf3 {r:List Pln} (hb:Bdd r) (h:Pln) {x:Pt} (hx:Inr r x):∃ v,Cn r v∧rmZ h v*x.pw≤rmZ h x*v.pw:=by
 obtain⟨d0,n0,p0,_⟩:=turn h (d:=⟨1,0,0⟩) (by simp)
 obtain⟨q1,m1,k1,i1⟩:=step hx d0 (hb d0 n0)
 have l1:=(De9 (h:=h) (x:=x) (hx.h q1 m1) p0).resolve_right (by have:=hx.w;omega)
 obtain⟨e1,ne1,he1⟩:=Gf5 (vf0 k1)
 obtain⟨d1,n1,p1,z1⟩:=turn h ne1
 obtain⟨q2,m2,k2,i2⟩:=step i1 d1 (hb d1 n1)
 have l2:=(De9 (h:=h) (x:=go x q1 d0) (i1.h q2 m2) p1).resolve_right (by have:=i1.w;omega)
 have hc:=Ee0 (vf0 k1) (z1 _ he1) (n:=q2.n) (by omega)
 obtain⟨d2,n2,p2,z2⟩:=turn h hc
 obtain⟨q3,m3,k3,i3⟩:=step i2 d2 (hb d2 n2)
 have l3:=(De9 (h:=h) (x:=go (go x q1 d0) q2 d1) (i2.h q3 m3) p2).resolve_right (by have:=i2.w;omega)
 have a1:rmZ q1 (go (go x q1 d0) q2 d1)=0:=Ee1 (Ee2 _ _ _) (z1 _ he1)
 refine⟨_,⟨i3,q3,q1,q2,m3,m1,m2,fun h0=>?_,Ee2 _ _ _,Ee1 a1 (z2 _ (Pd7 _ _)),Ee1 (Ee2 _ _ _) (z2 _ (Pd8 _ _))⟩,?_⟩
 ·have:dot q3.n d2=0:=z2 _ h0
  omega
 ·exact bf4 i3.w i2.w hx.w l3 (bf4 i2.w i1.w hx.w l2 l1)
theorem Cb6 {r:List Pln} (hb:Bdd r) {h:Pln} (hv:∀ v,Cn r v→0≤rmZ h v) {x:Pt} (hx:Inr r x):0≤rmZ h x:=by
 obtain⟨v,h1,h2⟩:=jf3 hb h hx
 have h3:=Int.mul_nonneg (hv v h1) (Int.le_of_lt hx.w)
 exact Sa0 h1.w (by rw[Int.zero_mul];omega)
def mid (x y:Pt):Pt:=⟨x.px*y.pw+y.px*x.pw,x.py*y.pw+y.py*x.pw,x.pz*y.pw+y.pz*x.pw,2*(x.pw*y.pw)⟩
theorem Ee3 (p:Pln) (x y:Pt):rmZ p (mid x y)=rmZ p x*y.pw+rmZ p y*x.pw:=by unfold rmZ mid;grind
theorem Inr.mid {r:List Pln} {x y:Pt} (hx:Inr r x) (hy:Inr r y):Inr r (mid x y):=⟨by unfold Ce.mid;exact Int.mul_pos (by decide) (Int.mul_pos hx.w hy.w),fun p hp=>by
 rw[Ee3]
 exact Int.add_nonneg (Int.mul_nonneg (hx.h p hp) (Int.le_of_lt hy.w)) (Int.mul_nonneg (hy.h p hp) (Int.le_of_lt hx.w))⟩
def jf4 (r:List Pln):Prop:=∃ x:Pt,0 < x.pw∧∀ p∈r,0 < rmZ p x
theorem ie7 {r:List Pln}:∀ (l:List Pln),(∀ p∈l,p∈r)→(∃ x,Inr r x)→(∀ p∈l,∃ v,Inr r v∧0 < rmZ p v)→∃ x,Inr r x∧∀ p∈l,0 < rmZ p x
 | [],_,h,_=>by obtain⟨x,h⟩:=h;exact⟨x,h,fun p hp=>by cases hp⟩
 | a::l,hl,h,hv=>by
  obtain⟨x,h1,h2⟩:=ie7 l (fun p hp=>hl p (List.mem_cons_of_mem _ hp)) h (fun p hp=>hv p (List.mem_cons_of_mem _ hp))
  obtain⟨y,h3,h4⟩:=hv a List.mem_cons_self
  refine⟨mid x y,h1.mid h3,fun p hp=>?_⟩
  rw[Ee3]
  rcases List.mem_cons.1 hp with rfl | hp
  ·have:=Int.mul_nonneg (h1.h p (hl p List.mem_cons_self)) (Int.le_of_lt h3.w)
   have:=Int.mul_pos h4 h1.w
   omega
  ·have:=Int.mul_pos (h2 p hp) h3.w
   have:=Int.mul_nonneg (h3.h p (hl p (List.mem_cons_of_mem _ hp))) (Int.le_of_lt h1.w)
   omega
theorem Ee4 {r:List Pln} (hb:Bdd r) (h0:r≠[]):jf4 r↔∀ p∈r,∃ v,Cn r v∧0 < rmZ p v:=by
 constructor
 ·intro ⟨x,hw,hx⟩ p hp
  by_cases h:∃ v,Cn r v∧0 < rmZ p v
  ·exact h
  ·have hx':Inr r x:=⟨hw,fun q hq=>Int.le_of_lt (hx q hq)⟩
   have:=Cb6 hb (h:=sa3 p) (fun v hv=>by
    rw[Pd6]
    have:¬ 0 < rmZ p v:=fun h'=>h ⟨v,hv,h'⟩
    omega) hx'
   rw[Pd6] at this
   have:=hx p hp
   omega
 ·intro h
  obtain⟨p,hp⟩:=List.exists_mem_of_ne_nil r h0
  obtain⟨v,hv,_⟩:=h p hp
  obtain⟨x,h1,h2⟩:=ie7 r (fun _ h=>h) ⟨v,hv.toInr⟩ fun p hp=>by
   obtain⟨v,hv,h⟩:=h p hp
   exact⟨v,hv.toInr,h⟩
  exact⟨x,h1.w,h2⟩
structure Eqv (x v:Pt):Prop where
 e1:x.px*v.pw=v.px*x.pw
 e2:x.py*v.pw=v.py*x.pw
 e3:x.pz*v.pw=v.pz*x.pw
theorem Eqv.rm {x v:Pt} (h:Eqv x v) (p:Pln):rmZ p x*v.pw=rmZ p v*x.pw:=by
 obtain⟨e1,e2,e3⟩:=h
 unfold rmZ
 grind
theorem Eqv.inr {r:List Pln} {x v:Pt} (h:Eqv x v) (hw:0 < x.pw) (hv:Inr r v):Inr r x:=⟨hw,fun p hp=>by
 have:=h.rm p
 have h2:=Int.mul_nonneg (hv.h p hp) (Int.le_of_lt hw)
 exact Sa0 hv.w (by rw[Int.zero_mul];omega)⟩
end Go.Ev.Ce
namespace Go.Ev.Ce
open Go Go.Ev Go.Ev.L Go.Proofs
theorem Te0 {p:Pln} {x:Pt} (hp:Bd p) (hx:Okx x):rm p x=rmZ p x:=by
 unfold rm rmZ
 obtain⟨w1,w2,⟨a1,a2⟩,⟨a3,a4⟩,a5,a6⟩:=hx
 have h0:=mb hp.b1 hp.b2 (show -600000000000≤x.pw by omega) w2
 have h1:=mb hp.x1 hp.x2 a1 a2
 have h2:=mb hp.y1 hp.y2 a3 a4
 have h3:=mb hp.z1 hp.z2 a5 a6
 exact ga3 (by omega) (by omega)
theorem ie8 {r:List Pln} (hb:Bds r) {x:Pt} (hx:Okx x):inn r x=true↔Inr r x:=by
 unfold inn
 rw[List.all_eq_true]
 constructor
 ·intro h
  refine⟨hx.w1,fun p hp=>?_⟩
  have:=h p hp
  rw[Te0 (hb p hp) hx] at this
  simpa using this
 ·intro h p hp
  rw[Te0 (hb p hp) hx]
  simpa using h.h p hp
theorem bf5 {p q s:Pln} (h:(mpt p q s).2=true):mw p q s≠0∧∃ k:Int,k≠0∧k*(mpt p q s).1.px=(mv p q s).x∧k*(mpt p q s).1.py=(mv p q s).y∧k*(mpt p q s).1.pz=(mv p q s).z∧k*(mpt p q s).1.pw=mw p q s:=by
 unfold mpt at h ⊢
 by_cases h0:mw p q s=0
 ·rw[if_pos h0] at h;cases h
 refine⟨h0,?_⟩
 have hg:=zd5 (v:=mv p q s) h0
 have dv:∀ {x:Int},(gc (mv p q s) (mw p q s))∣x→gc (mv p q s) (mw p q s)*Int.tdiv x (gc (mv p q s) (mw p q s))=x:=fun h=>Int.mul_tdiv_cancel' h
 have d1:gc (mv p q s) (mw p q s)∣(mv p q s).x:=by
  rw[← Int.dvd_natAbs];exact Int.natCast_dvd_natCast.2 (Nat.dvd_trans (Nat.gcd_dvd_left _ _) (Nat.gcd_dvd_left _ _))
 have d2:gc (mv p q s) (mw p q s)∣(mv p q s).y:=by
  rw[← Int.dvd_natAbs];exact Int.natCast_dvd_natCast.2 (Nat.dvd_trans (Nat.gcd_dvd_left _ _) (Nat.gcd_dvd_right _ _))
 have d3:gc (mv p q s) (mw p q s)∣(mv p q s).z:=by
  rw[← Int.dvd_natAbs];exact Int.natCast_dvd_natCast.2 (Nat.dvd_trans (Nat.gcd_dvd_right _ _) (Nat.gcd_dvd_left _ _))
 have d4:gc (mv p q s) (mw p q s)∣mw p q s:=by
  rw[← Int.dvd_natAbs];exact Int.natCast_dvd_natCast.2 (Nat.dvd_trans (Nat.gcd_dvd_right _ _) (Nat.gcd_dvd_right _ _))
 rw[if_neg h0]
 by_cases h1:mw p q s < 0
 ·rw[if_pos h1]
  have e:∀ {x:Int},(gc (mv p q s) (mw p q s))∣x→-(gc (mv p q s) (mw p q s))*Int.tdiv (-x) (gc (mv p q s) (mw p q s))=x:=fun {x} h=>by
   rw[Int.neg_mul,dv ((Int.dvd_neg).2 h),Int.neg_neg]
  exact⟨-(gc (mv p q s) (mw p q s)),by omega,e d1,e d2,e d3,e d4⟩
 ·rw[if_neg h1]
  exact⟨gc (mv p q s) (mw p q s),by omega,dv d1,dv d2,dv d3,dv d4⟩
theorem Ee5 {p q s:Pln} (h:(mpt p q s).2=true):rmZ p (mpt p q s).1=0∧rmZ q (mpt p q s).1=0∧rmZ s (mpt p q s).1=0:=by
 obtain⟨_,k,hk,e1,e2,e3,e4⟩:=bf5 h
 generalize (mpt p q s).1=x at *
 have f:∀ a:Pln,a.b*mw p q s - (a.n.x*(mv p q s).x+a.n.y*(mv p q s).y+a.n.z*(mv p q s).z)=0→rmZ a x=0:=fun a ha=>by
  rw[← e1,← e2,← e3,← e4] at ha
  have:k*rmZ a x=0:=by rw[← ha];unfold rmZ;grind
  exact (Int.mul_eq_zero.1 this).resolve_left hk
 refine⟨f p ?_,f q ?_,f s ?_⟩<;>(simp only[mw,mv,dot,f7];grind)
theorem Te1 {p q s:Pln} (h:mw p q s≠0):(mpt p q s).2=true:=by
 unfold mpt
 rw[if_neg h]
 split<;>rfl
theorem Ee6 {p q s:Pln} {x:Pt} (h1:rmZ p x=0) (h2:rmZ q x=0) (h3:rmZ s x=0):mw p q s*x.px=(mv p q s).x*x.pw∧mw p q s*x.py=(mv p q s).y*x.pw∧mw p q s*x.pz=(mv p q s).z*x.pw:=by
 have i1:(mv p q s).x*x.pw - mw p q s*x.px=(f7 q.n s.n).x*rmZ p x+(f7 s.n p.n).x*rmZ q x+(f7 p.n q.n).x*rmZ s x:=by simp only[mw,mv,dot,f7,rmZ];grind
 have i2:(mv p q s).y*x.pw - mw p q s*x.py=(f7 q.n s.n).y*rmZ p x+(f7 s.n p.n).y*rmZ q x+(f7 p.n q.n).y*rmZ s x:=by simp only[mw,mv,dot,f7,rmZ];grind
 have i3:(mv p q s).z*x.pw - mw p q s*x.pz=(f7 q.n s.n).z*rmZ p x+(f7 s.n p.n).z*rmZ q x+(f7 p.n q.n).z*rmZ s x:=by simp only[mw,mv,dot,f7,rmZ];grind
 rw[h1,h2,h3] at i1 i2 i3
 simp only[Int.mul_zero,Int.add_zero] at i1 i2 i3
 omega
theorem jf5 {p q s:Pln} {x v:Pt} (h:mw p q s≠0) (h1:rmZ p x=0) (h2:rmZ q x=0) (h3:rmZ s x=0) (k1:rmZ p v=0) (k2:rmZ q v=0) (k3:rmZ s v=0):Eqv x v:=by
 obtain⟨a1,a2,a3⟩:=Ee6 h1 h2 h3
 obtain⟨c1,c2,c3⟩:=Ee6 k1 k2 k3
 have f:∀ {a c m:Int},mw p q s*a=m*x.pw→mw p q s*c=m*v.pw→a*v.pw=c*x.pw:=fun {a c m} ha hc=>by
  have:mw p q s*(a*v.pw - c*x.pw)=0:=by grind
  have:=(Int.mul_eq_zero.1 this).resolve_left h
  omega
 exact⟨f a1 c1,f a2 c2,f a3 c3⟩
theorem qe3 {r:List Pln} {p q:Pln} {out:List Pt} {s:Pln} {x:Pt} (h:x∈out):x∈Na7 r p q out s:=by
 unfold Na7
 split
 ·exact List.mem_append_left _ h
 ·exact h
theorem Xc7 {r:List Pln} {p q:Pln} {x:Pt}:∀ {l:List Pln} {out:List Pt},x∈out→x∈Kb6 r p q l out
 | [],_,h=>h
 | s::l,out,h=>Xc7 (l:=l) (out:=Na7 r p q out s) (qe3 h)
theorem jc5 {r:List Pln} {p:Pln} {x:Pt}:∀ {l:List Pln} {out:List Pt},x∈out→x∈qb5 r p l out
 | [],_,h=>h
 | _::l,_,h=>jc5 (l:=l) (Xc7 h)
theorem Pd9 {r:List Pln} {x:Pt}:∀ {l:List Pln} {out:List Pt},x∈out→x∈tc4 r l out
 | [],_,h=>h
 | _::l,_,h=>Pd9 (l:=l) (jc5 h)
theorem qe4 {r:List Pln} {p q:Pln} {out:List Pt} {s:Pln} (h1:(mpt p q s).2=true) (h2:inn r (mpt p q s).1=true):(mpt p q s).1∈Na7 r p q out s:=by
 unfold Na7
 rw[h1,h2]
 cases h:Wc2 out (mpt p q s).1 with
 | true=>simpa using (Ae8 _ _).1 h
 | false=>simp
theorem Xc8 {r:List Pln} {p q s:Pln} (h1:(mpt p q s).2=true) (h2:inn r (mpt p q s).1=true):∀ {l:List Pln} {out:List Pt},s∈l→(mpt p q s).1∈Kb6 r p q l out
 | [],_,h=>by cases h
 | t::l,out,h=>by
  show _∈Kb6 r p q l (Na7 r p q out t)
  rcases List.mem_cons.1 h with rfl | h
  ·exact Xc7 (qe4 h1 h2)
  ·exact Xc8 h1 h2 h
structure Hit (r:List Pln) (Q:Pt→Prop) (p q s:Pln):Prop where
 h1:(mpt p q s).2=true
 h2:inn r (mpt p q s).1=true
 h3:Q (mpt p q s).1
theorem Qd0 {r:List Pln} {Q:Pt→Prop} {p q s:Pln} (hq:Hit r Q p q s) (hs:Hit r Q p s q) (hne:q≠s):∀ {l:List Pln} {out:List Pt},q∈l→s∈l→∃ x∈qb5 r p l out,Q x
 | [],_,h,_=>by cases h
 | t::l,out,hql,hsl=>by
  show ∃ x∈qb5 r p l (Kb6 r p t l out),Q x
  rcases List.mem_cons.1 hql with rfl | h1
  ·have h2:=(List.mem_cons.1 hsl).resolve_left fun h=>hne h.symm
   exact⟨_,jc5 (Xc8 hq.h1 hq.h2 h2),hq.h3⟩
  ·rcases List.mem_cons.1 hsl with rfl | h2
   ·exact⟨_,jc5 (Xc8 hs.h1 hs.h2 h1),hs.h3⟩
   ·exact Qd0 hq hs hne (l:=l) h1 h2
theorem Qd1 {r : List Pln} {Q : Pt → Prop} {p q s : Pln} (H : ∀ a c d, (a = p ∨ a = q ∨ a = s) → (c = p ∨ c = q ∨ c = s) → (d = p ∨ d = q ∨ d = s) → a ≠ c → c ≠ d → a ≠ d → Hit r Q a c d) (h1 : p ≠ q) (h2 : q ≠ s) (h3 : p ≠ s) :
  ∀ {l:List Pln} {out:List Pt},p∈l→q∈l→s∈l→∃ x∈tc4 r l out,Q x
 | [],_,h,_,_=>by cases h
 | t::l,out,hp,hq,hs=>by
  have fin:∀ {a c d:Pln} {out:List Pt},(a=p∨a=q∨a=s)→(c=p∨c=q∨c=s)→(d=p∨d=q∨d=s)→a≠c→c≠d→a≠d→c∈l→d∈l→∃ x∈tc4 r l (qb5 r a l out),Q x:=fun ha hc hd n1 n2 n3 m1 m2=>by
   obtain⟨x,hx,hQ⟩:=Qd0 (H _ _ _ ha hc hd n1 n2 n3) (H _ _ _ ha hd hc n3 n2.symm n1) n2 (out:=_) m1 m2
   exact⟨x,Pd9 hx,hQ⟩
  show ∃ x∈tc4 r l (qb5 r t l out),Q x
  rcases List.mem_cons.1 hp with rfl | hp'
  ·exact fin (.inl rfl) (.inr (.inl rfl)) (.inr (.inr rfl)) h1 h2 h3 ((List.mem_cons.1 hq).resolve_left (Ne.symm h1)) ((List.mem_cons.1 hs).resolve_left (Ne.symm h3))
  ·rcases List.mem_cons.1 hq with rfl | hq'
   ·exact fin (.inr (.inl rfl)) (.inl rfl) (.inr (.inr rfl)) (Ne.symm h1) h3 h2 hp' ((List.mem_cons.1 hs).resolve_left (Ne.symm h2))
   ·rcases List.mem_cons.1 hs with rfl | hs'
    ·exact fin (.inr (.inr rfl)) (.inl rfl) (.inr (.inl rfl)) (Ne.symm h3) h1 (Ne.symm h2) hp' hq'
    ·exact Qd1 H h1 h2 h3 hp' hq' hs'
theorem vf1 {p q s:Pln} (h:mw p q s≠0):p≠q∧q≠s∧p≠s:=by
 refine⟨fun e=>h ?_,fun e=>h ?_,fun e=>h ?_⟩<;>(subst e;simp only[mw,dot,f7];grind)
theorem jf6 {r:List Pln} (hb:Bds r):∀ x∈cor r,Cn r x:=he9 fun p hp q hq s hs h hi=>by
 obtain⟨w1,w2,w3,w4,w5⟩:=ae2 (hb p hp) (hb q hq) (hb s hs) h
 obtain⟨e1,e2,e3⟩:=Ee5 h
 exact⟨(ie8 hb ⟨w1,w5,w2,w3,w4⟩).1 hi,p,q,s,hp,hq,hs,(bf5 h).1,e1,e2,e3⟩
theorem jf7 {r:List Pln} (hb:Bds r) {v:Pt} (hv:Cn r v):∃ x∈cor r,Eqv x v:=by
 obtain⟨p,q,s,hp,hq,hs,hw,e1,e2,e3⟩:=hv.c
 obtain⟨n1,n2,n3⟩:=vf1 hw
 refine Qd1 (fun a c d ha hc hd m1 m2 m3=>?_) n1 n2 n3 hp hq hs
 have hm:∀ {a},(a=p∨a=q∨a=s)→a∈r∧rmZ a v=0:=fun h=>by
  rcases h with rfl | rfl | rfl
  ·exact⟨hp,e1⟩
  ·exact⟨hq,e2⟩
  ·exact⟨hs,e3⟩
 have hw':mw a c d≠0:=by
  have k:mw a c d=mw p q s∨mw a c d=-mw p q s:=by
   rcases ha with rfl | rfl | rfl<;>rcases hc with rfl | rfl | rfl<;>rcases hd with rfl | rfl | rfl<;>first | exact absurd rfl m1 | exact absurd rfl m2 | exact absurd rfl m3 | exact .inl rfl | (left;simp only[mw,dot,f7];grind;done) | (right;simp only[mw,dot,f7];grind;done)
  rcases k with k | k<;>omega
 have h:=Te1 hw'
 obtain⟨w1,w2,w3,w4,w5⟩:=ae2 (hb a (hm ha).1) (hb c (hm hc).1) (hb d (hm hd).1) h
 obtain⟨f1,f2,f3⟩:=Ee5 h
 have he:=jf5 hw' f1 f2 f3 (hm ha).2 (hm hc).2 (hm hd).2
 exact⟨h,(ie8 hb ⟨w1,w5,w2,w3,w4⟩).2 (he.inr w1 hv.toInr),he⟩
theorem jf8 (c:List Pln):Bdd (c++ws):=fun d hd=>by
 have k:∀ {n:V3} {m:Int},(⟨n,m⟩:Pln)∈ws→0 < dot n d→∃ p∈c++ws,0 < dot p.n d:=fun h h'=>⟨_,List.mem_append_right _ h,h'⟩
 by_cases h1:0 < d.x
 ·exact k (n:=⟨1,0,0⟩) (m:=24) (by simp[ws]) (by unfold dot;simp;omega)
 by_cases h2:d.x < 0
 ·exact k (n:=⟨-1,0,0⟩) (m:=24) (by simp[ws]) (by unfold dot;simp;omega)
 by_cases h3:0 < d.y
 ·exact k (n:=⟨0,1,0⟩) (m:=24) (by simp[ws]) (by unfold dot;simp;omega)
 by_cases h4:d.y < 0
 ·exact k (n:=⟨0,-1,0⟩) (m:=24) (by simp[ws]) (by unfold dot;simp;omega)
 by_cases h5:0 < d.z
 ·exact k (n:=⟨0,0,1⟩) (m:=24) (by simp[ws]) (by unfold dot;simp;omega)
 by_cases h6:d.z < 0
 ·exact k (n:=⟨0,0,-1⟩) (m:=24) (by simp[ws]) (by unfold dot;simp;omega)
 exact absurd (V3.ext' (by show d.x=0;omega) (by show d.y=0;omega) (by show d.z=0;omega)) hd
theorem ie9 {r:List Pln} (hb:Bds r) {p:Pln} (hp:Bd p):pos (cor r) p=true↔∃ v,Cn r v∧0 < rmZ p v:=by
 unfold pos
 rw[List.any_eq_true]
 constructor
 ·rintro⟨x,hx,h⟩
  rw[Te0 hp (zd8 hb x hx)] at h
  exact⟨x,jf6 hb x hx,by simpa using h⟩
 ·rintro⟨v,hv,h⟩
  obtain⟨x,hx,he⟩:=jf7 hb hv
  refine⟨x,hx,?_⟩
  rw[Te0 hp (zd8 hb x hx)]
  have h1:=he.rm p
  have h2:=Int.mul_pos h (zd8 hb x hx).w1
  have:0 < rmZ p x:=Int.lt_of_mul_lt_mul_right (by rw[Int.zero_mul];omega:0*v.pw < rmZ p x*v.pw) (Int.le_of_lt hv.w)
  simpa using this
theorem qe5 {r:List Pln} (hb:Bds r) (hd:Bdd r) (h0:r≠[]):ae5 r=true↔jf4 r:=by
 rw[Ee4 hd h0]
 unfold ae5
 rw[List.all_eq_true]
 exact⟨fun h p hp=>(ie9 hb (hb p hp)).1 (h p hp),fun h p hp=>(ie9 hb (hb p hp)).2 (h p hp)⟩
end Go.Ev.Ce
namespace Go.Ev.Ce
def dv (z v:Pt):V3:=⟨v.px*z.pw - z.px*v.pw,v.py*z.pw - z.py*v.pw,v.pz*z.pw - z.pz*v.pw⟩
end Go.Ev.Ce
namespace Go.Ev.Ce
open Go Go.Ev Go.Ev.L Go.Proofs
def phP (out:List Pln):Nat:=match out with
 | []=>0
 | _::_=>1
end Go.Ev.Ce
namespace Go.Ev.Ce
open Go Go.Ev Go.Ev.L Go.Proofs
def sa4 (p:Pln) (v:V3):Int:=if okp p&&inV v then (if dot p.n v - p.b < 0 then -1 else if dot p.n v - p.b > 0 then 1 else 0) else 0
theorem jf9 {p:Pln} {v:V3} (hp:Bd p) (hv:inV v=true):Sm 331776 (dot p.n v):=by
 obtain⟨⟨a1,a2⟩,⟨a3,a4⟩,a5,a6⟩:=(Ab3 v).1 hv
 have r1:=mb hp.x1 hp.x2 a1 a2;have r2:=mb hp.y1 hp.y2 a3 a4;have r3:=mb hp.z1 hp.z2 a5 a6
 unfold Sm dot
 omega
theorem Qd2 {p:Pln} {v:V3} (hp:okp p=true) (hv:inV v=true):sa4 p v > 0↔dot p.n v > p.b:=by
 unfold sa4
 rw[hp,hv]
 simp only[Bool.and_self,if_true]
 split
 ·omega
 ·split<;>omega
theorem qd3 {p:Pln} {v:V3} (hp:okp p=true) (hv:inV v=true):sa4 p v=0↔dot p.n v=p.b:=by
 unfold sa4
 rw[hp,hv]
 simp only[Bool.and_self,if_true]
 split
 ·omega
 ·split<;>omega
theorem kf0 (v:V3):g3 v∣v.x∧g3 v∣v.y∧g3 v∣v.z:=by
 unfold g3
 refine⟨?_,?_,?_⟩<;>rw[← Int.dvd_natAbs]<;>apply Int.natCast_dvd_natCast.2
 ·exact Nat.dvd_trans (Nat.gcd_dvd_left _ _) (Nat.gcd_dvd_left _ _)
 ·exact Nat.dvd_trans (Nat.gcd_dvd_left _ _) (Nat.gcd_dvd_right _ _)
 ·exact Nat.gcd_dvd_right _ _
theorem kf1 (v:V3) (h:g3 v≠0):g3 ⟨Int.tdiv v.x (g3 v),Int.tdiv v.y (g3 v),Int.tdiv v.z (g3 v)⟩=1:=by
 generalize hg:g3 v=g at *
 have h0:0≤g:=hg ▸ Ob7 v
 obtain⟨n,rfl⟩:∃ n:Nat,g=n:=⟨g.toNat,by omega⟩
 have hn:0 < n:=by omega
 have hgn:Nat.gcd (Nat.gcd v.x.natAbs v.y.natAbs) v.z.natAbs=n:=by unfold g3 at hg;omega
 have d1:n∣Nat.gcd v.x.natAbs v.y.natAbs:=hgn ▸ Nat.gcd_dvd_left _ _
 have d3:n∣v.z.natAbs:=hgn ▸ Nat.gcd_dvd_right _ _
 have d4:n∣v.x.natAbs:=Nat.dvd_trans d1 (Nat.gcd_dvd_left _ _)
 have d5:n∣v.y.natAbs:=Nat.dvd_trans d1 (Nat.gcd_dvd_right _ _)
 unfold g3
 simp only[Int.natAbs_tdiv,Int.natAbs_natCast]
 show ((Nat.gcd (Nat.gcd (v.x.natAbs / n) (v.y.natAbs / n)) (v.z.natAbs / n):Nat):Int)=1
 rw[Nat.gcd_div d4 d5,Nat.gcd_div d1 d3,hgn,Nat.div_self hn]
 rfl
structure Thr (a b c:V3) (p:Pln):Prop where
 ok:okp p=true
 k:∃ g:Int,0 < g∧g*p.n.x=(f7 (sub b a) (sub c a)).x∧g*p.n.y=(f7 (sub b a) (sub c a)).y∧g*p.n.z=(f7 (sub b a) (sub c a)).z
 o:p.b=dot p.n a
theorem Sa1 {a b c:V3} (h:(K0 a b c).2=true):(inV a=true∧inV b=true∧inV c=true)∧Thr a b c (K0 a b c).1:=by
 unfold K0 at h ⊢
 cases ha:inV a with
 | false=>rw[ha] at h;cases h
 | true =>
  cases hb:inV b with
  | false=>rw[ha,hb] at h;cases h
  | true =>
   cases hc:inV c with
   | false=>rw[ha,hb,hc] at h;cases h
   | true =>
    rw[ha,hb,hc] at h
    simp only[Bool.and_self,if_true] at h ⊢
    obtain⟨_,k1,k2,k3⟩:=qb6 ha hb hc
    generalize hn:f7 (sub b a) (sub c a)=n at *
    by_cases h0:g3 n=0
    ·rw[if_pos h0] at h;cases h
    ·rw[if_neg h0]
     have hp:=Ob7 n
     obtain⟨d1,d2,d3⟩:=kf0 n
     have q1:=K9 (g:=g3 n) k1 (by omega)
     have q2:=K9 (g:=g3 n) k2 (by omega)
     have q3:=K9 (g:=g3 n) k3 (by omega)
     refine⟨⟨trivial,trivial,trivial⟩,⟨?_,⟨g3 n,by omega,by rw[hn];exact Int.mul_tdiv_cancel' d1,by rw[hn];exact Int.mul_tdiv_cancel' d2,by rw[hn];exact Int.mul_tdiv_cancel' d3⟩,rfl⟩⟩
     obtain⟨⟨a1,a2⟩,⟨a3,a4⟩,a5,a6⟩:=(Ab3 a).1 ha
     have r1:=mb q1.1 q1.2 a1 a2;have r2:=mb q2.1 q2.2 a3 a4;have r3:=mb q3.1 q3.2 a5 a6
     unfold okp
     rw[kf1 n h0]
     simp only[List.all_cons,List.all_nil,Bool.and_true,Bool.and_eq_true,ab3,beq_self_eq_true,true_and,and_true]
     refine⟨⟨q1,q2,q3⟩,?_⟩
     unfold Sm dot
     simp only
     omega
theorem Te2 (a b c:V3):Bd (K0 a b c).1:=by
 cases h:(K0 a b c).2 with
 | true=>exact qb4 (Sa1 h).2.ok
 | false =>
  have:(K0 a b c).1=⟨⟨0,0,0⟩,0⟩:=by
   unfold K0 at h ⊢
   split
   ·rename_i hc
    rw[if_pos hc] at h
    split
    ·rfl
    ·rename_i h0;rw[if_neg h0] at h;cases h
   ·rfl
  rw[this]
  constructor<;>simp
theorem jc6 {p:Pln} (h:okp p=true):okp (sa3 p)=true:=by
 unfold okp sa3 g3 at *
 simp only[List.all_cons,List.all_nil,Bool.and_true,Bool.and_eq_true,ab3,Int.natAbs_neg] at h ⊢
 obtain⟨⟨h1,h2,h3⟩,h4,h5⟩:=h
 exact⟨⟨h1.neg,h2.neg,h3.neg⟩,h4,h5.neg⟩
noncomputable def Gf6 (l:List V3) (p:Pln):Bool:=l.any fun v=>sa4 p v != 0
noncomputable def nf (l:List V3) (a c k:Nat):Bool:=(K0 (gL tV l a) (gL tV l c) (gL tV l k)).2&&Gf6 l (K0 (gL tV l a) (gL tV l c) (gL tV l k)).1
noncomputable def nf2 (l:List V3) (a c:Nat):Bool:=(List.range c).any (nf l a c)
noncomputable def nf1 (l:List V3) (a:Nat):Bool:=(List.range a).any (nf2 l a)
noncomputable def nf0 (l:List V3):Bool:=(List.range l.length).any (nf1 l)
theorem Ee7 {σ : Type} {step : σ → Stp σ} {mk : Nat → σ} (n : Nat) (c : Nat → Bool) (u fin : Nat) (hn : n ≤ 1000000000) (h : ∀ j, j < n → step (mk j) = sl (c j) (.exit u) (.next (mk (j + 1)))) (hf : step (mk n) = .exit fin) :
  ∃ j,lp step (mk 0)=(if (List.range n).any c then u else fin,mk j):=by
 have key:=U0 (step:=step) (mk:=fun j (_:Unit)=>mk j) n (fun j _=>j≤n∧∀ i,i < j→c i=false) (fun t s=>t=(if (List.range n).any c then u else fin)∧∃ j,s=mk j) hn
  (fun j _ hj hi=>by
   rw[h j hj]
   refine Nx.sl (fun hc=>.ex ⟨?_,j,rfl⟩) (fun hc=>.nx ⟨(),rfl,by omega,fun i hi'=>?_⟩)
   ·rw[if_pos (List.any_eq_true.2 ⟨j,List.mem_range.2 hj,hc⟩)]
   ·by_cases e:i=j
    ·rw[e];exact hc
    ·exact hi.2 i (by omega))
  (fun j _ hj hi=>by
   have e:j=n:=by omega
   subst e
   refine⟨fin,hf,?_,j,rfl⟩
   rw[if_neg fun hh=>?_]
   obtain⟨i,hi1,hi2⟩:=List.any_eq_true.1 hh
   rw[hi.2 i (List.mem_range.1 hi1)] at hi2
   cases hi2) 0 () ⟨by omega,by omega⟩
 obtain⟨t,s,h1,rfl,j,rfl⟩:=key
 exact⟨j,h1⟩
def hold (p:Pln) (l:List V3):Bool:=!l.any fun v=>decide (sa4 p v > 0)
end Go.Ev.Ce
namespace Go.Ev.Ce
open Go Go.Ev Go.Ev.L Go.Proofs
noncomputable def Qd3 (l:List V3) (a c:Nat) (out:List Pln) (k:Nat):List Pln :=
  if (K0 (gL tV l a) (gL tV l c) (gL tV l k)).2 then
    (if hold (sa3 (K0 (gL tV l a) (gL tV l c) (gL tV l k)).1) l then Ad3 (if hold (K0 (gL tV l a) (gL tV l c) (gL tV l k)).1 l then Ad3 out (K0 (gL tV l a) (gL tV l c) (gL tV l k)).1 else out) (sa3 (K0 (gL tV l a) (gL tV l c) (gL tV l k)).1)
     else (if hold (K0 (gL tV l a) (gL tV l c) (gL tV l k)).1 l then Ad3 out (K0 (gL tV l a) (gL tV l c) (gL tV l k)).1 else out))
  else out
noncomputable def F2 (l:List V3) (a:Nat) (out:List Pln) (c:Nat):List Pln:=(List.range c).foldl (Qd3 l a c) out
noncomputable def F1 (l:List V3) (out:List Pln) (a:Nat):List Pln:=(List.range a).foldl (F2 l a) out
noncomputable def F0 (l:List V3):List Pln:=(List.range l.length).foldl (F1 l) []
theorem H4 {τ:Type} (f:τ→Nat→τ) (a:τ) (n:Nat):(List.range (n+1)).foldl f a=f ((List.range n).foldl f a) n:=by
  rw[List.range_succ,List.foldl_append];rfl
theorem Xc9 {f:List Pln→Nat→List Pln} {m:Nat} (h:∀ o k,(f o k).length≤o.length+m) (o:List Pln):∀ n,((List.range n).foldl f o).length≤o.length+m*n
  | 0=>Nat.le_refl _
  | n+1=>by
    rw[H4]
    have h1:=h ((List.range n).foldl f o) n
    have h2:=Xc9 h o n
    rw[Nat.mul_succ]
    omega
end Go.Ev.Ce
namespace Go.Ev.Ce
open Go Go.Ev Go.Ev.L Go.Proofs
def jc7 (l:List Pln) (p:Pln):Bool:=l.any fun q=>eqP q p
theorem Qd4 (l:List Pln) (p:Pln):jc7 l p=true↔p∈l:=by
 unfold jc7
 rw[List.any_eq_true]
 exact⟨fun⟨q,h,e⟩=>by rw[jc1] at e;exact e ▸ h,fun h=>⟨p,h,(jc1 p p).2 rfl⟩⟩
end Go.Ev.Ce
namespace Go.Ev.Ce
open Go Go.Ev Go.Ev.L Go.Proofs
theorem be1 {p:Pln} (h:okp p=true):g3 p.n=1:=by
 unfold okp at h
 simp only[Bool.and_eq_true,beq_iff_eq] at h
 exact h.2.1
theorem Ee8 {p:Pln} (h:okp p=true):p.n≠⟨0,0,0⟩:=fun e=>by
 have:=be1 h
 rw[e] at this
 revert this
 decide
theorem Ee9 (c:Int) (n:V3):g3 ⟨c*n.x,c*n.y,c*n.z⟩=c.natAbs*g3 n:=by
 unfold g3
 simp only[Int.natAbs_mul,Nat.gcd_mul_left]
 rw[Int.natCast_mul]
theorem Fe0 {m n:V3} (hm:g3 m=1) (hn:g3 n=1) (h:f7 m n=⟨0,0,0⟩):n=m∨n=neg m:=by
 unfold f7 at h
 simp only[V3.mk.injEq] at h
 obtain⟨c1,c2,c3⟩:=h
 have k:∀ {c d:Int},c*m.x=d*n.x→c*m.y=d*n.y→c*m.z=d*n.z→c.natAbs=d.natAbs:=fun {c d} e1 e2 e3=>by
  have a1:=Ee9 c m
  have a2:=Ee9 d n
  rw[e1,e2,e3,a2,hm,hn] at a1
  omega
 have ax:=k (c:=n.x) (d:=m.x) (by grind) (by grind) (by grind)
 have ay:=k (c:=n.y) (d:=m.y) (by grind) (by grind) (by grind)
 have az:=k (c:=n.z) (d:=m.z) (by grind) (by grind) (by grind)
 have sg:∀ {a c:Int},a.natAbs=c.natAbs→a=c∨a=-c:=fun h=>by omega
 -- the sign of one component that is not zero is that of all
 have go:∀ {s u t v:Int},u≠0→s*v=u*t→s=u→t=v:=fun {s u t v} hu h e=>by
  subst e
  exact (Int.eq_of_mul_eq_mul_left hu h).symm
 have gn:∀ {s u t v:Int},u≠0→s*v=u*t→s=-u→t=-v:=fun {s u t v} hu h e=>by
  subst e
  have:u*t=u*(-v):=by rw[← h];grind
  exact Int.eq_of_mul_eq_mul_left hu this
 by_cases hx:m.x=0
 ·have hx':n.x=0:=by omega
  by_cases hy:m.y=0
  ·have hy':n.y=0:=by omega
   rcases sg az with e | e
   ·exact .inl (V3.ext' (by omega) (by omega) e)
   ·exact .inr (V3.ext' (by show n.x=-m.x;omega) (by show n.y=-m.y;omega) e)
  ·rcases sg ay with e | e
   ·exact .inl (V3.ext' (by omega) e (go hy (by grind) e))
   ·exact .inr (V3.ext' (by show n.x=-m.x;omega) e (gn hy (by grind) e))
 ·rcases sg ax with e | e
  ·exact .inl (V3.ext' e (go hx (by grind) e) (go hx (by grind) e))
  ·exact .inr (V3.ext' e (gn hx (by grind) e) (gn hx (by grind) e))
structure If2 (l:List V3):Prop where
 h:∃ a c k v,a∈l∧c∈l∧k∈l∧v∈l∧dot (f7 (sub c a) (sub k a)) (sub v a)≠0
theorem gLm {l:List V3} {j:Nat} (h:j < l.length):gL tV l j∈l:=Uc5 tV h
theorem ub6 {p:Pln} {l:List V3} (hp:okp p=true) (hl:l.all inV=true):hold p l=true↔∀ v∈l,dot p.n v≤p.b:=by
 unfold hold
 rw[Bool.not_eq_true',← Bool.not_eq_true,List.any_eq_true]
 constructor
 ·intro h v hv
  have h1:¬ sa4 p v > 0:=fun h'=>h ⟨v,hv,by simpa using h'⟩
  rw[Qd2 hp (List.all_eq_true.1 hl v hv)] at h1
  omega
 ·rintro h ⟨v,hv,h1⟩
  have h1:sa4 p v > 0:=by simpa using h1
  rw[Qd2 hp (List.all_eq_true.1 hl v hv)] at h1
  have:=h v hv
  omega
structure Fct (l:List V3) (p:Pln):Prop where
 ok:okp p=true
 hd:hold p l=true
theorem Yc0 (p:Pln) (v:V3):dot (sa3 p).n v=-dot p.n v:=by unfold dot sa3;grind
theorem qe6 (l : List V3) (a c k : Nat) (out : List Pln) (p : Pln) : p ∈ Qd3 l a c out k ↔ p ∈ out ∨ ((K0 (gL tV l a) (gL tV l c) (gL tV l k)).2 = true ∧
  ((p=(K0 (gL tV l a) (gL tV l c) (gL tV l k)).1∧hold p l=true)∨(p=sa3 (K0 (gL tV l a) (gL tV l c) (gL tV l k)).1∧hold p l=true))):=by
 unfold Qd3
 generalize K0 (gL tV l a) (gL tV l c) (gL tV l k)=T
 cases h2:T.2 with
 | false=>simp
 | true =>
  simp only[if_true]
  cases h4:hold (sa3 T.1) l with
  | false =>
   simp only[Bool.false_eq_true,if_false]
   cases h3:hold T.1 l with
   | false =>
    simp only[Bool.false_eq_true,if_false]
    constructor
    ·exact fun h=>.inl h
    ·rintro (h | ⟨_,⟨rfl,h⟩ | ⟨rfl,h⟩⟩)
     ·exact h
     ·rw[h3] at h;cases h
     ·rw[h4] at h;cases h
   | true =>
    simp only[if_true,Kb9]
    constructor
    ·rintro (rfl | h)
     ·exact .inr ⟨trivial,.inl ⟨rfl,h3⟩⟩
     ·exact .inl h
    ·rintro (h | ⟨_,⟨rfl,h⟩ | ⟨rfl,h⟩⟩)
     ·exact .inr h
     ·exact .inl rfl
     ·rw[h4] at h;cases h
  | true =>
   simp only[if_true,Kb9]
   cases h3:hold T.1 l with
   | false =>
    simp only[Bool.false_eq_true,if_false]
    constructor
    ·rintro (rfl | h)
     ·exact .inr ⟨trivial,.inr ⟨rfl,h4⟩⟩
     ·exact .inl h
    ·rintro (h | ⟨_,⟨rfl,h⟩ | ⟨rfl,h⟩⟩)
     ·exact .inr h
     ·rw[h3] at h;cases h
     ·exact .inl rfl
   | true =>
    simp only[if_true,Kb9]
    constructor
    ·rintro (rfl | rfl | h)
     ·exact .inr ⟨trivial,.inr ⟨rfl,h4⟩⟩
     ·exact .inr ⟨trivial,.inl ⟨rfl,h3⟩⟩
     ·exact .inl h
    ·rintro (h | ⟨_,⟨rfl,h⟩ | ⟨rfl,h⟩⟩)
     ·exact .inr (.inr h)
     ·exact .inr (.inl rfl)
     ·exact .inl rfl
theorem ib6 {f:List Pln→Nat→List Pln} {Q:Nat→Pln→Prop} (h:∀ o k p,p∈f o k↔p∈o∨Q k p) (o:List Pln) (p:Pln):∀ n,p∈(List.range n).foldl f o↔p∈o∨∃ k,k < n∧Q k p
 | 0=>by simp
 | n+1=>by
  rw[H4,h,ib6 h o p n]
  constructor
  ·rintro ((h | ⟨k,hk,h⟩) | h)
   ·exact .inl h
   ·exact .inr ⟨k,by omega,h⟩
   ·exact .inr ⟨n,by omega,h⟩
  ·rintro (h | ⟨k,hk,h⟩)
   ·exact .inl (.inl h)
   ·by_cases e:k=n
    ·subst e;exact .inr h
    ·exact .inl (.inr ⟨k,by omega,h⟩)
def Fq (l : List V3) (a c k : Nat) (p : Pln) : Prop := (K0 (gL tV l a) (gL tV l c) (gL tV l k)).2 = true ∧
  ((p=(K0 (gL tV l a) (gL tV l c) (gL tV l k)).1∧hold p l=true)∨(p=sa3 (K0 (gL tV l a) (gL tV l c) (gL tV l k)).1∧hold p l=true))
theorem kf2 (l:List V3) (a c:Nat) (out:List Pln) (p:Pln):p∈F2 l a out c↔p∈out∨∃ k,k < c∧Fq l a c k p:=ib6 (fun o k p=>qe6 l a c k o p) out p c
theorem kf3 (l:List V3) (a:Nat) (out:List Pln) (p:Pln):p∈F1 l out a↔p∈out∨∃ c,c < a∧∃ k,k < c∧Fq l a c k p:=ib6 (fun o c p=>kf2 l a c o p) out p a
theorem be2 (l:List V3) (p:Pln):p∈F0 l↔∃ a,a < l.length∧∃ c,c < a∧∃ k,k < c∧Fq l a c k p:=by
 have:=ib6 (fun o a p=>kf3 l a o p) [] p l.length
 simpa [F0] using this
theorem qe7 {l:List V3} {a c:Nat} {out:List Pln} {k:Nat} (h:Ya0 out):Ya0 (Qd3 l a c out k):=by
 unfold Qd3
 split
 ·split
  ·refine jc4 _ ?_
   split
   ·exact jc4 _ h
   ·exact h
  ·split
   ·exact jc4 _ h
   ·exact h
 ·exact h
theorem jc8 {f:List Pln→Nat→List Pln} (h:∀ o k,Ya0 o→Ya0 (f o k)) {o:List Pln} (ho:Ya0 o):∀ n,Ya0 ((List.range n).foldl f o)
 | 0=>ho
 | n+1=>by rw[H4];exact h _ _ (jc8 h ho n)
theorem kf4 {l:List V3} {a c:Nat} {out:List Pln} (h:Ya0 out):Ya0 (F2 l a out c):=jc8 (fun _ _ h=>qe7 h) h c
theorem kf5 {l:List V3} {a:Nat} {out:List Pln} (h:Ya0 out):Ya0 (F1 l out a):=jc8 (fun _ _ h=>kf4 h) h a
theorem kf6 (l:List V3):Ya0 (F0 l):=jc8 (fun _ _ h=>kf5 h) .nil l.length
theorem kf7 {l:List V3} {p:Pln} (hp:p∈F0 l):Fct l p:=by
 obtain⟨a,ha,c,hc,k,hk,h1,⟨h2,h3⟩ | ⟨h2,h3⟩⟩:=(be2 l p).1 hp
 ·exact⟨h2 ▸ (Sa1 h1).2.ok,h3⟩
 ·exact⟨h2 ▸ jc6 (Sa1 h1).2.ok,h3⟩
end Go.Ev.Ce
namespace Go.Ev.Ce
open Go Go.Ev Go.Ev.L Go.Proofs
structure qe8 (c:List Pln):Prop where
 l:c.length≤47
 v:∀ p∈c,okp p=true
 f:jf4 (c++ws)
theorem qe8.chk {c:List Pln} (h:qe8 c):(chk c==0)=true:=by
 rw[beq_iff_eq,Od8]
 exact⟨by have:=h.l;omega,h.v⟩
theorem qe8.bds {c:List Pln} (h:qe8 c):Bds (c++ws):=(he8 h.chk).1
theorem qe8.ful {c:List Pln} (h:qe8 c):ful c=true:=by
 unfold Ce.ful
 rw[h.chk,(qe5 h.bds (jf8 c) (by simp[ws])).2 h.f]
 rfl
end Go.Ev.Ce
namespace Go.Ev.Ce
def V1 (a b:V3):V3:=⟨a.x - b.x,a.y - b.y,a.z - b.z⟩
def N3 (u w x:V3):V3:=f7 (V1 w u) (V1 x u)
def Db3:List V3→V3
 | []=>⟨0,0,0⟩
 | v::l=>⟨v.x+(Db3 l).x,v.y+(Db3 l).y,v.z+(Db3 l).z⟩
def jc9:List Int→Int
 | []=>0
 | x::l=>x+jc9 l
theorem Qd5 (n:V3):∀ l:List V3,dot n (Db3 l)=jc9 (l.map (dot n))
 | []=>by simp[Db3,jc9,dot]
 | v::l=>by
  have:=Qd5 n l
  simp only[List.map_cons,jc9,← this]
  simp only[Db3,dot]
  grind
theorem Qd6 (m s:Int):∀ l:List Int,jc9 (l.map fun a=>m*a - s)=m*jc9 l - s*l.length
 | []=>by simp[jc9]
 | a::l=>by
  have:=Qd6 m s l
  simp only[List.map_cons,jc9,this,List.length_cons]
  grind
theorem yc5:∀ {l:List Int},(∀ a∈l,a≤0)→jc9 l≤0
 | [],_=>by simp[jc9]
 | a::l,h=>by
  have:=yc5 (l:=l) fun x hx=>h x (List.mem_cons_of_mem _ hx)
  have:=h a List.mem_cons_self
  simp only[jc9]
  omega
theorem tc9:∀ {l:List Int},(∀ a∈l,a≤0)→jc9 l=0→∀ a∈l,a=0
 | [],_,_=>fun a ha=>by cases ha
 | a::l,h,h0=>by
  have h1:=yc5 (l:=l) fun x hx=>h x (List.mem_cons_of_mem _ hx)
  have h2:=h a List.mem_cons_self
  simp only[jc9] at h0
  intro b hb
  rcases List.mem_cons.1 hb with rfl | hb
  ·omega
  ·exact tc9 (l:=l) (fun x hx=>h x (List.mem_cons_of_mem _ hx)) (by omega) b hb
def Sol (l:List V3):Prop:=∃ a c k v,a∈l∧c∈l∧k∈l∧v∈l∧dot (N3 a c k) (V1 v a)≠0
theorem Sol.off {l:List V3} (h:Sol l) {n:V3} (hn:n≠⟨0,0,0⟩) (b:Int):∃ v∈l,dot n v≠b:=by
 obtain⟨a,c,k,v,ha,hc,hk,hv,hd⟩:=h
 by_cases h1:dot n a=b
 ·by_cases h2:dot n c=b
  ·by_cases h3:dot n k=b
   ·by_cases h4:dot n v=b
    ·exfalso
     unfold N3 at hd
     generalize hD:dot (f7 (V1 c a) (V1 k a)) (V1 v a)=D at *
     have q1:dot n (V1 c a)=0:=by unfold dot V1 at *;grind
     have q2:dot n (V1 k a)=0:=by unfold dot V1 at *;grind
     have q3:dot n (V1 v a)=0:=by unfold dot V1 at *;grind
     generalize V1 c a=p at *
     generalize V1 k a=q at *
     generalize V1 v a=r at *
     have i1:D*n.x=(f7 q r).x*dot n p+(f7 r p).x*dot n q+(f7 p q).x*dot n r:=by rw[← hD];simp only[dot,f7];grind
     have i2:D*n.y=(f7 q r).y*dot n p+(f7 r p).y*dot n q+(f7 p q).y*dot n r:=by rw[← hD];simp only[dot,f7];grind
     have i3:D*n.z=(f7 q r).z*dot n p+(f7 r p).z*dot n q+(f7 p q).z*dot n r:=by rw[← hD];simp only[dot,f7];grind
     rw[q1,q2,q3] at i1 i2 i3
     have z:∀ {x:Int},D*x=0→x=0:=fun h=>(Int.mul_eq_zero.1 h).resolve_left hd
     exact hn (V3.ext' (z (by omega)) (z (by omega)) (z (by omega)))
    ·exact⟨v,hv,h4⟩
   ·exact⟨k,hk,h3⟩
  ·exact⟨c,hc,h2⟩
 ·exact⟨a,ha,h1⟩
theorem Sol.ne {l:List V3} (h:Sol l):∃ v,v∈l:=by obtain⟨a,_,_,_,ha,_⟩:=h;exact⟨a,ha⟩
structure Fac (l:List V3) (n:V3) (b:Int):Prop where
 hd:∀ v∈l,dot n v≤b
 on:∃ u w x,u∈l∧w∈l∧x∈l∧N3 u w x≠⟨0,0,0⟩∧dot n u=b∧dot n w=b∧dot n x=b
def vf2 (l:List V3) (c:List Pln):Prop:=∀ n b,n≠⟨0,0,0⟩→Fac l n b→∃ s t:Int,0 < s∧0 < t∧∃ q∈c,t*q.n.x=s*n.x∧t*q.n.y=s*n.y∧t*q.n.z=s*n.z∧t*q.b=s*b
def pol (m:Int) (S v:V3):Pln:=⟨⟨m*v.x - S.x,m*v.y - S.y,m*v.z - S.z⟩,1⟩
theorem Te3 (m:Int) (S v d:V3):dot (pol m S v).n d=m*dot d v - dot d S:=by simp only[dot,pol];grind
theorem Qd7 (l:List V3) (d:V3):jc9 (l.map fun v=>(l.length:Int)*dot d v - dot d (Db3 l))=0:=by
 have h:=Qd6 (l.length:Int) (dot d (Db3 l)) (l.map (dot d))
 rw[List.map_map] at h
 have e:((fun a=>(l.length:Int)*a - dot d (Db3 l))∘dot d)=fun v=>(l.length:Int)*dot d v - dot d (Db3 l):=rfl
 rw[e] at h
 rw[h,← Qd5,List.length_map]
 grind
theorem qe9 {a b:V3} (h:dot a b≠0):b≠⟨0,0,0⟩:=fun e=>h (by subst e;simp[dot])
theorem be3 {a b:V3} (h:dot a b≠0):a≠⟨0,0,0⟩:=fun e=>h (by subst e;simp[dot])
theorem je0 {l:List V3} (h:Sol l):0 < (l.length:Int):=by
 obtain⟨v,hv⟩:=h.ne
 have:=List.length_pos_of_mem hv
 omega
theorem Te4 {l:List V3} (h:Sol l):Bdd (l.map (pol l.length (Db3 l))):=fun d hd=>by
 by_cases hh:∃ p∈l.map (pol l.length (Db3 l)),0 < dot p.n d
 ·exact hh
 exfalso
 have hm:=je0 h
 have hall:∀ a∈l.map (fun v=>(l.length:Int)*dot d v - dot d (Db3 l)),a≤0:=fun a ha=>by
  obtain⟨v,hv,rfl⟩:=List.mem_map.1 ha
  refine Int.not_lt.1 fun h'=>hh ⟨pol l.length (Db3 l) v,List.mem_map.2 ⟨v,hv,rfl⟩,?_⟩
  rw[Te3]
  omega
 have hz:=tc9 hall (Qd7 l d)
 obtain⟨a,ha⟩:=h.ne
 obtain⟨v,hv,hne⟩:=h.off hd (dot d a)
 have e1:=hz _ (List.mem_map.2 ⟨a,ha,rfl⟩)
 have e2:=hz _ (List.mem_map.2 ⟨v,hv,rfl⟩)
 apply hne
 have:(l.length:Int)*(dot d v - dot d a)=0:=by grind
 have:=(Int.mul_eq_zero.1 this).resolve_left (by omega)
 omega
theorem re0 {l:List V3} (h4:Sol l) {c:List Pln} (hc:vf2 l c) {x:Pt} (hx:Inr c x) {h:Pln} (hh:∀ v∈l,dot h.n v≤h.b):0≤rmZ h x:=by
 have hm:=je0 h4
 have hr:=Te4 h4
 generalize hS:Db3 l=S at hr
 generalize hM:(l.length:Int)=m at hr hm
 -- the linear function on the polar
 have hv:∀ y,Cn (l.map (pol m S)) y→0≤rmZ ⟨⟨m*x.px - x.pw*S.x,m*x.py - x.pw*S.y,m*x.pz - x.pw*S.z⟩,x.pw⟩ y:=fun y hy=>by
  obtain⟨p1,p2,p3,hp1,hp2,hp3,hw,e1,e2,e3⟩:=hy.c
  obtain⟨v1,m1,rfl⟩:=List.mem_map.1 hp1
  obtain⟨v2,m2,rfl⟩:=List.mem_map.1 hp2
  obtain⟨v3,m3,rfl⟩:=List.mem_map.1 hp3
  have rp:∀ v,rmZ (pol m S v) y=y.pw - (m*dot ⟨y.px,y.py,y.pz⟩ v - dot ⟨y.px,y.py,y.pz⟩ S):=fun v=>by simp only[rmZ,pol,dot];grind
  rw[rp] at e1 e2 e3
  have hn3:dot (pol m S v1).n (N3 v1 v2 v3)≠0:=fun h0=>hw (by
   have:mw (pol m S v1) (pol m S v2) (pol m S v3)=m*m*dot (pol m S v1).n (N3 v1 v2 v3):=by simp only[mw,pol,dot,N3,f7,V1];grind
   rw[this,h0,Int.mul_zero])
  have hne:N3 v1 v2 v3≠⟨0,0,0⟩:=qe9 hn3
  have hfac:Fac l ⟨m*y.px,m*y.py,m*y.pz⟩ (y.pw+dot ⟨y.px,y.py,y.pz⟩ S):=by
   have ed:∀ v,dot ⟨m*y.px,m*y.py,m*y.pz⟩ v=m*dot ⟨y.px,y.py,y.pz⟩ v:=fun v=>by simp only[dot];grind
   refine⟨fun v hv=>?_,v1,v2,v3,m1,m2,m3,hne,?_,?_,?_⟩
   ·have:=hy.h (pol m S v) (List.mem_map.2 ⟨v,hv,rfl⟩)
    rw[rp] at this
    rw[ed];omega
   ·rw[ed];omega
   ·rw[ed];omega
   ·rw[ed];omega
  have hyn:(⟨m*y.px,m*y.py,m*y.pz⟩:V3)≠⟨0,0,0⟩:=fun e=>by
   have k:∀ {a:Int},m*a=0→a=0:=fun h=>(Int.mul_eq_zero.1 h).resolve_left (by omega)
   simp only[V3.mk.injEq] at e
   have a1:=k e.1;have a2:=k e.2.1;have a3:=k e.2.2
   rw[a1,a2,a3] at e1
   have hw:=hy.w
   simp only[dot] at e1
   simp only[Int.zero_mul,Int.add_zero,Int.mul_zero,Int.sub_zero] at e1
   omega
  obtain⟨s,t,hs,ht,q,hq,f1,f2,f3,f4⟩:=hc _ _ hyn hfac
  have hxq:=hx.h q hq
  have e:t*rmZ q x=s*rmZ ⟨⟨m*x.px - x.pw*S.x,m*x.py - x.pw*S.y,m*x.pz - x.pw*S.z⟩,x.pw⟩ y:=by
   have:t*rmZ q x=(t*q.b)*x.pw - ((t*q.n.x)*x.px+(t*q.n.y)*x.py+(t*q.n.z)*x.pz):=by simp only[rmZ];grind
   rw[this,f1,f2,f3,f4]
   simp only[rmZ,dot];grind
  have h1:=Int.mul_nonneg (Int.le_of_lt ht) hxq
  rw[e] at h1
  exact Int.nonneg_of_mul_nonneg_right h1 hs
 by_cases hn:h.n=⟨0,0,0⟩
 ·obtain⟨v,hv⟩:=h4.ne
  have h1:=hh v hv
  have e:rmZ h x=h.b*x.pw:=by simp only[rmZ,hn];grind
  rw[e]
  rw[hn] at h1
  simp only[dot,Int.zero_mul,Int.add_zero] at h1
  exact Int.mul_nonneg h1 (Int.le_of_lt hx.w)
 ·-- the polar point of h
  have hall:∀ a∈l.map (fun v=>(l.length:Int)*dot h.n v - dot h.n (Db3 l)),a≤(l.length:Int)*h.b - dot h.n (Db3 l):=fun a ha=>by
   obtain⟨v,hv,rfl⟩:=List.mem_map.1 ha
   have:=Int.mul_le_mul_of_nonneg_left (hh v hv) (show 0≤(l.length:Int) by omega)
   omega
  have hpos:0 < m*h.b - dot h.n S:=by
   rw[← hM,← hS]
   by_cases h0:0 < (l.length:Int)*h.b - dot h.n (Db3 l)
   ·exact h0
   exfalso
   have hz:=tc9 (fun a ha=>by have:=hall a ha;omega) (Qd7 l h.n)
   obtain⟨v,hv,hne⟩:=h4.off hn h.b
   have e1:=hz _ (List.mem_map.2 ⟨v,hv,rfl⟩)
   have h2:=hh v hv
   have:(l.length:Int)*dot h.n v < (l.length:Int)*h.b:=Int.mul_lt_mul_of_pos_left (by omega) (by omega)
   omega
  have hy:Inr (l.map (pol m S)) ⟨h.n.x,h.n.y,h.n.z,m*h.b - dot h.n S⟩:=⟨hpos,fun p hp=>by
   obtain⟨v,hv,rfl⟩:=List.mem_map.1 hp
   have e:rmZ (pol m S v) ⟨h.n.x,h.n.y,h.n.z,m*h.b - dot h.n S⟩=m*(h.b - dot h.n v):=by simp only[rmZ,pol,dot];grind
   rw[e]
   exact Int.mul_nonneg (by omega) (by have:=hh v hv;omega)⟩
  have h1:=Cb6 hr hv hy
  have e:rmZ ⟨⟨m*x.px - x.pw*S.x,m*x.py - x.pw*S.y,m*x.pz - x.pw*S.z⟩,x.pw⟩ ⟨h.n.x,h.n.y,h.n.z,m*h.b - dot h.n S⟩=m*rmZ h x:=by simp only[rmZ,dot];grind
  rw[e] at h1
  exact Int.nonneg_of_mul_nonneg_right h1 hm
end Go.Ev.Ce
