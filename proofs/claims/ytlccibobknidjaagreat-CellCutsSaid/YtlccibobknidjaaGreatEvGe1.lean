/- Own work: a part of the proof. -/
import Derived.Test.YtlccibobknidjaaGreatEvE5
import Derived.Test.YtlccibobknidjaaGreatEvD4
import Derived.Shelf.SlSortCmp.WholeK
import Derived.Test.YtlccibobknidjaaGreatEvSp3
import Derived.KernelRfl
set_option linter.unusedVariables false
set_option linter.unusedSimpArgs false
set_option linter.unnecessarySimpa false
set_option linter.unusedSectionVars false
namespace Go.Ev.Ce
open Go Go.Ev Go.Ev.L Go.Proofs
def Nx {σ:Type} (x:Stp σ) (E:Nat→Prop) (N:σ→Prop):Prop:=(∃ t,x=.exit t∧E t)∨∃ s,x=.next s∧N s
theorem Nx.sl {σ:Type} {c:Bool} {t e:Stp σ} {E:Nat→Prop} {N:σ→Prop} (h1:c=true→Nx t E N) (h2:c=false→Nx e E N):Nx (sl c t e) E N:=by cases c;exact h2 rfl;exact h1 rfl
theorem Nx.ex {σ:Type} {t:Nat} {E:Nat→Prop} {N:σ→Prop} (h:E t):Nx (.exit t) E N:=.inl ⟨t,rfl,h⟩
theorem Nx.nx {σ:Type} {s:σ} {E:Nat→Prop} {N:σ→Prop} (h:N s):Nx (.next s) E N:=.inr ⟨s,rfl,h⟩
theorem ja1 {σ τ : Type} {step : σ → Stp σ} {mk : Nat → τ → σ} (n : Nat) (I : Nat → τ → Prop) (E : Nat → σ → Prop) (hn : n ≤ 1000000000)
  (h:∀ j a,j < n→I j a→Nx (step (mk j a)) (fun t=>E t (mk j a)) (fun s=>∃ a',s=mk (j+1) a'∧I (j+1) a'))
  (hf:∀ j a,n≤j→I j a→∃ t,step (mk j a)=.exit t∧E t (mk j a)) (j0:Nat) (a:τ) (hi:I j0 a):∃ t s,lp step (mk j0 a)=(t,s)∧E t s:=by
 have key:=Pb9 (step:=step) (I:=fun m s=>∃ j a,m=n - j∧s=mk j a∧I j a) (Q:=E) (fun m s ⟨j,a,hm,hs,ha⟩=>by
  subst hs
  by_cases hlt:j < n
  ·rcases h j a hlt ha with h1 | ⟨s',h1,a',h2,h3⟩
   ·exact .inl h1
   ·subst h2
    exact .inr ⟨_,n - (j+1),by omega,h1,j+1,a',rfl,rfl,h3⟩
  ·exact .inl (hf j a (by omega) ha)) (n - j0) (mk j0 a) (by omega) ⟨j0,a,rfl,rfl,hi⟩
 exact⟨_,_,rfl,key⟩
def Rd {ρ:Type} (R:RR ρ) (o:Option (b7×List b8)) (P:ρ→Prop):Prop:=∃ x r,o=some x∧R.rd x=some r∧P r
theorem Rd.p {ρ:Type} {R:RR ρ} {o:Option (b7×List b8)} {P:ρ→Prop} (h:Rd R o P):P (P4 R o):=by
 obtain⟨x,r,h1,h2,h3⟩:=h
 rw[h1,Fa1 R h2]
 exact h3
theorem Rd.g {ρ:Type} {R:RR ρ} {o:Option (b7×List b8)} {P:ρ→Prop} (h:Rd R o P):okO R o=true:=by
 obtain⟨x,r,h1,h2,h3⟩:=h
 rw[h1]
 exact Ra5 R h2
theorem Rd.sl {ρ:Type} {R:RR ρ} {c:Bool} {t e:Option (b7×List b8)} {P:ρ→Prop} (h1:c=true→Rd R t P) (h2:c=false→Rd R e P):Rd R (sl c t e) P:=by cases c;exact h2 rfl;exact h1 rfl
theorem Y9 (n : Int) (l : List Int) (j : Int) (h1 : 0 ≤ j) (h2 : j ≤ 1000000) (hn : 0 < n) (hn2 : n ≤ 1000000) :
  ∃ v j',m0 ⟨n,l,j⟩=⟨1,v,j'⟩∧0≤v∧v < n∧j≤j'∧j'≤j+1:=by
 unfold m0 ha8
 simp only
 by_cases h:j≥(l.length:Int)
 ·rw[btD h]
  exact⟨0,j,rfl,by omega,hn,by omega,by omega⟩
 ·rw[bfD h]
  have hW:W (W (j+1) - 1)=j:=by rw[vc9,Z3 (by omega) (by omega)];omega
  have hW2:W (j+1)=j+1:=Z3 (by omega) (by omega)
  have hin:inB j l.length=true:=by rw[Uc6];exact decide_eq_true (by omega)
  rw[hW,hW2,hin,Vd1 _ hn (by omega),Fe2 _ hn (by omega)]
  exact⟨_,_,rfl,Int.emod_nonneg _ (by omega),Int.emod_lt_of_pos _ hn,by omega,by omega⟩
theorem Fb5 (m : Int) (l : List Int) (j : Int) (h1 : 0 ≤ j) (h2 : j ≤ 900000) (hm : 0 ≤ m) (hm2 : m ≤ 100000) :
  ∃ a b c j',Ma8 ⟨m,l,j⟩=⟨1,a,b,c,l,j'⟩∧Sm m a∧Sm m b∧Sm m c∧j≤j'∧j'≤j+3:=by
 unfold Ma8 Za6
 simp only[l8,l6]
 have hW:W (W (2*m)+1)=2*m+1:=by rw[ab9,Z3 (by omega) (by omega)]
 rw[hW]
 obtain⟨v1,j1,e1,a1,b1,c1,d1⟩:=Y9 (2*m+1) l j h1 (by omega) (by omega) (by omega)
 rw[e1]
 obtain⟨v2,j2,e2,a2,b2,c2,d2⟩:=Y9 (2*m+1) l j1 (by omega) (by omega) (by omega) (by omega)
 simp only
 rw[e2]
 obtain⟨v3,j3,e3,a3,b3,c3,d3⟩:=Y9 (2*m+1) l j2 (by omega) (by omega) (by omega) (by omega)
 simp only
 rw[e3]
 refine⟨v1 - m,v2 - m,v3 - m,j3,?_,⟨by omega,by omega⟩,⟨by omega,by omega⟩,⟨by omega,by omega⟩,by omega,by omega⟩
 simp only
 rw[Z3 (n:=v1 - m) (by omega) (by omega),Z3 (n:=v2 - m) (by omega) (by omega),Z3 (n:=v3 - m) (by omega) (by omega)]
 rfl
def inV (v:V3):Bool:=smb 24 v.x&&(smb 24 v.y&&smb 24 v.z)
theorem ac4 (v:V3):inV v=true↔Sm 24 v.x∧Sm 24 v.y∧Sm 24 v.z:=by unfold inV;rw[Bool.and_eq_true,Bool.and_eq_true,Ya0,Ya0,Ya0]
theorem Vd5 (v:V3):Fb1 v=some (b (inV v),[]):=by
 unfold Fb1 inV smb
 cases h1:decide (v.x < -24)<;>cases h2:decide (v.x > 24)<;>cases h3:decide (v.y < -24)<;>cases h4:decide (v.y > 24)<;>cases h5:decide (v.z < -24)<;>cases h6:decide (v.z > 24)<;>rfl
theorem Dd3 (v:V3):Ra6 v=inV v:=by unfold Ra6;rw[Vd5];rfl
theorem nd6 (v:V3):Ra7 v=true:=by unfold Ra7;rw[Vd5];rfl
def sub (a b:V3):V3:=⟨a.x - b.x,a.y - b.y,a.z - b.z⟩
theorem Dd4 {a b:V3} (ha:inV a=true) (hb:inV b=true):ya0 a b=sub a b∧Sm 48 (sub a b).x∧Sm 48 (sub a b).y∧Sm 48 (sub a b).z:=by
 rw[ac4] at ha hb
 obtain⟨⟨a1,a2⟩,⟨a3,a4⟩,a5,a6⟩:=ha
 obtain⟨⟨b1,b2⟩,⟨b3,b4⟩,b5,b6⟩:=hb
 unfold ya0 sub
 rw[Z3 (by omega) (by omega),Z3 (by omega) (by omega),Z3 (by omega) (by omega)]
 exact⟨rfl,⟨by show _≤a.x - b.x;omega,by show a.x - b.x≤_;omega⟩,⟨by show _≤a.y - b.y;omega,by show a.y - b.y≤_;omega⟩,⟨by show _≤a.z - b.z;omega,by show a.z - b.z≤_;omega⟩⟩
theorem Ob0 {a b c : V3} (ha : inV a = true) (hb : inV b = true) (hc : inV c = true) :
  R7 (ya0 b a) (ya0 c a)=i6 (sub b a) (sub c a)∧Sm 4608 (i6 (sub b a) (sub c a)).x∧Sm 4608 (i6 (sub b a) (sub c a)).y∧Sm 4608 (i6 (sub b a) (sub c a)).z:=by
 obtain⟨e1,⟨u1,u2⟩,⟨u3,u4⟩,u5,u6⟩:=Dd4 hb ha
 obtain⟨e2,⟨v1,v2⟩,⟨v3,v4⟩,v5,v6⟩:=Dd4 hc ha
 rw[e1,e2,Yb5]
 generalize sub b a=p at *
 generalize sub c a=q at *
 have h1:=mb u3 u4 v5 v6;have h2:=mb u5 u6 v3 v4;have h3:=mb u5 u6 v1 v2;have h4:=mb u1 u2 v5 v6;have h5:=mb u1 u2 v3 v4;have h6:=mb u3 u4 v1 v2
 have k:Sm 4608 (i6 p q).x∧Sm 4608 (i6 p q).y∧Sm 4608 (i6 p q).z:=by unfold Sm i6;simp only;omega
 obtain⟨k1,k2,k3⟩:=k
 rw[ta6 (k1.mono (by omega)),ta6 (k2.mono (by omega)),ta6 (k3.mono (by omega))]
 exact⟨rfl,k1,k2,k3⟩
def ga5 (a b c:V3):Pln×Bool :=
 if inV a&&(inV b&&inV c) then
  if g3 (i6 (sub b a) (sub c a))=0 then (⟨⟨0,0,0⟩,0⟩,false)
  else (⟨⟨Int.tdiv (i6 (sub b a) (sub c a)).x (g3 (i6 (sub b a) (sub c a))),Int.tdiv (i6 (sub b a) (sub c a)).y (g3 (i6 (sub b a) (sub c a))),Int.tdiv (i6 (sub b a) (sub c a)).z (g3 (i6 (sub b a) (sub c a)))⟩,
   dot ⟨Int.tdiv (i6 (sub b a) (sub c a)).x (g3 (i6 (sub b a) (sub c a))),Int.tdiv (i6 (sub b a) (sub c a)).y (g3 (i6 (sub b a) (sub c a))),Int.tdiv (i6 (sub b a) (sub c a)).z (g3 (i6 (sub b a) (sub c a)))⟩ a⟩,true)
 else (⟨⟨0,0,0⟩,0⟩,false)
theorem hc8 (v:V3):0≤g3 v:=by unfold g3;omega
theorem Cc7 (a c d:V3):Aa9 a c d=some (.tup [.agg (tP.row (ga5 a c d).1),b (ga5 a c d).2],[]):=by
 unfold Aa9 ga5
 simp only[Dd3,nd6]
 cases ha:inV a with
 | false=>rfl
 | true =>
  cases hc:inV c with
  | false=>rfl
  | true =>
   cases hd:inV d with
   | false=>rfl
   | true =>
    obtain⟨e,k1,k2,k3⟩:=Ob0 ha hc hd
    rw[e]
    generalize i6 (sub c a) (sub d a)=n at *
    have m1:=k1.mono (m:=1000000000000000000) (by omega)
    have m2:=k2.mono (m:=1000000000000000000) (by omega)
    have m3:=k3.mono (m:=1000000000000000000) (by omega)
    rw[Td4 m1 m2 m3,Ac1 m1 m2 m3]
    by_cases h0:g3 n=0
    ·rw[show (g3 n==0)=true from by rw[h0];rfl]
     simp only[Bool.and_self,if_true,h0]
     rfl
    ·have hp:=hc8 n
     have q1:=E3 (g:=g3 n) k1 (by omega)
     have q2:=E3 (g:=g3 n) k2 (by omega)
     have q3:=E3 (g:=g3 n) k3 (by omega)
     rw[show (g3 n==0)=false from by rw[beq_eq_false_iff_ne];exact h0,te5 m1 m2 m3 h0]
     simp only[Bool.and_self,if_true,h0,if_false]
     rw[ta6 (q1.mono (by omega)),ta6 (q2.mono (by omega)),ta6 (q3.mono (by omega))]
     have hdot:ra9 ⟨Int.tdiv n.x (g3 n),Int.tdiv n.y (g3 n),Int.tdiv n.z (g3 n)⟩ a=dot ⟨Int.tdiv n.x (g3 n),Int.tdiv n.y (g3 n),Int.tdiv n.z (g3 n)⟩ a:=by
      unfold ra9
      simp only[ab9,Cb2]
      obtain⟨⟨a1,a2⟩,⟨a3,a4⟩,a5,a6⟩:=(ac4 a).1 ha
      have r1:=mb q1.1 q1.2 a1 a2;have r2:=mb q2.1 q2.2 a3 a4;have r3:=mb q3.1 q3.2 a5 a6
      rw[Z3 (by omega) (by omega)]
      rfl
     rw[hdot]
     rfl
theorem qb0 (a b c:V3):ka0 a b c=ga5 a b c:=by unfold ka0;rw[Cc7];rfl
theorem Fa2 (a b c:V3):ka1 a b c=true:=by unfold ka1;rw[Cc7];rfl
theorem ie1 (l:List Int):Rd (one r1P) (Da6 l) (fun _=>True):=by
 unfold Da6
 simp only[l8,l6]
 obtain⟨v1,j1,e1,a1,b1,c1,d1⟩:=Y9 8 l 0 (by omega) (by omega) (by omega) (by omega)
 rw[e1]
 simp only
 obtain⟨v2,j2,e2,a2,b2,c2,d2⟩:=Y9 17 l j1 (by omega) (by omega) (by omega) (by omega)
 rw[e2]
 simp only
 obtain⟨x1,x2,x3,j3,e3,_,_,_,c3,d3⟩:=Fb5 8 l j2 (by omega) (by omega) (by omega) (by omega)
 rw[e3]
 simp only
 obtain⟨y1,y2,y3,j4,e4,_,_,_,c4,d4⟩:=Fb5 8 l j3 (by omega) (by omega) (by omega) (by omega)
 rw[e4]
 simp only
 obtain⟨z1,z2,z3,j5,e5,_,_,_,c5,d5⟩:=Fb5 8 l j4 (by omega) (by omega) (by omega) (by omega)
 rw[e5]
 simp only[qb0,Fa2,Vd1 _ (show (0:Int) < 3 by omega) (by omega),l6]
 simp only[Nat.beq_refl,Bool.and_true,n5]
 refine Rd.sl (fun _=>Rd.sl (fun _=>⟨_,_,rfl,rfl,trivial⟩) fun _=>?_) (fun _=>?_)
 ·exact Rd.sl (fun _=>⟨_,_,rfl,rfl,trivial⟩) fun _=>Rd.sl (fun _=>⟨_,_,rfl,rfl,trivial⟩) fun _=>⟨_,_,rfl,rfl,trivial⟩
 ·exact Rd.sl (fun _=>⟨_,_,rfl,rfl,trivial⟩) fun _=>Rd.sl (fun _=>⟨_,_,rfl,rfl,trivial⟩) fun _=>⟨_,_,rfl,rfl,trivial⟩
theorem Zc0 (l:List Int):db3 l=true:=(ie1 l).g
theorem ie2 (p:Pln) (v:V3):Rd (one r1I) (Da8 p v) (fun _=>True):=by
 unfold Da8
 simp only[Ac2,nd6,n5]
 exact Rd.sl (fun _=>⟨_,_,rfl,rfl,trivial⟩) fun _=>Rd.sl (fun _=>⟨_,_,rfl,rfl,trivial⟩) fun _=>Rd.sl (fun _=>⟨_,_,rfl,rfl,trivial⟩) fun _=>Rd.sl (fun _=>⟨_,_,rfl,rfl,trivial⟩) fun _=>⟨_,_,rfl,rfl,trivial⟩
theorem Zc1 (p:Pln) (v:V3):ub7 p v=true:=(ie2 p v).g
theorem Fe4 (P:pa5) (hl:P.f0.length≤1000000000):∃ t s,lp (B3 P) ⟨0⟩=(t,s)∧(t=1∨t=2∨t=3):=by
 obtain⟨l,x1,x2,x3,x4,x5,x6,x7,x8⟩:=P
 refine ja1 (step:=B3 ⟨l,x1,x2,x3,x4,x5,x6,x7,x8⟩) (mk:=fun j (_:Unit)=>(⟨(j:Int)⟩:ba9)) l.length (fun _ _=>True) (fun t _=>t=1∨t=2∨t=3) hl (fun j a hj _=>?_) (fun j a hj _=>?_) 0 () trivial
 ·simp only[B3,X7,Zc1,Int.toNat_natCast,o2 hj (show l.length≤4611686018427387904 from Nat.le_trans hl (by omega))]
  rw[btD (l0 hj),bt (e8 hj),n5]
  exact Nx.sl (fun _=>Nx.sl (fun _=>.ex (by simp)) fun _=>.nx ⟨(),rfl,trivial⟩) fun _=>.ex (by simp)
 ·simp only[B3,X7]
  rw[bfD (by omega)]
  exact⟨_,rfl,by simp⟩
theorem Fe5 (l:List V3) (hl:l.length≤1000000000) (a c:Nat) (ha:a < l.length) (hc:c < a):∃ t s,lp (O9 ⟨(a:Int),(c:Int)⟩) ⟨l,0⟩=(t,s)∧((t=1∨t=2)∧s.f0=l):=by
 refine ja1 (step:=O9 ⟨(a:Int),(c:Int)⟩) (mk:=fun j (_:Unit)=>(⟨l,(j:Int)⟩:ca0)) c (fun _ _=>True) (fun t s=>(t=1∨t=2)∧s.f0=l) (by omega) (fun j x hj _=>?_) (fun j x hj _=>?_) 0 () trivial
 ·simp only[O9,fa2,Fa2,Int.toNat_natCast,l8,l6,o2 hj (show c≤4611686018427387904 by omega)]
  rw[btD (l0 hj),bt (e8 ha),bt (e8 (show c < l.length by omega)),bt (e8 (show j < l.length by omega)),n5]
  generalize hP:pa5.mk _ _ _ _ _ _ _ _ _=P3
  obtain⟨t,s,h1,h2⟩:=Fe4 P3 (by subst hP;exact hl)
  rw[h1]
  rcases h2 with rfl | rfl | rfl
  ·exact .ex (by simp)
  ·exact .nx ⟨(),rfl,trivial⟩
  ·exact .nx ⟨(),rfl,trivial⟩
 ·simp only[O9,fa2]
  rw[bfD (by omega)]
  exact⟨_,rfl,by simp⟩
theorem Fe6 (l:List V3) (hl:l.length≤1000000000) (a:Nat) (ha:a < l.length):∃ t s,lp (P0 ⟨(a:Int)⟩) ⟨l,0⟩=(t,s)∧((t=1∨t=2)∧s.f0=l):=by
 refine ja1 (step:=P0 ⟨(a:Int)⟩) (mk:=fun j (_:Unit)=>(⟨l,(j:Int)⟩:ca1)) a (fun _ _=>True) (fun t s=>(t=1∨t=2)∧s.f0=l) (by omega) (fun j x hj _=>?_) (fun j x hj _=>?_) 0 () trivial
 ·simp only[P0,fa3,l8,l6,o2 hj (show a≤4611686018427387904 by omega)]
  obtain⟨t,s,h1,h2,h3⟩:=Fe5 l hl a j ha hj
  rw[btD (l0 hj),h1]
  rcases h2 with rfl | rfl
  ·exact .ex (by simp)
  ·exact .nx ⟨(),by rw[h3],trivial⟩
 ·simp only[P0,fa3]
  rw[bfD (by omega)]
  exact⟨_,rfl,by simp⟩
theorem ib5 (l:List V3) (hl:l.length≤1000000000):Rd (one r1B) (Da9 l) (fun _=>True):=by
 have key:∃ t s,lp (P1 ⟨⟩) ⟨l,0⟩=(t,s)∧(t=1∨t=2):=by
  refine ja1 (step:=P1 ⟨⟩) (mk:=fun j (_:Unit)=>(⟨l,(j:Int)⟩:ca2)) l.length (fun _ _=>True) (fun t s=>(t=1∨t=2)) hl (fun j x hj _=>?_) (fun j x hj _=>?_) 0 () trivial
  ·simp only[P1,fa4,l8,l6,o2 hj (show l.length≤4611686018427387904 by omega)]
   obtain⟨t,s,h1,h2,h3⟩:=Fe6 l hl j hj
   rw[btD (l0 hj),h1]
   rcases h2 with rfl | rfl
   ·exact .ex (by simp)
   ·exact .nx ⟨(),by rw[h3],trivial⟩
  ·simp only[P1,fa4]
   rw[bfD (by omega)]
   exact⟨_,rfl,by simp⟩
 obtain⟨t,s,h1,h2⟩:=key
 unfold Da9
 simp only[l8,l6]
 rw[h1]
 rcases h2 with rfl | rfl<;>exact⟨_,_,rfl,rfl,trivial⟩
theorem xd2 (l:List V3) (hl:l.length≤1000000000):Na1 l=true:=(ib5 l hl).g
theorem xd3 (l:List V3) (hl:l.length≤1000000000):Rd (one r1I) (va9 l) (fun _=>True):=by
 have h:=Ta1 (step:=X8 ⟨l⟩) (mk:=fun j=>(⟨(j:Int)⟩:L2)) (c:=fun v=>!inV v) (u:=1) (fin:=2) tV l hl
  (fun j hj=>by
   simp only[X8,Z9,Int.toNat_natCast,Dd3,nd6,o2 hj (show l.length≤4611686018427387904 by omega)]
   rw[btD (l0 hj),bt (e8 hj),n5])
  (by simp only[X8,Z9];rw[bfD (y5 (Nat.lt_irrefl _))]) 0 (Nat.zero_le _)
 unfold va9
 simp only[l8,l6,L0,xd2 l hl]
 rw[show (⟨0⟩:L2)=⟨((0:Nat):Int)⟩ from rfl,h]
 refine Rd.sl (fun _=>⟨_,_,rfl,rfl,trivial⟩) fun _=>?_
 rw[List.drop_zero]
 cases l.any fun v=>!inV v with
 | true=>exact⟨_,_,rfl,rfl,trivial⟩
 | false =>
  show Rd (one r1I) (sl (Ea0 l) (some (i 11,[])) (some (i 0,[]))) (fun _=>True)
  exact Rd.sl (fun _=>⟨_,_,rfl,rfl,trivial⟩) fun _=>⟨_,_,rfl,rfl,trivial⟩
theorem Qc6 (l:List V3) (hl:l.length≤1000000000):Fb3 l=true:=(xd3 l hl).g
theorem Vd6 (p:Pln) (l:List V3) (hl:l.length≤1000000000):Rd (one r1B) (wa0 p l) (fun _=>True):=by
 have h:=Ta1 (step:=X9 ⟨l,p.n.x,p.n.y,p.n.z,p.b⟩) (mk:=fun j=>(⟨(j:Int)⟩:L3)) (c:=fun v=>decide (Na0 p v > 0)) (u:=1) (fin:=2) tV l hl
  (fun j hj=>by
   simp only[X9,aa0,Int.toNat_natCast,Zc1,o2 hj (show l.length≤4611686018427387904 by omega)]
   rw[btD (l0 hj),bt (e8 hj),n5])
  (by simp only[X9,aa0];rw[bfD (y5 (Nat.lt_irrefl _))]) 0 (Nat.zero_le _)
 unfold wa0
 simp only[l8,l6]
 rw[show (⟨0⟩:L3)=⟨((0:Nat):Int)⟩ from rfl,h]
 split<;>exact⟨_,_,rfl,rfl,trivial⟩
theorem Dd5 (p:Pln) (l:List V3) (hl:l.length≤1000000000):da5 p l=true:=(Vd6 p l hl).g
theorem ue8 (p q:Pln):Rd (one r1I) (ka2 p q) (fun _=>True):=by
 have key:∃ t s,lp (G5 ⟨p.n.x,p.n.y,p.n.z,p.b,q.n.x,q.n.y,q.n.z,q.b⟩) ⟨0⟩=(t,s)∧(t=1∨t=2∨t=3):=by
  refine ja1 (step:=G5 ⟨p.n.x,p.n.y,p.n.z,p.b,q.n.x,q.n.y,q.n.z,q.b⟩) (mk:=fun j (_:Unit)=>(⟨(j:Int)⟩:M6)) 4 (fun _ _=>True) (fun t s=>(t=1∨t=2∨t=3)) (by omega) (fun j x hj _=>?_) (fun j x hj _=>?_) 0 () trivial
  ·have hn:=o2 hj (show 4≤4611686018427387904 by omega)
   simp only[G5,Q9,Int.toNat_natCast,hn]
   have hlt:(j:Int) < 4:=by omega
   have hin:=e8 hj
   have g:∀ x1 x2 x3 x4:Int,((Nat.ble ((0+(j*1))+1) 4)&&(R5 [(CK.int .i64)] (g9 [(i x1),(i x2),(i x3),(i x4)] (0+(j*1)))))=true:=by
    intro x1 x2 x3 x4
    match j,hj with
    | 0,_=>rfl
    | 1,_=>rfl
    | 2,_=>rfl
    | 3,_=>rfl
   rw[btD hlt]
   simp only[hin,g,n5]
   exact Nx.sl (fun _=>.ex (by simp)) fun _=>Nx.sl (fun _=>.ex (by simp)) fun _=>.nx ⟨(),rfl,trivial⟩
  ·simp only[G5,Q9]
   rw[bfD (by omega)]
   exact⟨_,rfl,by simp⟩
 obtain⟨t,s,h1,h2⟩:=key
 unfold ka2
 simp only
 rw[h1]
 rcases h2 with rfl | rfl | rfl<;>exact⟨_,_,rfl,rfl,trivial⟩
theorem Vd7 (p q:Pln):mb3 p q=true:=(ue8 p q).g
theorem Cc8 (l:List Pln) (n:Nat) (h:n≤l.length):n7 (fun k=>(fun k=>tP.row (gL tP l k)) (0+k)) (List.range (n - 0))=bL tP (l.take n):=by
 rw[← Pa3,o9,o9,List.length_take,Nat.min_eq_left h,Nat.sub_zero]
 apply List.map_congr_left
 intro k hk
 rw[List.mem_range] at hk
 show tP.row (gL tP l (0+k))=tP.row (gL tP (l.take n) k)
 congr 1
 simp[gL,List.getD_eq_getElem?_getD,List.getElem?_take,hk]
theorem Cc9 (l:List Pln) (n:Nat):n7 (fun k=>(fun k=>tP.row (gL tP l k)) (n+k)) (List.range (l.length - n))=bL tP (l.drop n):=by
 rw[← Pa3,o9,o9,List.length_drop]
 apply List.map_congr_left
 intro k hk
 show tP.row (gL tP l (n+k))=tP.row (gL tP (l.drop n) k)
 rw[Yb9]
theorem Fb6 (l:List Pln) (x1 x2 x3 x4:Int):app (bL tP l) [[i x1,i x2,i x3,i x4]]=bL tP (l++[⟨⟨x1,x2,x3⟩,x4⟩]):=La3 tP l [⟨⟨x1,x2,x3⟩,x4⟩]
def yb1 (x:List Pln) (y:Pln) (n:Nat):List Pln:=x.take n++(y::x.drop n)
theorem Zc2 {l:List Pln} {n:Nat} {r:List (List b7)} {P:List Pln→Prop} (hn:n=l.length) (hr:r=bL tP l) (h:P l):Rd (one (r1L tP)) (some (.sl 0 0 n 0,[⟨50,4,r,true,false,0⟩])) P:=by
 subst hn hr
 exact⟨_,l,rfl,Rb5 l,h⟩
theorem Vd8 (x:List Pln) (y:Pln) (hx:x.length≤1000000):Rd (one (r1L tP)) (Na2 x y) (fun r=>r≠[]∧r.length≤x.length+1∧∀ p∈r,p=y∨p∈x):=by
 have h:=Xa0 (step:=W5 ⟨x,y.n.x,y.n.y,y.n.z,y.b⟩) (mk:=fun j=>(⟨(j:Int)⟩:Y0)) (c:=fun p=>!decide (ka3 p y < 0)) (u:=1) (fin:=2) tP x (by omega)
  (fun j hj=>by
   simp only[W5,ka4,Int.toNat_natCast,Vd7,o2 hj (show x.length≤4611686018427387904 by omega)]
   rw[btD (l0 hj),bt (e8 hj),n5]
   cases decide (ka3 (gL tP x j) y < 0)<;>rfl)
  (by simp only[W5,ka4];rw[bfD (y5 (Nat.lt_irrefl _))]) 0 (Nat.zero_le _)
 rw[List.drop_zero] at h
 have key:∃ t n,lp (W5 ⟨x,y.n.x,y.n.y,y.n.z,y.b⟩) ⟨0⟩=(t,⟨((n:Nat):Int)⟩)∧(t=1∨t=2)∧n≤x.length:=by
  rw[show (⟨0⟩:Y0)=⟨((0:Nat):Int)⟩ from rfl,h]
  split
  ·exact⟨1,_,rfl,.inl rfl,by rw[Nat.zero_add];exact List.findIdx_le_length⟩
  ·exact⟨2,_,rfl,.inr rfl,Nat.le_refl _⟩
 obtain⟨t,n,h1,h2,h3⟩:=key
 have hlo:inB (n:Int) (x.length+1)=true:=e8 (by omega)
 have hd:(bL tP (x.take n)).length=n:=by rw[← l9,L1,List.length_take];omega
 have hmem:∀ p∈yb1 x y n,p=y∨p∈x:=fun p hp=>by
  unfold yb1 at hp
  rcases List.mem_append.1 hp with hp | hp
  ·exact .inr (List.mem_of_mem_take hp)
  ·rcases List.mem_cons.1 hp with hp | hp
   ·exact .inl hp
   ·exact .inr (List.mem_of_mem_drop hp)
 have hne:yb1 x y n≠[]:=by unfold yb1;simp
 have hlen:(yb1 x y n).length=x.length+1:=by unfold yb1;simp only[List.length_append,List.length_cons,List.length_take,List.length_drop];omega
 have lt:len (bL tP (x.take n))=n:=by rw[l9];exact hd
 have ld:len (bL tP (x.drop n))=x.length - n:=by rw[L1,List.length_drop]
 have b1:(Nat.beq 1 1&&Nat.ble ((1+(x.length - n))*32) room)=true:=by rw[Y7 (by omega)];rfl
 have b2:(Nat.beq 0 0&&Nat.ble ((0+n)*32) room)=true:=by rw[Y7 (by omega)];rfl
 have e0:app [] (bL tP (x.take n))=bL tP (x.take n):=rfl
 have b3:(Nat.beq (0+n) n&&Nat.ble (((0+n)+1)*32) room)=true:=by rw[Y7 (by omega),Nat.zero_add,Nat.beq_refl];rfl
 have l3:len (bL tP (x.take n++[y]))=n+1:=by rw[L1,List.length_append,List.length_take];simp only[List.length_singleton];omega
 have b4:(Nat.beq ((0+n)+1) (n+1)&&Nat.ble ((((0+n)+1)+(x.length - n))*32) room)=true:=by rw[Y7 (by omega),Nat.zero_add,Nat.beq_refl];rfl
 have z0:∀ {k:Nat},Nat.beq k 0=true→k=0:=fun {k} h=>Nat.eq_of_beq_eq_true h
 have fin:∀ m r,m=x.length+1→r=bL tP (yb1 x y n)→Rd (one (r1L tP)) (some (.sl 0 0 m 0,[⟨50,4,r,true,false,0⟩])) (fun r=>r≠[]∧r.length≤x.length+1∧∀ p∈r,p=y∨p∈x) :=
  fun m r hm hr=>Zc2 (by rw[hlen];exact hm) hr ⟨hne,by omega,hmem⟩
 have tail : Rd (one (r1L tP)) (sl (Nat.beq n 0) (sl (Nat.beq (x.length - n) 0) (some ((.sl 0 0 1 0), [⟨50, 4, [[(i y.n.x), (i y.n.y), (i y.n.z), (i y.b)]], true, false, 0⟩]))
   (some ((.sl 0 0 (1+(x.length - n)) 0),[⟨50,4,(app [[(i y.n.x),(i y.n.y),(i y.n.z),(i y.b)]] (bL tP (x.drop n))),true,false,0⟩])))
   (sl (Nat.beq (x.length - n) 0) (some ((.sl 0 0 ((0+n)+1) 0),[⟨50,4,bL tP (x.take n++[y]),true,false,0⟩]))
    (some ((.sl 0 0 (((0+n)+1)+(x.length - n)) 0),[⟨50,4,(app (bL tP (x.take n++[y])) (bL tP (x.drop n))),true,false,0⟩])))) (fun r=>r≠[]∧r.length≤x.length+1∧∀ p∈r,p=y∨p∈x):=by
  refine Rd.sl (fun q1=>Rd.sl (fun q2=>?_) (fun q2=>?_)) (fun q1=>Rd.sl (fun q2=>?_) (fun q2=>?_))
  ·have:=z0 q1;have:=z0 q2
   refine fin _ _ (by omega) ?_
   have:x=[]:=List.eq_nil_of_length_eq_zero (by omega)
   subst this
   rw[show n=0 by omega];rfl
  ·have:=z0 q1;subst this
   exact fin _ _ (by omega) rfl
  ·have:=z0 q2
   refine fin _ _ (by omega) ?_
   unfold yb1
   rw[show x.drop n=[] from List.drop_eq_nil_of_le (by omega)]
  ·refine fin _ _ (by omega) ?_
   rw[La3]
   unfold yb1
   rw[List.append_assoc];rfl
 have same:∀ p:Pln,(p.n.x==y.n.x&&(p.n.y==y.n.y&&(p.n.z==y.n.z&&(p.b==y.b&&true))))=true→n < x.length→Rd (one (r1L tP)) (some (eL tP x,[])) (fun r=>r≠[]∧r.length≤x.length+1∧∀ p∈r,p=y∨p∈x):=fun p _ hn =>
  ⟨_,x,rfl,Cd4 tP x,List.ne_nil_of_length_pos (by omega),Nat.le_succ _,fun p hp=>Or.inr hp⟩
 unfold Na2
 simp only[l8,l6]
 rw[h1]
 simp only[Int.toNat_natCast,Cc8 x n h3,Cc9,lt,ld,b1,b2,e0,b3,Fb6,l3,b4,hlo,n5]
 have main : Rd (one (r1L tP)) (sl (decide ((n : Int) < (x.length : Int))) (sl (inB (n : Int) x.length) (sl (((gL tP x n).n.x == y.n.x) && (((gL tP x n).n.y == y.n.y) && (((gL tP x n).n.z == y.n.z) && (((gL tP x n).b == y.b) && true)))) (some (eL tP x, []))
   (sl (Nat.beq n 0) (sl (Nat.beq (x.length - n) 0) (some ((.sl 0 0 1 0),[⟨50,4,[[(i y.n.x),(i y.n.y),(i y.n.z),(i y.b)]],true,false,0⟩]))
   (some ((.sl 0 0 (1+(x.length - n)) 0),[⟨50,4,(app [[(i y.n.x),(i y.n.y),(i y.n.z),(i y.b)]] (bL tP (x.drop n))),true,false,0⟩])))
   (sl (Nat.beq (x.length - n) 0) (some ((.sl 0 0 ((0+n)+1) 0),[⟨50,4,bL tP (x.take n++[y]),true,false,0⟩]))
    (some ((.sl 0 0 (((0+n)+1)+(x.length - n)) 0),[⟨50,4,(app (bL tP (x.take n++[y])) (bL tP (x.drop n))),true,false,0⟩]))))) none)
   (sl (Nat.beq n 0) (sl (Nat.beq (x.length - n) 0) (some ((.sl 0 0 1 0),[⟨50,4,[[(i y.n.x),(i y.n.y),(i y.n.z),(i y.b)]],true,false,0⟩]))
   (some ((.sl 0 0 (1+(x.length - n)) 0),[⟨50,4,(app [[(i y.n.x),(i y.n.y),(i y.n.z),(i y.b)]] (bL tP (x.drop n))),true,false,0⟩])))
   (sl (Nat.beq (x.length - n) 0) (some ((.sl 0 0 ((0+n)+1) 0),[⟨50,4,bL tP (x.take n++[y]),true,false,0⟩]))
    (some ((.sl 0 0 (((0+n)+1)+(x.length - n)) 0),[⟨50,4,(app (bL tP (x.take n++[y])) (bL tP (x.drop n))),true,false,0⟩]))))) (fun r=>r≠[]∧r.length≤x.length+1∧∀ p∈r,p=y∨p∈x):=by
  by_cases hn:n < x.length
  ·rw[btD (l0 hn),bt (e8 hn)]
   exact Rd.sl (fun q=>same _ q hn) fun _=>tail
  ·rw[bfD (y5 hn)]
   exact tail
 rcases h2 with rfl | rfl
 ·exact main
 ·exact main
end Go.Ev.Ce
namespace Go.Ev.Ce
open Go Go.Ev Go.Ev.L Go.Proofs
theorem Dd6 (x:List Pln) (y:Pln) (hx:x.length≤1000000):ha9 x y=true:=(Vd8 x y hx).g
theorem oe9 (x:List Pln) (y:Pln) (hx:x.length≤1000000):D8 x y≠[]∧(D8 x y).length≤x.length+1∧∀ p∈D8 x y,p=y∨p∈x:=(Vd8 x y hx).p
structure Fc (ph:Nat) (out:List Pln) (m:Nat):Prop where
 h:(ph=0∧out=[])∨ph=1
 l:out.length≤m
theorem Fc.more {ph m m':Nat} {out:List Pln} (h:Fc ph out m) (hm:m≤m'):Fc ph out m':=⟨h.h,Nat.le_trans h.l hm⟩
theorem ie3 (l : List V3) (hl : l.length ≤ 48) (a c : Nat) (ha : a < l.length) (hc : c < a) (h0 : Nat) (out : List Pln) (m : Nat) (hm : m ≤ 900000) (hf : Fc h0 out m) :
  ∃ t s,lp (R2 ⟨l,(a:Int),(c:Int)⟩) ⟨h0,0,out⟩=(t,s)∧(t=s.ph+1∧Fc s.ph s.ga0 (m+100)):=by
 refine ja1 (step:=R2 ⟨l,(a:Int),(c:Int)⟩) (mk:=fun j (x:Nat×List Pln)=>(⟨x.1,(j:Int),x.2⟩:s7)) c (fun j x=>Fc x.1 x.2 (m+2*j)∧j≤48) (fun t s=>t=s.ph+1∧Fc s.ph s.ga0 (m+100)) (by omega) (fun j x hj hx=>?_) (fun j x hj hx=>?_) 0 (h0,out) ⟨hf,by omega⟩
 ·obtain⟨h,o⟩:=x
  obtain⟨⟨hx,hx2⟩,_⟩:=hx
  have hn:=o2 hj (show c≤4611686018427387904 by omega)
  have hh:∀ p,da5 p l=true:=fun p=>Dd5 p l (by omega)
  have hg1:∀ y,ha9 o y=true:=fun y=>Dd6 o y (by simp only at hx2;omega)
  have hp1:∀ y,D8 o y≠[]∧(D8 o y).length≤o.length+1:=fun y=>by have:=oe9 o y (by simp only at hx2;omega);exact⟨this.1,this.2.1⟩
  have hg2:∀ y z,ha9 (D8 o y) z=true:=fun y z=>Dd6 _ z (by have:=(hp1 y).2;simp only at hx2;omega)
  have hp2:∀ y z,(D8 (D8 o y) z).length≤o.length+2:=fun y z=>by
   have:=(oe9 (D8 o y) z (by have:=(hp1 y).2;simp only at hx2;omega)).2.1
   have:=(hp1 y).2
   omega
  simp only at hx hx2
  have stay:Fc h o (m+2*(j+1))∧j+1≤48:=⟨⟨hx,by omega⟩,by omega⟩
  have put1:∀ y,Fc 1 (D8 o y) (m+2*(j+1))∧j+1≤48:=fun y=>⟨⟨.inr rfl,by have:=(hp1 y).2;omega⟩,by omega⟩
  have put2:∀ y z,Fc 1 (D8 (D8 o y) z) (m+2*(j+1))∧j+1≤48:=fun y z=>⟨⟨.inr rfl,by have:=hp2 y z;omega⟩,by omega⟩
  rcases hx with⟨rfl,rfl⟩ | rfl
  ·show Nx (F5 Stp.next Stp.exit Stp.fail _ _) _ _
   simp only[F5,Fa2,Int.toNat_natCast,l8,L0,hh,hg1,hg2,hn]
   rw[btD (l0 hj),bt (e8 ha),bt (e8 (show c < l.length by omega)),bt (e8 (show j < l.length by omega))]
   simp only[n5]
   refine Nx.sl (fun _=>.nx ⟨(0,[]),rfl,stay⟩) fun _=>Nx.sl (fun _=>Nx.sl (fun _=>.nx ⟨(1,_),rfl,put2 _ _⟩) fun _=>.nx ⟨(1,_),rfl,put1 _⟩) fun _=>Nx.sl (fun _=>.nx ⟨(1,_),rfl,put1 _⟩) fun _=>.nx ⟨(0,[]),rfl,stay⟩
  ·show Nx (F6 Stp.next Stp.exit Stp.fail _ _) _ _
   simp only[F6,Fa2,Int.toNat_natCast,l8,L0,hh,hg1,hg2,hn]
   rw[btD (l0 hj),bt (e8 ha),bt (e8 (show c < l.length by omega)),bt (e8 (show j < l.length by omega))]
   simp only[n5]
   refine Nx.sl (fun _=>.nx ⟨(1,o),rfl,stay⟩) fun _=>Nx.sl (fun _=>Nx.sl (fun _=>.nx ⟨(1,_),rfl,put2 _ _⟩) fun _=>.nx ⟨(1,_),rfl,put1 _⟩) fun _=>Nx.sl (fun _=>.nx ⟨(1,_),rfl,put1 _⟩) fun _=>.nx ⟨(1,o),rfl,stay⟩
 ·obtain⟨h,o⟩:=x
  obtain⟨⟨hx,hx2⟩,h48⟩:=hx
  simp only at hx hx2
  rcases hx with⟨rfl,rfl⟩ | rfl
  ·refine⟨1,?_,rfl,⟨.inl ⟨rfl,rfl⟩,by show 0≤_;omega⟩⟩
   show F5 Stp.next Stp.exit Stp.fail _ _=_
   simp only[F5]
   rw[bfD (by omega)]
  ·refine⟨2,?_,rfl,⟨.inr rfl,by show o.length≤_;omega⟩⟩
   show F6 Stp.next Stp.exit Stp.fail _ _=_
   simp only[F6]
   rw[bfD (by omega)]
theorem ie4 (l : List V3) (hl : l.length ≤ 48) (a : Nat) (ha : a < l.length) (h0 : Nat) (out : List Pln) (m : Nat) (hm : m ≤ 800000) (hf : Fc h0 out m) :
  ∃ t s,lp (R3 ⟨(a:Int)⟩) ⟨h0,l,0,out⟩=(t,s)∧(t=s.ph+1∧Fc s.ph s.ga0 (m+5000)∧s.f0=l):=by
 refine ja1 (step:=R3 ⟨(a:Int)⟩) (mk:=fun j (x:Nat×List Pln)=>(⟨x.1,l,(j:Int),x.2⟩:s8)) a (fun j x=>Fc x.1 x.2 (m+100*j)∧j≤48) (fun t s=>t=s.ph+1∧Fc s.ph s.ga0 (m+5000)∧s.f0=l) (by omega) (fun j x hj hx=>?_) (fun j x hj hx=>?_) 0 (h0,out) ⟨hf,by omega⟩
 ·obtain⟨h,o⟩:=x
  obtain⟨hx,_⟩:=hx
  have hn:=o2 hj (show a≤4611686018427387904 by omega)
  simp only at hx
  obtain⟨t,s,e1,e2,e3⟩:=ie3 l hl a j ha hj h o (m+100*j) (by omega) hx
  obtain⟨s1,s2,s3⟩:=s
  simp only at e2 e3
  have go:Fc s1 s3 (m+100*(j+1))∧j+1≤48:=⟨e3.more (by omega),by omega⟩
  rcases hx.h with⟨rfl,rfl⟩ | rfl
  ·show Nx (F7 Stp.next Stp.exit Stp.fail _ _) _ _
   simp only[F7,l8,l6,hn]
   rw[btD (l0 hj),e1,e2]
   rcases e3.h with⟨rfl,rfl⟩ | rfl
   ·exact .nx ⟨(0,[]),rfl,go⟩
   ·exact .nx ⟨(1,s3),rfl,go⟩
  ·show Nx (F8 Stp.next Stp.exit Stp.fail _ _) _ _
   simp only[F8,l8,l6,hn]
   rw[btD (l0 hj),e1,e2]
   rcases e3.h with⟨rfl,rfl⟩ | rfl
   ·exact .nx ⟨(0,[]),rfl,go⟩
   ·exact .nx ⟨(1,s3),rfl,go⟩
 ·obtain⟨h,o⟩:=x
  obtain⟨hx,h48⟩:=hx
  simp only at hx
  have h2:=hx.more (show m+100*j≤m+5000 by omega)
  rcases hx.h with⟨rfl,rfl⟩ | rfl
  ·refine⟨1,?_,rfl,h2,rfl⟩
   show F7 Stp.next Stp.exit Stp.fail _ _=_
   simp only[F7]
   rw[bfD (by omega)]
  ·refine⟨2,?_,rfl,h2,rfl⟩
   show F8 Stp.next Stp.exit Stp.fail _ _=_
   simp only[F8]
   rw[bfD (by omega)]
theorem ie5 (l : List V3) (hl : l.length ≤ 48) :
  ∃ t s,lp (na3 ⟨⟩) ⟨0,l,0,[]⟩=(t,s)∧(t=s.ph+1∧Fc s.ph s.ga0 250000):=by
 refine ja1 (step:=na3 ⟨⟩) (mk:=fun j (x:Nat×List Pln)=>(⟨x.1,l,(j:Int),x.2⟩:w8)) l.length (fun j x=>Fc x.1 x.2 (5000*j)∧j≤48) (fun t s=>t=s.ph+1∧Fc s.ph s.ga0 250000) (by omega) (fun j x hj hx=>?_) (fun j x hj hx=>?_) 0 (0,[]) ⟨⟨.inl ⟨rfl,rfl⟩,Nat.le_refl _⟩,by omega⟩
 ·obtain⟨h,o⟩:=x
  obtain⟨hx,_⟩:=hx
  have hn:=o2 hj (show l.length≤4611686018427387904 by omega)
  simp only at hx
  obtain⟨t,s,e1,e2,e3,e4⟩:=ie4 l hl j hj h o (5000*j) (by omega) hx
  obtain⟨s1,s2,s3,s4⟩:=s
  simp only at e2 e3 e4
  subst e4
  have go:Fc s1 s4 (5000*(j+1))∧j+1≤48:=⟨e3.more (by omega),by omega⟩
  rcases hx.h with⟨rfl,rfl⟩ | rfl
  ·show Nx (F9 Stp.next Stp.exit Stp.fail ⟨⟩ _) _ _
   simp only[F9,l8,l6,hn]
   rw[btD (l0 hj),e1,e2]
   rcases e3.h with⟨rfl,rfl⟩ | rfl
   ·exact .nx ⟨(0,[]),rfl,go⟩
   ·exact .nx ⟨(1,s4),rfl,go⟩
  ·show Nx (G0 Stp.next Stp.exit Stp.fail ⟨⟩ _) _ _
   simp only[G0,l8,l6,hn]
   rw[btD (l0 hj),e1,e2]
   rcases e3.h with⟨rfl,rfl⟩ | rfl
   ·exact .nx ⟨(0,[]),rfl,go⟩
   ·exact .nx ⟨(1,s4),rfl,go⟩
 ·obtain⟨h,o⟩:=x
  obtain⟨hx,h48⟩:=hx
  simp only at hx
  have h2:=hx.more (show 5000*j≤250000 by omega)
  rcases hx.h with⟨rfl,rfl⟩ | rfl
  ·refine⟨1,?_,rfl,h2⟩
   show F9 Stp.next Stp.exit Stp.fail ⟨⟩ _=_
   simp only[F9]
   rw[bfD (by omega)]
  ·refine⟨2,?_,rfl,h2⟩
   show G0 Stp.next Stp.exit Stp.fail ⟨⟩ _=_
   simp only[G0]
   rw[bfD (by omega)]
theorem Vd9 (l:List Pln) (n:Int):(two (r1L tP) r1I).rd (.tup [eL tP l,i n],[])=some (l,n):=by
 have h:(r1L tP).rd [] (eL tP l)=some l:=by
  show Bool.rec (motive:=fun _=>Option (List Pln)) none (some (rt tP l)) (Bool.and (Nat.beq tP.es tP.es) (okE tP l))=_
  rw[l8,L0,Nat.beq_refl]
  rfl
 simp only[two,h]
 rfl
theorem nd7 (l:List V3) (hl:l.length≤48):Rd (two (r1L tP) r1I) (wa1 l) (fun r=>r.1.length≤250000):=by
 obtain⟨t,s,e1,e2,e3⟩:=ie5 l hl
 unfold wa1
 simp only[l8,l6,L0,Qc6 l (show l.length≤1000000000 by omega),n5]
 refine Rd.sl (fun _=>⟨_,([],Ra9 l),rfl,rfl,Nat.zero_le _⟩) fun _=>?_
 rw[e1,e2]
 obtain⟨s1,s2,s3,s4⟩:=s
 simp only at e3 ⊢
 rcases e3.h with⟨rfl,rfl⟩ | rfl
 ·exact⟨_,([],0),rfl,rfl,Nat.zero_le _⟩
 ·exact⟨_,(s4,0),rfl,Vd9 s4 0,e3.l⟩
theorem Dd7 (l:List V3) (hl:l.length≤48):wa2 l=true:=(nd7 l hl).g
theorem ie6 (l:List V3) (hl:l.length≤48):(Sa1 l).1.length≤250000:=(nd7 l hl).p
def phV (out:List V3):Nat:=match out with
 | []=>0
 | _::_=>1
theorem ie7 (out:List V3) (x:V3):phV (out++[x])=1:=by cases out<;>rfl
theorem nd8 (l:List V3) (x1 x2 x3:Int):app (bL tV l) [[i x1,i x2,i x3]]=bL tV (l++[⟨x1,x2,x3⟩]):=La3 tV l [⟨x1,x2,x3⟩]
theorem Fe7 {l:List V3} {m:Nat} (h:m < l.length):(((Nat.blt (0+m) (len (bL tV l)))&&(Nat.ble (0+3) (len (m8 (bL tV l) (0+m)))))&&(R5 [(CK.int .i64),(CK.int .i64),(CK.int .i64)] (g9 (m8 (bL tV l) (0+m)) 0)))=true:=by
 rw[Nat.zero_add,da8 tV h,L1,show Nat.blt m l.length=true from by rw[Nat.blt_eq];exact h]
 rfl
theorem Fe8 {l:List V3} {m:Nat} (h:m < l.length):(((Nat.blt (0+m) (len (bL tV l)))&&(Nat.ble (2+1) (len (m8 (bL tV l) (0+m)))))&&(R5 [(CK.int .i64)] (g9 (m8 (bL tV l) (0+m)) 2)))=true:=by
 rw[Nat.zero_add,da8 tV h,L1,show Nat.blt m l.length=true from by rw[Nat.blt_eq];exact h]
 rfl
theorem Fe9 {n:Nat} {l:List V3} (hn:l.length=n) (h:n≤1000000000):(Nat.beq n (len (bL tV l))&&Nat.ble ((n+1)*24) room)=true:=by
 subst hn
 rw[L1,Nat.beq_refl,Bool.true_and,Nat.ble_eq]
 unfold room
 omega
theorem ie8 (x : List Int) (N : Nat) (h4 : 4 ≤ N) (h8 : N ≤ 8) (j0 : Int) (hj0 : 0 ≤ j0 ∧ j0 ≤ 10) :
  ∃ idx out,lp (Ca2 ⟨(N:Int)⟩) ⟨0,0,x,j0,0,[]⟩=(2,⟨1,(N:Int),x,idx,N,bL tV out⟩)∧out.length=N:=by
 have key:=ja1 (step:=Ca2 ⟨(N:Int)⟩) (mk:=fun j (a:Int×List V3)=>(⟨phV a.2,(j:Int),x,a.1,a.2.length,bL tV a.2⟩:B0)) N
  (fun j a=>a.2.length=j∧0≤a.1∧a.1≤10+4*j∧j≤N) (fun t s=>t=2∧∃ idx out,s=⟨1,(N:Int),x,idx,N,bL tV out⟩∧out.length=N) (by omega) (fun j a hj ha=>?_) (fun j a hj ha=>?_) 0 (j0,[]) ⟨rfl,hj0.1,by omega,by omega⟩
 ·obtain⟨t,s,e1,rfl,idx,out,e2,e3⟩:=key
  exact⟨idx,out,by rw[← e2];exact e1,e3⟩
 ·obtain⟨at0,out⟩:=a
  obtain⟨ho,ha1,ha2,_⟩:=ha
  simp only at ho ha1 ha2
  have hn:=o2 hj (show N≤4611686018427387904 by omega)
  obtain⟨v1,j1,d1,_,_,c1,b1⟩:=Y9 17 x at0 ha1 (by omega) (by omega) (by omega)
  obtain⟨v2,j2,d2,_,_,c2,b2⟩:=Y9 17 x j1 (by omega) (by omega) (by omega) (by omega)
  obtain⟨v3,j3,d3,_,_,c3,b3⟩:=Y9 17 x j2 (by omega) (by omega) (by omega) (by omega)
  obtain⟨v4,j4,d4,_,_,c4,b4⟩:=Y9 6 x j3 (by omega) (by omega) (by omega) (by omega)
  have leaf : ∀ (E : Nat → Prop) (x1 x2 x3 : Int), Nx (.next (⟨1, ((j + 1 : Nat) : Int), x, j4, j + 1, bL tV (out ++ [⟨x1, x2, x3⟩])⟩ : B0)) E
    (fun s=>∃ a':Int×List V3,s=⟨phV a'.2,((j+1:Nat):Int),x,a'.1,a'.2.length,bL tV a'.2⟩∧a'.2.length=j+1∧0≤a'.1∧a'.1≤10+4*((j+1:Nat):Int)∧j+1≤N):=fun E x1 x2 x3=>by
   have hl:(out++[(⟨x1,x2,x3⟩:V3)]).length=j+1:=by simp[ho]
   exact .nx ⟨(j4,out++[⟨x1,x2,x3⟩]),by simp only[ie7,hl],hl,by show 0≤j4;omega,by show j4≤_;omega,by omega⟩
  cases out with
  | nil =>
   have hj0':j=0:=by simpa using ho.symm
   subst hj0'
   show Nx (na4 Stp.next Stp.exit Stp.fail _ _) _ _
   simp only[na4,l8,l6,d1,d2,d3,d4,hn]
   rw[btD (l0 hj)]
   have f1:decide (((0:Nat):Int) > 1)=false:=rfl
   have f2:decide (((0:Nat):Int) > 0)=false:=rfl
   have f3:decide (((0:Nat):Int) > 2)=false:=rfl
   have lf:∀ (E:Nat→Prop) (x1 x2 x3:Int),Nx (.next (⟨1,((0+1:Nat):Int),x,j4,1,[[i x1,i x2,i x3]]⟩:B0)) E _:=leaf
   simp only[f1,f2,f3,ea1,Nat.beq_refl,Bool.and_true,n5]
   refine Nx.sl (fun _=>?_) (fun _=>?_)<;>refine Nx.sl (fun _=>?_) (fun _=>?_)
   all_goals first
    | exact lf _ _ _ _
    | (refine Nx.sl (fun _=>?_) (fun _=>?_)<;>exact lf _ _ _ _)
  | cons o os =>
   have h1:1≤j:=by simp only[List.length_cons] at ho;omega
   generalize hO:o::os=O at *
   have hph:phV O=1:=by subst hO;rfl
   have w1:W ((j:Int) - 1)=((j - 1:Nat):Int):=by rw[Z3 (by omega) (by omega)];omega
   have i1:inB ((j - 1:Nat):Int) j=true:=e8 (by omega)
   have r1:=Fe7 (l:=O) (m:=j - 1) (by omega)
   have r1':=Fe8 (l:=O) (m:=j - 1) (by omega)
   have rr:=Fe9 ho (by omega)
   have f2:∀ {inst:Decidable ((j:Int) > 0)},@decide ((j:Int) > 0) inst=true:=decide_eq_true (by omega)
   show Nx (sel (Nat.beq (phV O) 1) (J9 Stp.next Stp.exit Stp.fail _ _) _) _ _
   rw[hph]
   show Nx (J9 Stp.next Stp.exit Stp.fail _ _) _ _
   by_cases h2:2≤j
   ·have w2:W ((j:Int) - 2)=((j - 2:Nat):Int):=by rw[Z3 (by omega) (by omega)];omega
    have i2:inB ((j - 2:Nat):Int) j=true:=e8 (by omega)
    have r2:=Fe7 (l:=O) (m:=j - 2) (by omega)
    simp only[J9,l8,l6,d1,d2,d3,d4,hn,ho,w1,w2,i1,i2,Int.toNat_natCast,r1,r1',r2,rr,nd8]
    rw[btD (l0 hj)]
    simp only[Nat.beq_refl,Bool.and_true,n5]
    repeat' (first | exact leaf _ _ _ _ | refine Nx.sl (fun _=>?_) (fun _=>?_))
   ·have hj1:j=1:=by omega
    subst hj1
    simp only[J9,l8,l6,d1,d2,d3,d4,hn,ho,w1,i1,Int.toNat_natCast,r1,r1',rr,nd8]
    have f1:decide (((1:Nat):Int) > 1)=false:=rfl
    rw[btD (l0 hj)]
    simp only[f1,ea1,Nat.beq_refl,Bool.and_true,n5]
    repeat' (first | exact leaf _ _ _ _ | refine Nx.sl (fun _=>?_) (fun _=>?_))
 ·obtain⟨at0,out⟩:=a
  obtain⟨ho,ha1,ha2,hjN⟩:=ha
  simp only at ho ha1 ha2
  have hj':j=N:=by omega
  subst hj'
  cases out with
  | nil=>simp only[List.length_nil] at ho;omega
  | cons o os =>
   refine⟨2,?_,rfl,at0,o::os,by rw[ho];rfl,ho⟩
   show J9 Stp.next Stp.exit Stp.fail _ _=_
   simp only[J9]
   rw[bfD (by omega)]
theorem Wd0 {l:List V3} {n:Nat} {r:List (List b7)} {P:List V3→Prop} (hn:n=l.length) (hr:r=bL tV l) (h:P l):Rd (one (r1L tV)) (some (.sl 0 0 n 0,[⟨36,3,r,true,false,0⟩])) P:=by
 subst hn hr
 refine⟨_,l,rfl,?_,h⟩
 show Bool.rec (motive:=fun _=>Option (List V3)) none (some (slR tV (bL tV l) 0 l.length)) (Bool.and true (okS tV (bL tV l) 0 l.length))=_
 rw[Bb8,Bb9]
 rfl
theorem Qc7 (x:List Int):Rd (one (r1L tV)) (Ja2 x) (fun r=>4≤r.length∧r.length≤8):=by
 obtain⟨v,j,e1,a1,b1,c1,d1⟩:=Y9 5 x 0 (by omega) (by omega) (by omega) (by omega)
 have hN:W (4+v)=(((4+v).toNat:Nat):Int):=by rw[Z3 (by omega) (by omega)];omega
 obtain⟨idx,out,e2,e3⟩:=ie8 x (4+v).toNat (by omega) (by omega) j (by omega)
 unfold Ja2
 simp only[l8,l6,e1,hN,e2]
 have h4:4≤(4+v).toNat:=by omega
 have h8:(4+v).toNat≤8:=by omega
 generalize (4+v).toNat=N at *
 have s1:lsL tV N (fun k=>m8 (bL tV out) (0+k))=out:=by rw[← e3];exact Bb8 tV out
 have s2:okL tV N (fun k=>m8 (bL tV out) (0+k))=true:=by rw[← e3];exact Bb9 tV out
 have gf:Na1 out=true:=xd2 out (by omega)
 rw[s1,s2,gf]
 simp only[Nat.beq_refl,Bool.and_true,n5,show Nat.beq 2 1=false from rfl,ea1]
 refine Rd.sl (fun _=>?_) fun _=>Wd0 e3.symm rfl ⟨by omega,by omega⟩
 have i0:inB 0 N=true:=e8 (j:=0) (by omega)
 have i1:inB 1 N=true:=e8 (j:=1) (by omega)
 have i2:inB 2 N=true:=e8 (j:=2) (by omega)
 have i3:inB 3 N=true:=e8 (j:=3) (by omega)
 have sp:∀ (v:V3) (x1 x2 x3:Int),U4 (tV.row v) 0 [i x1,i x2,i x3]=tV.row ⟨x1,x2,x3⟩:=fun _ _ _ _=>rfl
 have rl:∀ v:V3,Nat.ble (0+3) (len (tV.row v))=true:=fun _=>rfl
 have ck:∀ v:V3,R5 [(CK.int .i64),(CK.int .i64),(CK.int .i64)] (g9 (tV.row v) 0)=true:=fun _=>rfl
 have gr:∀ (l:List V3) (k:Nat),l.length=N→k < 4→m8 (bL tV l) k=tV.row (gL tV l k):=fun l k hl hk=>da8 tV (by omega)
 have bl:∀ (l:List V3) (k:Nat),l.length=N→k < 4→Nat.blt k (len (bL tV l))=true:=fun l k hl hk=>by rw[L1,Nat.blt_eq];omega
 have ls:∀ (l:List V3) (k:Nat) (v:V3),l.length=N→(l.set k v).length=N:=fun l k v hl=>by rw[List.length_set];exact hl
 rw[gr out 0 e3 (by omega),gr out 1 e3 (by omega)]
 simp only[sp,Cb0]
 rw[gr _ 2 (ls out 1 _ e3) (by omega)]
 simp only[sp,Cb0]
 rw[gr _ 3 (ls _ 2 _ (ls out 1 _ e3)) (by omega)]
 simp only[sp,Cb0,rl,ck,i0,i1,i2,i3,bl out 0 e3 (by omega),bl out 1 e3 (by omega),bl _ 2 (ls out 1 _ e3) (by omega),bl _ 3 (ls _ 2 _ (ls out 1 _ e3)) (by omega),Bool.and_true,n5]
 exact Wd0 (by simp only[List.length_set];omega) rfl (by simp only[List.length_set];omega)
theorem nd9 (x:List Int):Ja3 x=true:=(Qc7 x).g
theorem od0 (x:List Int):4≤(M7 x).length∧(M7 x).length≤8:=(Qc7 x).p
end Go.Ev.Ce
namespace Go.Ev.Ce
open Go Go.Ev Go.Ev.L Go.Proofs
theorem Zc3 {l:List Pln} {P:List Pln→Prop} (h:P l):Rd (one (r1L tP)) (some (eL tP l,[])) P:=⟨_,l,rfl,Cd4 tP l,h⟩
theorem Dd8 (x:List Int):Rd (one (r1L tP)) (Ea1 x) (fun r=>r.length≤250000):=by
 obtain⟨v1,j1,e1,a1,b1,c1,d1⟩:=Y9 4 x 0 (by omega) (by omega) (by omega) (by omega)
 obtain⟨w1,w2,w3,j2,e2,p1,p2,p3,c2,d2⟩:=Fb5 6 x j1 (by omega) (by omega) (by omega) (by omega)
 obtain⟨v3,j3,e3,a3,b3,c3,d3⟩:=Y9 6 x j2 (by omega) (by omega) (by omega) (by omega)
 obtain⟨v4,j4,e4,a4,b4,c4,d4⟩:=Y9 6 x j3 (by omega) (by omega) (by omega) (by omega)
 obtain⟨v5,j5,e5,a5,b5,c5,d5⟩:=Y9 6 x j4 (by omega) (by omega) (by omega) (by omega)
 have hin:inB (if 7 < (x.length:Int) then 7 else (x.length:Int)) (x.length+1)=true:=by
  rw[Uc6]
  apply decide_eq_true
  split<;>omega
 have hok:∀ n m,okL tI n (fun k=>(fun k=>tI.row (gL tI x k)) (m+k))=true:=fun n m=>sb2 tI (f:=fun k=>gL tI x (m+k)) fun _ _=>rfl
 unfold Ea1
 simp only[l8,l6,L0,e1,e2,e3,e4,e5,Td8,Td9,hin,hok,Pa3,Zc0,nd9,Nat.beq_refl,Bool.and_true,n5]
 generalize hL:lsL tI _ _=L
 generalize hB:Ac6 _ _=B
 have hB6:B.length=6:=by rw[← hB];rfl
 have hl6:len (bL tP B)=6:=by rw[L1,hB6]
 have ea:app [] (bL tP B)=bL tP B:=rfl
 have es:∀ q:Pln,slR tP (bL tP (B++[q])) 0 (0+6+1)=B++[q]:=fun q=>by
  have:=Bb8 tP (B++[q])
  rw[List.length_append,hB6] at this
  exact this
 have eo:∀ q:Pln,okS tP (bL tP (B++[q])) 0 (0+6+1)=true:=fun q=>by
  have:=Bb9 tP (B++[q])
  rw[List.length_append,hB6] at this
  exact this
 have gF:∀ q:Pln,Da4 (B++[q])=true:=fun q=>Cd8 (by rw[List.length_append,hB6];exact (by decide:6+1≤1000000000))
 have q1:Nat.ble ((0+6)*32) room=true:=Y7 (by omega)
 have q2:Nat.ble (((0+6)+1)*32) room=true:=Y7 (by omega)
 have q3:Nat.beq (0+6) 6=true:=rfl
 have hp:=od0 L
 have gf:wa2 (M7 L)=true:=Dd7 _ (by omega)
 have pf:=ie6 (M7 L) (by omega)
 simp only[hl6,ea,Fb6,es,eo,gF,q1,q2,q3,Bool.and_self,gf,n5,show Nat.beq 6 0=false from rfl,ea1]
 have box:Rd (one (r1L tP)) (some (eL tP B,[])) (fun r=>r.length≤250000):=Zc3 (by rw[hB6];omega)
 have fcs:Rd (one (r1L tP)) (some (eL tP (Sa1 (M7 L)).1,[])) (fun r=>r.length≤250000):=Zc3 pf
 exact Rd.sl (fun _=>Rd.sl (fun _=>Zc2 (by rw[List.length_append,hB6];rfl) rfl (by rw[List.length_append,hB6];exact (by decide:6+1≤250000))) fun _=>Rd.sl (fun _=>Rd.sl (fun _=>fcs) fun _=>box) fun _=>box) fun _=>Rd.sl (fun _=>Rd.sl (fun _=>fcs) fun _=>box) fun _=>box
theorem ue9 (x:List Int):Sb0 x=true:=(Dd8 x).g
theorem ve0 (x:List Int):(db5 x).length≤250000:=(Dd8 x).p
theorem rc3 {l:List Pln} {k:Nat} (h:k < l.length):ldR tP (bL tP l) (0+k)=true:=by rw[Nat.zero_add];exact td8 tP h
theorem ac5 {l:List Pln} {k:Nat} (h:k < l.length):rdR tP (bL tP l) (0+k)=gL tP l k:=by rw[Nat.zero_add];exact td7 tP h
theorem ve1 {l:List Pln} {n:Nat} {r:List (List b7)} {P:List Pln→Prop} (hn:n≤l.length) (hr:r=bL tP l) (h:P (l.take n)):Rd (one (r1L tP)) (some (.sl 0 0 n 0,[⟨50,4,r,true,false,0⟩])) P:=by
 subst hr
 have e1:slR tP (bL tP l) 0 n=l.take n:=vc6 tP (by rw[List.length_take];omega) fun k hk=>by
  rw[Nat.zero_add,da8 tP (by omega)]
  congr 1
  simp[gL,List.getD_eq_getElem?_getD,List.getElem?_take,hk]
 have e2:okS tP (bL tP l) 0 n=true:=sb2 tP (f:=fun k=>gL tP l k) fun k hk=>by rw[Nat.zero_add,da8 tP (by omega)]
 refine⟨_,l.take n,rfl,?_,h⟩
 show Bool.rec (motive:=fun _=>Option (List Pln)) none (some (slR tP (bL tP l) 0 n)) (Bool.and true (okS tP (bL tP l) 0 n))=_
 rw[e1,e2]
 rfl
end Go.Ev.Ce
section
namespace Go.Ev.Ce
open Go Go.Ev Go.Ev.L Go.Proofs
set_option maxRecDepth 100000
structure Oa7 where
 oa2:Int
 oa3:Int
 oa4:Int
 fb0:Int
 j7:List Pt
noncomputable def Fb7:List (Nat×Sum):=[(102,jb4)]
theorem pc5:l5 prog G Fb7:=⟨tb5,trivial⟩
structure ra0 where
 Fd1:List Pt
 is8:Int
 j7:List Pt
 I5:Int
 I6:Int
 I7:Int
 I8:Int
structure M8 where
 is4:Int
 is9:Int
noncomputable def hc9 (p:ra0) (s:M8):St:=⟨(.unk::(.unk::((.ptr 1 0 0 0)::(.unk::((i s.is4)::(.unk::(.unk::((eL tX p.Fd1)::((i p.is8)::((i s.is9)::(ra 12 []))))))))))),[⟨0,1,[[(eL tX p.j7)]],true,false,0⟩,⟨0,4,[[(i p.I5),(i p.I6),(i p.I7),(i p.I8)]],true,false,0⟩]⟩
noncomputable def ja2 {α:Type} (k:M8→α) (e:Nat→α) (z:α) (p:ra0) (s:M8):α:=let t1:=(oa9 (⟨(⟨p.I5,p.I6,p.I7⟩:V3),p.I8⟩:Pln) (gL tX p.Fd1 s.is9.toNat));(sl (decide (s.is9 < p.is8)) (sl (inB s.is9 (List.length p.Fd1)) (sl (t1==0) (k ⟨(W (s.is4+1)),(W (s.is9+1))⟩) (k ⟨s.is4,(W (s.is9+1))⟩)) z) (e 1))
noncomputable def na8 (p:ra0) (s:M8):Stp M8:=ja2 .next .exit .fail p s
noncomputable def Va2:Lo ra0 M8:=⟨En Fb7,1,me5,[1,1,0,1,4,4],[2,4,7,8,9],.p,[⟨((.s (.o .unk))::((.s (.o .unk))::((.s (.o (.ptr 1 0 0 0)))::((.s (.o .unk))::((.s (.o (.int .i64)))::((.s (.o .unk))::((.s (.o .unk))::((.s (.c 4 (nL tX)))::((.s (.o (.int .i64)))::((.s (.o (.int .i64)))::(ru2 12 []))))))))))),[⟨0,1,true,(some [[(.c 4 (nL tX))]])⟩,⟨0,4,true,(some [[(.o (.int .i64)),(.o (.int .i64)),(.o (.int .i64)),(.o (.int .i64))]])⟩],fun a H=>(⟨(rL tX (slT a 7)),(toI (slT a 8)),(rL tX (slT (rwT (elT H 0) 0) 0)),(toI (slT (rwT (elT H 1) 0) 0)),(toI (slT (rwT (elT H 1) 0) 1)),(toI (slT (rwT (elT H 1) 0) 2)),(toI (slT (rwT (elT H 1) 0) 3))⟩,⟨(toI (slT a 4)),(toI (slT a 9))⟩)⟩],na8,[(some 0,fun p s=>⟨(.unk::(.unk::((.ptr 1 0 0 0)::(.unk::((i s.is4)::(.unk::(.unk::((eL tX p.Fd1)::((i p.is8)::((i s.is9)::((b (decide (s.is9 < p.is8)))::(ra 11 [])))))))))))),[⟨0,1,[[(eL tX p.j7)]],true,false,0⟩,⟨0,4,[[(i p.I5),(i p.I6),(i p.I7),(i p.I8)]],true,false,0⟩]⟩)],hc9⟩
theorem ic0:Va2.Ok:=Lo.ok [] (by kernel_rfl) .nil rfl (.cons (fun a H=>by kernel_rfl) .nil) fun p s=>(.of @ja2 (fun F _ _ _ _ _=>by unfold ja2;(repeat' apply o0 (f:=F))<;>rfl) (by kernel_rfl))
structure sa3 where
 alt:Nat
 bs0:Bool
 j7:List Pt
noncomputable def sa4 {α:Type} (kk:sa3→α) (x:Oa7):α:=let t1:=(lp (na8 (⟨(rt tX x.j7),(↑(List.length x.j7):Int),(rt tX x.j7),x.oa2,x.oa3,x.oa4,x.fb0⟩:ra0)) (⟨0,0⟩:M8));(sl ((cnE tX x.j7)&&((cnE tX x.j7)&&true)) (sl (Nat.beq t1.1 1) (kk ⟨1,(decide (t1.2.is4 < 3)),(rt tX x.j7)⟩) (kk ⟨0,false,[]⟩)) (kk ⟨0,false,[]⟩))
noncomputable def ka5 (x:Oa7):sa3:=sa4 (fun r=>r) x
noncomputable def db7 (x:Oa7) (r:sa3):DT (b7×List b8):=(.ite (Nat.beq r.alt 1) (.ret ((b r.bs0),[⟨0,1,[[(eL tX r.j7)]],true,false,0⟩])) .fail)
theorem Kc6 {α β:Type} (F:α→β) (kk:sa3→α) (x:Oa7):F (sa4 kk x)=sa4 (fun r=>F (kk r)) x:=by unfold sa4;(repeat' apply o0 (f:=F))<;>rfl
noncomputable def mb9:Sum:=ab8 ⟨[(.agg [(.o (.int .i64)),(.o (.int .i64)),(.o (.int .i64)),(.o (.int .i64))]),(.s (.o (.ptr 0 0 0 0)))],[⟨0,1,true,(some [[(.c 4 (nL tX))]])⟩],fun a H=>(⟨(toI (slT (cellsOf (slT a 0)) 0)),(toI (slT (cellsOf (slT a 0)) 1)),(toI (slT (cellsOf (slT a 0)) 2)),(toI (slT (cellsOf (slT a 0)) 3)),(rL tX (slT (rwT (elT H 0) 0) 0))⟩,())⟩ (fun x=>db7 x (ka5 x))
theorem Fb8:j6 prog G 101 mb9:=S1 (enc:=fun x=>⟨[(.agg [(i x.oa2),(i x.oa3),(i x.oa4),(i x.fb0)]),(.ptr 0 0 0 0)],[⟨0,1,[[(eL tX x.j7)]],true,false,0⟩]⟩) (fun a H=>by kernel_rfl) (bd Le4 pc5) fun x=>Da2 (.s .p (.s .p (.s (.s .p (.b (.u Va2.ls))) .p))) [Va2.pr] (by kernel_rfl) (.cons ic0 .nil) (Eq.trans (b:=sa4 (fun r=>(db7 x r).run) x) (by kernel_rfl) (Kc6 (fun r=>(db7 x r).run) (fun r=>r) x).symm)
structure T2 where
 ns0:Nat
 eh0:List (List b7)
 r6:List Pt
noncomputable def wa4:List (Nat×Sum):=[(101,mb9)]
theorem Ya2:l5 prog G wa4:=⟨Fb8,trivial⟩
structure H9 where
 ns0:Nat
 is7:Int
 eh0:List (List b7)
structure o7 where
 is8:Int
 r6:List Pt
noncomputable def Va3 (p:H9) (s:o7):St:=⟨((.sl 0 0 p.ns0 0)::((.fn 101 [(.ptr 1 0 0 0)])::(ra 5 ((i p.is7)::((i s.is8)::(ra 10 [])))))),[⟨50,4,p.eh0,true,false,0⟩,⟨0,1,[[(eL tX s.r6)]],true,false,0⟩]⟩
noncomputable def D1 {α:Type} (k:o7→α) (e:Nat→α) (z:α) (p:H9) (s:o7):α:=let t1:=(ka5 ⟨(rdR tP p.eh0 (0+s.is8.toNat)).n.x,(rdR tP p.eh0 (0+s.is8.toNat)).n.y,(rdR tP p.eh0 (0+s.is8.toNat)).n.z,(rdR tP p.eh0 (0+s.is8.toNat)).b,(rt tX s.r6)⟩);(sl (decide (s.is8 < p.is7)) (sl (inB s.is8 p.ns0) (sl (ldR tP p.eh0 (0+s.is8.toNat)) (sl ((cnE tX s.r6)&&true) (sl (Nat.beq t1.alt 1) (sl t1.bs0 (e 1) (k ⟨(W (s.is8+1)),t1.j7⟩)) z) z) z) z) (e 2))
noncomputable def G1 (p:H9) (s:o7):Stp o7:=D1 .next .exit .fail p s
noncomputable def ca4:Lo H9 o7:=⟨En wa4,2,Bd7,[1,0,1,4,4],[0,1,7,8],.p,[⟨((.s (.o (.sl 0 0 (some 0) none)))::((.fn 101 [(.o (.ptr 1 0 0 0))])::(ru2 5 ((.s (.o (.int .i64)))::((.s (.o (.int .i64)))::(ru2 10 [])))))),[⟨50,4,true,none⟩,⟨0,1,true,(some [[(.c 4 (nL tX))]])⟩],fun a H=>(⟨(slN (slT a 0)),(toI (slT a 7)),(elT H 0)⟩,⟨(toI (slT a 8)),(rL tX (slT (rwT (elT H 1) 0) 0))⟩)⟩],G1,[(none,fun p s=>let t1:=(ka5 ⟨(rdR tP p.eh0 (0+s.is8.toNat)).n.x,(rdR tP p.eh0 (0+s.is8.toNat)).n.y,(rdR tP p.eh0 (0+s.is8.toNat)).n.z,(rdR tP p.eh0 (0+s.is8.toNat)).b,(rt tX s.r6)⟩);⟨[(i s.is8)],[⟨50,4,p.eh0,true,false,0⟩,⟨0,1,[[(eL tX t1.j7)]],true,false,0⟩]⟩),(some 0,fun p s=>⟨((.sl 0 0 p.ns0 0)::((.fn 101 [(.ptr 1 0 0 0)])::(ra 5 ((i p.is7)::((i s.is8)::((b (decide (s.is8 < p.is7)))::(ra 9 []))))))),[⟨50,4,p.eh0,true,false,0⟩,⟨0,1,[[(eL tX s.r6)]],true,false,0⟩]⟩)],Va3⟩
theorem Va4:ca4.Ok:=Lo.ok [] (by kernel_rfl) .nil rfl (.cons (fun a H=>by kernel_rfl) .nil) fun p s=>(.of @D1 (fun F _ _ _ _ _=>by unfold D1;(repeat' apply o0 (f:=F))<;>rfl) (by kernel_rfl))
structure T3 where
 alt:Nat
 is0:Int
 r6:List Pt
noncomputable def D9 {α:Type} (kk:T3→α) (x:T2):α:=let t1:=(lp (G1 (⟨x.ns0,(↑x.ns0:Int),x.eh0⟩:H9)) (⟨0,(rt tX x.r6)⟩:o7));let t2:=(ka5 ⟨(rdR tP x.eh0 (0+t1.2.is8.toNat)).n.x,(rdR tP x.eh0 (0+t1.2.is8.toNat)).n.y,(rdR tP x.eh0 (0+t1.2.is8.toNat)).n.z,(rdR tP x.eh0 (0+t1.2.is8.toNat)).b,(rt tX t1.2.r6)⟩);(sl ((cnE tX x.r6)&&true) (sl (Nat.beq t1.1 1) (kk ⟨1,t1.2.is8,t2.j7⟩) (sl (Nat.beq t1.1 2) (kk ⟨1,(-1),t1.2.r6⟩) (kk ⟨0,0,[]⟩))) (kk ⟨0,0,[]⟩))
noncomputable def T4 (x:T2):T3:=D9 (fun r=>r) x
noncomputable def fa6 (x:T2) (r:T3):DT (b7×List b8):=(.ite (Nat.beq r.alt 1) (.ret ((i r.is0),[⟨50,4,x.eh0,true,false,0⟩,⟨0,1,[[(eL tX r.r6)]],true,false,0⟩])) .fail)
theorem gb6 {α β:Type} (F:α→β) (kk:T3→α) (x:T2):F (D9 kk x)=D9 (fun r=>F (kk r)) x:=by unfold D9;(repeat' apply o0 (f:=F))<;>rfl
noncomputable def ya8:Sum:=ab8 ⟨[(.s (.o (.sl 0 0 (some 0) none))),(.fn 101 [(.o (.ptr 1 0 0 0))])],[⟨50,4,true,none⟩,⟨0,1,true,(some [[(.c 4 (nL tX))]])⟩],fun a H=>(⟨(slN (slT a 0)),(elT H 0),(rL tX (slT (rwT (elT H 1) 0) 0))⟩,())⟩ (fun x=>fa6 x (T4 x))
theorem db8:j6 prog G 163 ya8:=S1 (enc:=fun x=>⟨[(.sl 0 0 x.ns0 0),(.fn 101 [(.ptr 1 0 0 0)])],[⟨50,4,x.eh0,true,false,0⟩,⟨0,1,[[(eL tX x.r6)]],true,false,0⟩]⟩) (fun a H=>by kernel_rfl) (bd se9 Ya2) fun x=>Da2 (.s .p (.s (.s .p (.b (.u ca4.ls))) .p)) [ca4.pr] (by kernel_rfl) (.cons Va4 .nil) (Eq.trans (b:=D9 (fun r=>(fa6 x r).run) x) (by kernel_rfl) (gb6 (fun r=>(fa6 x r).run) (fun r=>r) x).symm)
structure T5 where
 ns0:Nat
 eh0:List (List b7)
 r6:List Pt
noncomputable def wa5:List (Nat×Sum):=[(163,ya8),(101,mb9)]
theorem Ya3:l5 prog G wa5:=⟨db8,Fb8,trivial⟩
structure I0 where
 ns0:Nat
structure p9 where
 is5:Int
 is6:Int
 eh0:List (List b7)
 r6:List Pt
noncomputable def Va5 (p:I0) (s:p9):St:=⟨((.sl 0 0 p.ns0 0)::((.fn 101 [(.ptr 1 0 0 0)])::(ra 3 ((i s.is5)::((i s.is6)::(ra 35 [])))))),[⟨50,4,s.eh0,true,false,0⟩,⟨0,1,[[(eL tX s.r6)]],true,false,0⟩]⟩
noncomputable def D2 {α:Type} (k:p9→α) (e:Nat→α) (z:α) (p:I0) (s:p9):α:=let t1:=(ka5 ⟨(rdR tP s.eh0 (0+s.is6.toNat)).n.x,(rdR tP s.eh0 (0+s.is6.toNat)).n.y,(rdR tP s.eh0 (0+s.is6.toNat)).n.z,(rdR tP s.eh0 (0+s.is6.toNat)).b,(rt tX s.r6)⟩);(sl (decide (s.is6 < (↑p.ns0:Int))) (sl (inB s.is6 p.ns0) (sl (ldR tP s.eh0 (0+s.is6.toNat)) (sl ((cnE tX s.r6)&&true) (sl (Nat.beq t1.alt 1) (sl (!t1.bs0) (sl (inB s.is5 p.ns0) (sl ((Nat.blt (0+s.is5.toNat) (len s.eh0))&&(Nat.ble (0+4) (len (m8 s.eh0 (0+s.is5.toNat))))) (k ⟨(W (s.is5+1)),(W (s.is6+1)),(setAt s.eh0 (0+s.is5.toNat) (U4 (m8 s.eh0 (0+s.is5.toNat)) 0 [(i (rdR tP s.eh0 (0+s.is6.toNat)).n.x),(i (rdR tP s.eh0 (0+s.is6.toNat)).n.y),(i (rdR tP s.eh0 (0+s.is6.toNat)).n.z),(i (rdR tP s.eh0 (0+s.is6.toNat)).b)])),t1.j7⟩) z) z) (k ⟨s.is5,(W (s.is6+1)),s.eh0,t1.j7⟩)) z) z) z) z) (e 1))
noncomputable def A7 (p:I0) (s:p9):Stp p9:=D2 .next .exit .fail p s
noncomputable def ca5:Lo I0 p9:=⟨En wa5,2,Be1,[1,1,1,0,1,4,4],[0,1,5,6],.p,[⟨((.s (.o (.sl 0 0 (some 0) none)))::((.fn 101 [(.o (.ptr 1 0 0 0))])::(ru2 3 ((.s (.o (.int .i64)))::((.s (.o (.int .i64)))::(ru2 35 [])))))),[⟨50,4,true,none⟩,⟨0,1,true,(some [[(.c 4 (nL tX))]])⟩],fun a H=>(⟨(slN (slT a 0))⟩,⟨(toI (slT a 5)),(toI (slT a 6)),(elT H 0),(rL tX (slT (rwT (elT H 1) 0) 0))⟩)⟩],A7,[(some 0,fun p s=>⟨((.sl 0 0 p.ns0 0)::((.fn 101 [(.ptr 1 0 0 0)])::(ra 3 ((i s.is5)::((i s.is6)::(ra 9 ((i s.is6)::((.sl 0 0 p.ns0 0)::((i (↑p.ns0:Int))::((b (decide (s.is6 < (↑p.ns0:Int))))::(ra 22 []))))))))))),[⟨50,4,s.eh0,true,false,0⟩,⟨0,1,[[(eL tX s.r6)]],true,false,0⟩]⟩)],Va5⟩
theorem Va6:ca5.Ok:=Lo.ok [] (by kernel_rfl) .nil rfl (.cons (fun a H=>by kernel_rfl) .nil) fun p s=>(.of @D2 (fun F _ _ _ _ _=>by unfold D2;(repeat' apply o0 (f:=F))<;>rfl) (by kernel_rfl))
structure T6 where
 alt:Nat
 ns0:Nat
 eh0:List (List b7)
 r6:List Pt
noncomputable def E0 {α:Type} (kk:T6→α) (x:T5):α:=let t1:=(T4 ⟨x.ns0,x.eh0,(rt tX x.r6)⟩);let t2:=(lp (A7 (⟨x.ns0⟩:I0)) (⟨t1.is0,(W (t1.is0+1)),x.eh0,(rt tX t1.r6)⟩:p9));(sl ((cnE tX x.r6)&&true) (sl (Nat.beq t1.alt 1) (sl (t1.is0==(-1)) (kk ⟨1,x.ns0,x.eh0,t1.r6⟩) (sl ((cnE tX t1.r6)&&true) (sl (Nat.beq t2.1 1) (sl (inB t2.2.is5 (x.ns0+1)) (sl (inB t2.2.is5 (x.ns0+1)) (kk ⟨1,(t2.2.is5.toNat - 0),(app (I4 t2.2.eh0 (0+t2.2.is5.toNat)) (app (List.replicate (x.ns0 - t2.2.is5.toNat) [(i 0),(i 0),(i 0),(i 0)]) (g9 t2.2.eh0 ((0+t2.2.is5.toNat)+(x.ns0 - t2.2.is5.toNat))))),t2.2.r6⟩) (kk ⟨0,0,[],[]⟩)) (kk ⟨0,0,[],[]⟩)) (kk ⟨0,0,[],[]⟩)) (kk ⟨0,0,[],[]⟩))) (kk ⟨0,0,[],[]⟩)) (kk ⟨0,0,[],[]⟩))
noncomputable def T7 (x:T5):T6:=E0 (fun r=>r) x
noncomputable def fa7 (x:T5) (r:T6):DT (b7×List b8):=(.ite (Nat.beq r.alt 1) (.ret ((.sl 0 0 r.ns0 0),[⟨50,4,r.eh0,true,false,0⟩,⟨0,1,[[(eL tX r.r6)]],true,false,0⟩])) .fail)
theorem gb7 {α β:Type} (F:α→β) (kk:T6→α) (x:T5):F (E0 kk x)=E0 (fun r=>F (kk r)) x:=by unfold E0;(repeat' apply o0 (f:=F))<;>rfl
noncomputable def ya9:Sum:=ab8 ⟨[(.s (.o (.sl 0 0 (some 0) none))),(.fn 101 [(.o (.ptr 1 0 0 0))])],[⟨50,4,true,none⟩,⟨0,1,true,(some [[(.c 4 (nL tX))]])⟩],fun a H=>(⟨(slN (slT a 0)),(elT H 0),(rL tX (slT (rwT (elT H 1) 0) 0))⟩,())⟩ (fun x=>fa7 x (T7 x))
theorem db9:j6 prog G 99 ya9:=S1 (enc:=fun x=>⟨[(.sl 0 0 x.ns0 0),(.fn 101 [(.ptr 1 0 0 0)])],[⟨50,4,x.eh0,true,false,0⟩,⟨0,1,[[(eL tX x.r6)]],true,false,0⟩]⟩) (fun a H=>by kernel_rfl) (bd b99 Ya3) fun x=>Da2 (.s .p (.s .p (.s .p (.s (.s .p (.b (.u ca5.ls))) .p)))) [ca5.pr] (by kernel_rfl) (.cons Va6 .nil) (Eq.trans (b:=E0 (fun r=>(fa7 x r).run) x) (by kernel_rfl) (gb7 (fun r=>(fa7 x r).run) (fun r=>r) x).symm)
structure ca6 where
 ns0:Nat
 eh0:List (List b7)
noncomputable def na9:List (Nat×Sum):=[]
theorem nb0:l5 prog G na9:=trivial
structure B4 where
 ns0:Nat
 os4:Nat
 ns4:Nat
structure p5 where
 is3:Int
 is5:Int
 eh0:List (List b7)
noncomputable def gb8 (p:B4) (s:p5):St:=⟨((.sl 0 0 p.ns0 0)::(.unk::(.unk::((i s.is3)::((.sl 0 p.os4 p.ns4 0)::((i s.is5)::(ra 55 []))))))),[⟨50,4,s.eh0,true,false,0⟩]⟩
noncomputable def J2 {α:Type} (k:p5→α) (e:Nat→α) (z:α) (p:B4) (s:p5):α:=(sl (decide (s.is5 < (↑p.ns4:Int))) (sl (inB s.is5 p.ns4) (sl (ldR tP s.eh0 (p.os4+s.is5.toNat)) (sl (inB (W (s.is5 - 1)) p.ns4) (sl (ldR tP s.eh0 (p.os4+(W (s.is5 - 1)).toNat)) (sl (!(((rdR tP s.eh0 (p.os4+s.is5.toNat)).n.x==(rdR tP s.eh0 (p.os4+(W (s.is5 - 1)).toNat)).n.x)&&(((rdR tP s.eh0 (p.os4+s.is5.toNat)).n.y==(rdR tP s.eh0 (p.os4+(W (s.is5 - 1)).toNat)).n.y)&&(((rdR tP s.eh0 (p.os4+s.is5.toNat)).n.z==(rdR tP s.eh0 (p.os4+(W (s.is5 - 1)).toNat)).n.z)&&(((rdR tP s.eh0 (p.os4+s.is5.toNat)).b==(rdR tP s.eh0 (p.os4+(W (s.is5 - 1)).toNat)).b)&&true))))) (sl (inB s.is5 p.ns4) (sl (ldR tP s.eh0 (p.os4+s.is5.toNat)) (sl (inB s.is3 p.ns0) (sl ((Nat.blt (0+s.is3.toNat) (len s.eh0))&&(Nat.ble (0+4) (len (m8 s.eh0 (0+s.is3.toNat))))) (k ⟨(W (s.is3+1)),(W (s.is5+1)),(setAt s.eh0 (0+s.is3.toNat) (U4 (m8 s.eh0 (0+s.is3.toNat)) 0 [(i (rdR tP s.eh0 (p.os4+s.is5.toNat)).n.x),(i (rdR tP s.eh0 (p.os4+s.is5.toNat)).n.y),(i (rdR tP s.eh0 (p.os4+s.is5.toNat)).n.z),(i (rdR tP s.eh0 (p.os4+s.is5.toNat)).b)]))⟩) z) z) z) z) (k ⟨s.is3,(W (s.is5+1)),s.eh0⟩)) z) z) z) z) (e 1))
noncomputable def p8 (p:B4) (s:p5):Stp p5:=J2 .next .exit .fail p s
noncomputable def ka6:Lo B4 p5:=⟨En na9,1,Sd4,[1,1,0,1,4,4,1,0,4,1,2,1,0,1,4,4],[0,3,4,5],.p,[⟨((.s (.o (.sl 0 0 (some 0) none)))::((.s (.o .unk))::((.s (.o .unk))::((.s (.o (.int .i64)))::((.s (.o (.sl 0 0 none none)))::((.s (.o (.int .i64)))::(ru2 55 []))))))),[⟨50,4,true,none⟩],fun a H=>(⟨(slN (slT a 0)),(slO (slT a 4)),(slN (slT a 4))⟩,⟨(toI (slT a 3)),(toI (slT a 5)),(elT H 0)⟩)⟩],p8,[(some 2,fun p s=>⟨((.sl 0 0 p.ns0 0)::(.unk::(.unk::((i s.is3)::((.sl 0 p.os4 p.ns4 0)::((i s.is5)::(ra 23 ((i s.is5)::((.sl 0 p.os4 p.ns4 0)::((i (↑p.ns4:Int))::((b (decide (s.is5 < (↑p.ns4:Int))))::(ra 28 [])))))))))))),[⟨50,4,s.eh0,true,false,0⟩]⟩)],gb8⟩
theorem gb9:ka6.Ok:=Lo.ok [] (by kernel_rfl) .nil rfl (.cons (fun a H=>by kernel_rfl) .nil) fun p s=>(.of @J2 (fun F _ _ _ _ _=>by unfold J2;(repeat' apply o0 (f:=F))<;>rfl) (by kernel_rfl))
structure L4 where
 ns0:Nat
 eh0:List (List b7)
structure q8 where
 is3:Int
noncomputable def hb5 (p:L4) (s:q8):St:=⟨((.sl 0 0 p.ns0 0)::(.unk::(.unk::((i s.is3)::(ra 57 []))))),[⟨50,4,p.eh0,true,false,0⟩]⟩
noncomputable def J3 {α:Type} (k:q8→α) (e:Nat→α) (z:α) (p:L4) (s:q8):α:=let t1:=(lp (p8 (⟨p.ns0,(0+s.is3.toNat),(p.ns0 - s.is3.toNat)⟩:B4)) (⟨s.is3,1,p.eh0⟩:p5));(sl (decide (s.is3 < (↑p.ns0:Int))) (sl (inB s.is3 p.ns0) (sl (ldR tP p.eh0 (0+s.is3.toNat)) (sl (inB (W (s.is3 - 1)) p.ns0) (sl (ldR tP p.eh0 (0+(W (s.is3 - 1)).toNat)) (sl (((rdR tP p.eh0 (0+s.is3.toNat)).n.x==(rdR tP p.eh0 (0+(W (s.is3 - 1)).toNat)).n.x)&&(((rdR tP p.eh0 (0+s.is3.toNat)).n.y==(rdR tP p.eh0 (0+(W (s.is3 - 1)).toNat)).n.y)&&(((rdR tP p.eh0 (0+s.is3.toNat)).n.z==(rdR tP p.eh0 (0+(W (s.is3 - 1)).toNat)).n.z)&&(((rdR tP p.eh0 (0+s.is3.toNat)).b==(rdR tP p.eh0 (0+(W (s.is3 - 1)).toNat)).b)&&true)))) (sl (inB s.is3 (p.ns0+1)) (sl (Nat.beq t1.1 1) (sl (inB t1.2.is3 (p.ns0+1)) (sl (inB t1.2.is3 (p.ns0+1)) (e 1) z) z) z) z) (k ⟨(W (s.is3+1))⟩)) z) z) z) z) (e 2))
noncomputable def K3 (p:L4) (s:q8):Stp q8:=J3 .next .exit .fail p s
noncomputable def ka7:Lo L4 q8:=⟨En na9,1,Sd4,[1,1,0,1,4,4],[0,3],(.s .p (.s (.b (.s .p (.c (.s .p (.s (.s .p (.b (.u ka6.ls))) .p)) .p))) .p)),[⟨((.s (.o (.sl 0 0 (some 0) none)))::((.s (.o .unk))::((.s (.o .unk))::((.s (.o (.int .i64)))::(ru2 57 []))))),[⟨50,4,true,none⟩],fun a H=>(⟨(slN (slT a 0)),(elT H 0)⟩,⟨(toI (slT a 3))⟩)⟩],K3,[(none,fun p s=>let t1:=(lp (p8 (⟨p.ns0,(0+s.is3.toNat),(p.ns0 - s.is3.toNat)⟩:B4)) (⟨s.is3,1,p.eh0⟩:p5));⟨[(.sl 0 0 (t1.2.is3.toNat - 0) 0)],[⟨50,4,(app (I4 t1.2.eh0 (0+t1.2.is3.toNat)) (app (List.replicate (p.ns0 - t1.2.is3.toNat) [(i 0),(i 0),(i 0),(i 0)]) (g9 t1.2.eh0 ((0+t1.2.is3.toNat)+(p.ns0 - t1.2.is3.toNat))))),true,false,0⟩]⟩),(some 0,fun p s=>⟨((.sl 0 0 p.ns0 0)::(.unk::(.unk::((i s.is3)::(ra 6 ((i s.is3)::((.sl 0 0 p.ns0 0)::((i (↑p.ns0:Int))::((b (decide (s.is3 < (↑p.ns0:Int))))::(ra 47 [])))))))))),[⟨50,4,p.eh0,true,false,0⟩]⟩)],hb5⟩
theorem hb6:ka7.Ok:=Lo.ok [ka6.pr] (by kernel_rfl) (.cons gb9 .nil) rfl (.cons (fun a H=>by kernel_rfl) .nil) fun p s=>(.of @J3 (fun F _ _ _ _ _=>by unfold J3;(repeat' apply o0 (f:=F))<;>rfl) (by kernel_rfl))
structure ca7 where
 alt:Nat
 ns0:Nat
 eh0:List (List b7)
noncomputable def K0 {α:Type} (kk:ca7→α) (x:ca6):α:=let t1:=(lp (K3 (⟨x.ns0,x.eh0⟩:L4)) (⟨1⟩:q8));let t2:=(lp (p8 (⟨x.ns0,(0+t1.2.is3.toNat),(x.ns0 - t1.2.is3.toNat)⟩:B4)) (⟨t1.2.is3,1,x.eh0⟩:p5));(sl (decide ((↑x.ns0:Int) < 2)) (kk ⟨1,x.ns0,x.eh0⟩) (sl (Nat.beq t1.1 1) (kk ⟨1,(t2.2.is3.toNat - 0),(app (I4 t2.2.eh0 (0+t2.2.is3.toNat)) (app (List.replicate (x.ns0 - t2.2.is3.toNat) [(i 0),(i 0),(i 0),(i 0)]) (g9 t2.2.eh0 ((0+t2.2.is3.toNat)+(x.ns0 - t2.2.is3.toNat)))))⟩) (sl (Nat.beq t1.1 2) (kk ⟨1,x.ns0,x.eh0⟩) (kk ⟨0,0,[]⟩))))
noncomputable def ca8 (x:ca6):ca7:=K0 (fun r=>r) x
noncomputable def oa0 (x:ca6) (r:ca7):DT (b7×List b8):=(.ite (Nat.beq r.alt 1) (.ret ((.sl 0 0 r.ns0 0),[⟨50,4,r.eh0,true,false,0⟩])) .fail)
theorem vb5 {α β:Type} (F:α→β) (kk:ca7→α) (x:ca6):F (K0 kk x)=K0 (fun r=>F (kk r)) x:=by unfold K0;(repeat' apply o0 (f:=F))<;>rfl
noncomputable def Ja5:Sum:=ab8 ⟨[(.s (.o (.sl 0 0 (some 0) none)))],[⟨50,4,true,none⟩],fun a H=>(⟨(slN (slT a 0)),(elT H 0)⟩,())⟩ (fun x=>oa0 x (ca8 x))
theorem qb1:j6 prog G 105 Ja5:=S1 (enc:=fun x=>⟨[(.sl 0 0 x.ns0 0)],[⟨50,4,x.eh0,true,false,0⟩]⟩) (fun a H=>by kernel_rfl) (bd Le7 nb0) fun x=>Da2 (.s .p (.s .p (.s (.s .p (.b (.u ka7.ls))) .p))) [ka7.pr] (by kernel_rfl) (.cons hb6 .nil) (Eq.trans (b:=K0 (fun r=>(oa0 x r).run) x) (by kernel_rfl) (vb5 (fun r=>(oa0 x r).run) (fun r=>r) x).symm)
noncomputable def Dc0:List (Nat×Sum):=[]
theorem pc6:l5 prog G Dc0:=trivial
noncomputable def Ba3 (x:Int) (y:Int):Option (b7×List b8):=(sl (decide (x < y)) (some ((i (-1)),[])) (sl (decide (x > y)) (some ((i 1),[])) (some ((i 0),[]))))
noncomputable def ka8 (x:Int) (y:Int):Int:=P4 (one r1I) (Ba3 x y)
noncomputable def ka9 (x:Int) (y:Int):Bool:=okO (one r1I) (Ba3 x y)
noncomputable def Ob1:Sum:=la2 cI cI (fun x y=>.guard (ka9 x y) (.ret ((one r1I).enc (ka8 x y),[])))
theorem Dc1:j6 prog G 179 Ob1:=nb9 (bd Oe6 pc6) (one r1I) (o:=Ba3) fun x y=>w6 (by kernel_rfl)
noncomputable def ic1:List (Nat×Sum):=[(179,Ob1)]
theorem ac6:l5 prog G ic1:=⟨Dc1,trivial⟩
noncomputable def ra1 (x:Pln) (y:Pln):Option (b7×List b8):=let t1:=(ka8 x.n.x y.n.x);let t2:=(ka8 x.n.y y.n.y);let t3:=(ka8 x.n.z y.n.z);let t4:=(ka8 x.b y.b);(sl (ka9 x.n.x y.n.x) (sl (t1==0) (sl (ka9 x.n.y y.n.y) (sl (t2==0) (sl (ka9 x.n.z y.n.z) (sl (t3==0) (sl (ka9 x.b y.b) (sl (t4==0) (some ((i t4),[])) (some ((i t4),[]))) none) (some ((i t3),[]))) none) (some ((i t2),[]))) none) (some ((i t1),[]))) none)
noncomputable def Ca3 (x:Pln) (y:Pln):Int:=P4 (one r1I) (ra1 x y)
noncomputable def Ca4 (x:Pln) (y:Pln):Bool:=okO (one r1I) (ra1 x y)
noncomputable def Va7:Sum:=la2 (W9 tP) (W9 tP) (fun x y=>.guard (Ca4 x y) (.ret ((one r1I).enc (Ca3 x y),[])))
theorem ic2:j6 prog G 104 Va7:=nb9 (bd Le6 ac6) (one r1I) (o:=ra1) fun x y=>w6 (by kernel_rfl)
noncomputable def od1:List (Nat×Sum):=[(164,cb6)]
theorem Zc4:l5 prog G od1:=⟨xb1,trivial⟩
noncomputable def eb0 (x:V3):Option (b7×List b8):=let t1:=(ma7 24 [x.x,x.y,x.z]);(sl (ma8 24 [x.x,x.y,x.z]) (some ((b t1),[])) none)
noncomputable def vb6 (x:V3):Bool:=P4 (one r1B) (eb0 x)
noncomputable def vb7 (x:V3):Bool:=okO (one r1B) (eb0 x)
noncomputable def Dc2:Sum:=ja7 (W9 tV) (fun x=>.guard (vb7 x) (.ret ((one r1B).enc (vb6 x),[])))
theorem od2:j6 prog G 107 Dc2:=Da0 (bd Le8 Zc4) (one r1B) (o:=eb0) fun x=>w6 (by kernel_rfl)
noncomputable def od3:List (Nat×Sum):=[(87,xa8),(107,Dc2),(108,Oa2)]
theorem Zc5:l5 prog G od3:=⟨Aa6,od2,cb5,trivial⟩
noncomputable def eb1 (x:List Pln) (y:V3):Option (b7×List b8):=let t1:=(ba2 [(rt tP x)]);let t2:=(vb6 y);let t3:=(V7 (rt tP x) (⟨y.x,y.y,y.z,1⟩:Pt));(sl ((okE tP x)&&true) (sl (ba3 [(rt tP x)]) (sl t1 (sl (vb7 y) (sl t2 (sl (okE tP x) (sl (V8 (rt tP x) (⟨y.x,y.y,y.z,1⟩:Pt)) (some ((b t3),[])) none) none) (some ((b false),[]))) none) (some ((b false),[]))) none) none)
noncomputable def eb2 (x:List Pln) (y:V3):Bool:=P4 (one r1B) (eb1 x y)
noncomputable def eb3 (x:List Pln) (y:V3):Bool:=okO (one r1B) (eb1 x y)
noncomputable def Dc3:Sum:=la2 (ia2 tP) (W9 tV) (fun x y=>.guard (eb3 x y) (.ret ((one r1B).enc (eb2 x y),[])))
theorem od4:j6 prog G 28 Dc3:=nb9 (bd b28 Zc5) (one r1B) (o:=eb1) fun x y=>w6 (by kernel_rfl)
noncomputable def Kc7:List (Nat×Sum):=[(87,xa8),(88,Jb6),(92,Da5)]
theorem Dc4:l5 prog G Kc7:=⟨Aa6,Rb2,Wa2,trivial⟩
noncomputable def Ja6 (x:List Pln) (y:List Pln):Option (b7×List b8):=let t1:=(ba2 [(rt tP x),(rt tP y)]);let t2:=(Ma2 [(rt tP x),(rt tP y)]);let t3:=(fa0 (rt tP t2));(sl ((okE tP x)&&((okE tP y)&&true)) (sl (ba3 [(rt tP x),(rt tP y)]) (sl (!t1) (some ((b true),[])) (sl ((okE tP x)&&((okE tP y)&&true)) (sl (Ma3 [(rt tP x),(rt tP y)]) (sl (okE tP t2) (sl (fa1 (rt tP t2)) (some ((b (!t3)),[])) none) none) none) none)) none) none)
noncomputable def K1 (x:List Pln) (y:List Pln):Bool:=P4 (one r1B) (Ja6 x y)
noncomputable def f8 (x:List Pln) (y:List Pln):Bool:=okO (one r1B) (Ja6 x y)
noncomputable def vb8:Sum:=la2 (ia2 tP) (ia2 tP) (fun x y=>.guard (f8 x y) (.ret ((one r1B).enc (K1 x y),[])))
theorem Ob2:j6 prog G 31 vb8:=nb9 (bd b31 Dc4) (one r1B) (o:=Ja6) fun x y=>w6 (by kernel_rfl)
structure Ca5 where
 oa2:Int
 oa3:Int
 oa4:Int
 fb0:Int
 d8:List Pln
noncomputable def ic3:List (Nat×Sum):=[(108,Oa2)]
theorem ac7:l5 prog G ic3:=⟨cb5,trivial⟩
structure ra2 where
 alt:Nat
 bs0:Bool
noncomputable def ia0 {α:Type} (kk:ra2→α) (x:Ca5):α:=let t1:=(V7 (rt tP x.d8) (⟨x.oa2,x.oa3,x.oa4,x.fb0⟩:Pt));(sl (okE tP x.d8) (sl (V8 (rt tP x.d8) (⟨x.oa2,x.oa3,x.oa4,x.fb0⟩:Pt)) (kk ⟨1,(!t1)⟩) (kk ⟨0,false⟩)) (kk ⟨0,false⟩))
noncomputable def Ca6 (x:Ca5):ra2:=ia0 (fun r=>r) x
noncomputable def Na3 (x:Ca5) (r:ra2):DT (b7×List b8):=(.ite (Nat.beq r.alt 1) (.ret ((b r.bs0),[⟨0,1,[[(eL tP x.d8)]],true,false,0⟩])) .fail)
theorem pc7 {α β:Type} (F:α→β) (kk:ra2→α) (x:Ca5):F (ia0 kk x)=ia0 (fun r=>F (kk r)) x:=by unfold ia0;(repeat' apply o0 (f:=F))<;>rfl
noncomputable def xb4:Sum:=ab8 ⟨[(.agg [(.o (.int .i64)),(.o (.int .i64)),(.o (.int .i64)),(.o (.int .i64))]),(.s (.o (.ptr 0 0 0 0)))],[⟨0,1,true,(some [[(.c 4 (nL tP))]])⟩],fun a H=>(⟨(toI (slT (cellsOf (slT a 0)) 0)),(toI (slT (cellsOf (slT a 0)) 1)),(toI (slT (cellsOf (slT a 0)) 2)),(toI (slT (cellsOf (slT a 0)) 3)),(rL tP (slT (rwT (elT H 0) 0) 0))⟩,())⟩ (fun x=>Na3 x (Ca6 x))
theorem ic4:j6 prog G 114 xb4:=S1 (enc:=fun x=>⟨[(.agg [(i x.oa2),(i x.oa3),(i x.oa4),(i x.fb0)]),(.ptr 0 0 0 0)],[⟨0,1,[[(eL tP x.d8)]],true,false,0⟩]⟩) (fun a H=>by kernel_rfl) (bd Me3 ac7) fun x=>w6 (Eq.trans (b:=ia0 (fun r=>(Na3 x r).run) x) (by kernel_rfl) (pc7 (fun r=>(Na3 x r).run) (fun r=>r) x).symm)
structure T8 where
 B8:List Pt
 d8:List Pln
noncomputable def wa6:List (Nat×Sum):=[(114,xb4)]
theorem Ya4:l5 prog G wa6:=⟨ic4,trivial⟩
structure I1 where
 B8:List Pt
 is7:Int
structure o8 where
 is8:Int
 d8:List Pln
noncomputable def Va8 (p:I1) (s:o8):St:=⟨((eL tX p.B8)::((.fn 114 [(.ptr 0 0 0 0)])::(ra 5 ((i p.is7)::((i s.is8)::(ra 10 [])))))),[⟨0,1,[[(eL tP s.d8)]],true,false,0⟩]⟩
noncomputable def D3 {α:Type} (k:o8→α) (e:Nat→α) (z:α) (p:I1) (s:o8):α:=let t1:=(Ca6 ⟨(gL tX p.B8 s.is8.toNat).px,(gL tX p.B8 s.is8.toNat).py,(gL tX p.B8 s.is8.toNat).pz,(gL tX p.B8 s.is8.toNat).pw,(rt tP s.d8)⟩);(sl (decide (s.is8 < p.is7)) (sl (inB s.is8 (List.length p.B8)) (sl ((cnE tP s.d8)&&true) (sl (Nat.beq t1.alt 1) (sl t1.bs0 (e 1) (k ⟨(W (s.is8+1)),(rt tP s.d8)⟩)) z) z) z) (e 2))
noncomputable def G2 (p:I1) (s:o8):Stp o8:=D3 .next .exit .fail p s
noncomputable def ca9:Lo I1 o8:=⟨En wa6,1,Sd7,[1,0,1,4,4],[0,1,7,8],.p,[⟨((.s (.c 4 (nL tX)))::((.fn 114 [(.o (.ptr 0 0 0 0))])::(ru2 5 ((.s (.o (.int .i64)))::((.s (.o (.int .i64)))::(ru2 10 [])))))),[⟨0,1,true,(some [[(.c 4 (nL tP))]])⟩],fun a H=>(⟨(rL tX (slT a 0)),(toI (slT a 7))⟩,⟨(toI (slT a 8)),(rL tP (slT (rwT (elT H 0) 0) 0))⟩)⟩],G2,[(none,fun p s=>⟨[(i s.is8)],[⟨0,1,[[(eL tP (rt tP s.d8))]],true,false,0⟩]⟩),(some 0,fun p s=>⟨((eL tX p.B8)::((.fn 114 [(.ptr 0 0 0 0)])::(ra 5 ((i p.is7)::((i s.is8)::((b (decide (s.is8 < p.is7)))::(ra 9 []))))))),[⟨0,1,[[(eL tP s.d8)]],true,false,0⟩]⟩)],Va8⟩
theorem Va9:ca9.Ok:=Lo.ok [] (by kernel_rfl) .nil rfl (.cons (fun a H=>by kernel_rfl) .nil) fun p s=>(.of @D3 (fun F _ _ _ _ _=>by unfold D3;(repeat' apply o0 (f:=F))<;>rfl) (by kernel_rfl))
structure T9 where
 alt:Nat
 is0:Int
 d8:List Pln
noncomputable def E1 {α:Type} (kk:T9→α) (x:T8):α:=let t1:=(lp (G2 (⟨(rt tX x.B8),(↑(List.length x.B8):Int)⟩:I1)) (⟨0,(rt tP x.d8)⟩:o8));(sl ((cnE tX x.B8)&&((cnE tP x.d8)&&true)) (sl (Nat.beq t1.1 1) (kk ⟨1,t1.2.is8,(rt tP t1.2.d8)⟩) (sl (Nat.beq t1.1 2) (kk ⟨1,(-1),t1.2.d8⟩) (kk ⟨0,0,[]⟩))) (kk ⟨0,0,[]⟩))
noncomputable def ha0 (x:T8):T9:=E1 (fun r=>r) x
noncomputable def fa8 (x:T8) (r:T9):DT (b7×List b8):=(.ite (Nat.beq r.alt 1) (.ret ((i r.is0),[⟨0,1,[[(eL tP r.d8)]],true,false,0⟩])) .fail)
theorem hb7 {α β:Type} (F:α→β) (kk:T9→α) (x:T8):F (E1 kk x)=E1 (fun r=>F (kk r)) x:=by unfold E1;(repeat' apply o0 (f:=F))<;>rfl
noncomputable def za0:Sum:=ab8 ⟨[(.s (.c 4 (nL tX))),(.fn 114 [(.o (.ptr 0 0 0 0))])],[⟨0,1,true,(some [[(.c 4 (nL tP))]])⟩],fun a H=>(⟨(rL tX (slT a 0)),(rL tP (slT (rwT (elT H 0) 0) 0))⟩,())⟩ (fun x=>fa8 x (ha0 x))
theorem eb4:j6 prog G 185 za0:=S1 (enc:=fun x=>⟨[(eL tX x.B8),(.fn 114 [(.ptr 0 0 0 0)])],[⟨0,1,[[(eL tP x.d8)]],true,false,0⟩]⟩) (fun a H=>by kernel_rfl) (bd Ee5 Ya4) fun x=>Da2 (.s .p (.s (.s .p (.b (.u ca9.ls))) .p)) [ca9.pr] (by kernel_rfl) (.cons Va9 .nil) (Eq.trans (b:=E1 (fun r=>(fa8 x r).run) x) (by kernel_rfl) (hb7 (fun r=>(fa8 x r).run) (fun r=>r) x).symm)
structure M9 where
 B8:List Pt
 d8:List Pln
noncomputable def Sa2:List (Nat×Sum):=[(185,za0)]
theorem Na4:l5 prog G Sa2:=⟨eb4,trivial⟩
structure N0 where
 alt:Nat
 bs0:Bool
 d8:List Pln
noncomputable def A8 {α:Type} (kk:N0→α) (x:M9):α:=let t1:=(ha0 ⟨(rt tX x.B8),(rt tP x.d8)⟩);(sl ((cnE tX x.B8)&&((cnE tP x.d8)&&true)) (sl (Nat.beq t1.alt 1) (kk ⟨1,(decide (t1.is0≥0)),t1.d8⟩) (kk ⟨0,false,[]⟩)) (kk ⟨0,false,[]⟩))
noncomputable def aa1 (x:M9):N0:=A8 (fun r=>r) x
noncomputable def Y3 (x:M9) (r:N0):DT (b7×List b8):=(.ite (Nat.beq r.alt 1) (.ret ((b r.bs0),[⟨0,1,[[(eL tP r.d8)]],true,false,0⟩])) .fail)
theorem Wa0 {α β:Type} (F:α→β) (kk:N0→α) (x:M9):F (A8 kk x)=A8 (fun r=>F (kk r)) x:=by unfold A8;(repeat' apply o0 (f:=F))<;>rfl
noncomputable def ra3:Sum:=ab8 ⟨[(.s (.c 4 (nL tX))),(.fn 114 [(.o (.ptr 0 0 0 0))])],[⟨0,1,true,(some [[(.c 4 (nL tP))]])⟩],fun a H=>(⟨(rL tX (slT a 0)),(rL tP (slT (rwT (elT H 0) 0) 0))⟩,())⟩ (fun x=>Y3 x (aa1 x))
theorem Sa3:j6 prog G 113 ra3:=S1 (enc:=fun x=>⟨[(eL tX x.B8),(.fn 114 [(.ptr 0 0 0 0)])],[⟨0,1,[[(eL tP x.d8)]],true,false,0⟩]⟩) (fun a H=>by kernel_rfl) (bd Ee4 Na4) fun x=>w6 (Eq.trans (b:=A8 (fun r=>(Y3 x r).run) x) (by kernel_rfl) (Wa0 (fun r=>(Y3 x r).run) (fun r=>r) x).symm)
noncomputable def Dc5:List (Nat×Sum):=[(20,Fa0),(87,xa8),(18,sa2),(113,ra3)]
theorem pc8:l5 prog G Dc5:=⟨Ia4,Aa6,va6,Sa3,trivial⟩
noncomputable def Ba4 (x:List Pln) (y:List Pln):Option (b7×List b8):=let t1:=(R9 (rt tP x));let t2:=(ba2 [(rt tP y)]);let t3:=(W4 (rt tP x));let t4:=(aa1 ⟨(rt tX t3),(rt tP y)⟩);(sl (okE tP x) (sl (G8 (rt tP x)) (sl t1 (sl ((okE tP y)&&true) (sl (ba3 [(rt tP y)]) (sl t2 (sl (okE tP x) (sl (J5 (rt tP x)) (sl ((cnE tX t3)&&((cnE tP y)&&true)) (sl (Nat.beq t4.alt 1) (some ((b (!t4.bs0)),[])) none) none) none) none) (some ((b false),[]))) none) none) (some ((b false),[]))) none) none)
noncomputable def G6 (x:List Pln) (y:List Pln):Bool:=P4 (one r1B) (Ba4 x y)
noncomputable def b9 (x:List Pln) (y:List Pln):Bool:=okO (one r1B) (Ba4 x y)
noncomputable def nb1:Sum:=la2 (ia2 tP) (ia2 tP) (fun x y=>.guard (b9 x y) (.ret ((one r1B).enc (G6 x y),[])))
theorem Fb9:j6 prog G 33 nb1:=nb9 (bd b33 pc8) (one r1B) (o:=Ba4) fun x y=>w6 (by kernel_rfl)
noncomputable def od5:List (Nat×Sum):=[]
theorem Zc6:l5 prog G od5:=trivial
structure vb9 where
 d9:Int
 O1:Int
 O2:Int
 O3:Int
 O4:Int
 O5:Int
noncomputable def eb5 {α:Type} (kk:vb9→α) (x:V3) (y:V3):α:=(kk ⟨y.x,(W (0 - x.x)),y.y,(W (0 - x.y)),y.z,(W (0 - x.z))⟩)
noncomputable def Dc6 (x:V3) (y:V3):vb9:=eb5 (fun r=>r) x y
noncomputable def Gb0 (r:vb9):DT (b7×List b8):=.ret ((.sl 0 0 6 0),[⟨50,4,[[(i 1),(i 0),(i 0),(i r.d9)],[(i (-1)),(i 0),(i 0),(i r.O1)],[(i 0),(i 1),(i 0),(i r.O2)],[(i 0),(i (-1)),(i 0),(i r.O3)],[(i 0),(i 0),(i 1),(i r.O4)],[(i 0),(i 0),(i (-1)),(i r.O5)]],true,false,0⟩])
theorem xd4 {α β:Type} (F:α→β) (kk:vb9→α) (x:V3) (y:V3):F (eb5 kk x y)=eb5 (fun r=>F (kk r)) x y:=by unfold eb5;(repeat' apply o0 (f:=F))<;>rfl
noncomputable def Dc7:Sum:=la2 (W9 tV) (W9 tV) (fun x y=>Gb0 (Dc6 x y))
theorem od6:j6 prog G 111 Dc7:=ta3 (bd Ee3 Zc6) fun x y=>w6 (Eq.trans (b:=eb5 (fun r=>(Gb0 r).run) x y) (by kernel_rfl) (xd4 (fun r=>(Gb0 r).run) (fun r=>r) x y).symm)
noncomputable def Kc8:List (Nat×Sum):=[(111,Dc7)]
theorem Dc8:l5 prog G Kc8:=⟨od6,trivial⟩
structure Ya5 where
 d9:Int
 O1:Int
 O2:Int
 O3:Int
 O4:Int
 O5:Int
noncomputable def Ja7 {α:Type} (kk:Ya5→α)  : α:=let t1:=(Dc6 (⟨0,0,0⟩:V3) (⟨1,1,1⟩:V3));(kk ⟨t1.d9,t1.O1,t1.O2,t1.O3,t1.O4,t1.O5⟩)
noncomputable def wb0  : Ya5:=Ja7 (fun r=>r)
noncomputable def nb2 (r:Ya5):DT (b7×List b8):=.ret ((.sl 0 0 6 0),[⟨50,4,[[(i 1),(i 0),(i 0),(i r.d9)],[(i (-1)),(i 0),(i 0),(i r.O1)],[(i 0),(i 1),(i 0),(i r.O2)],[(i 0),(i (-1)),(i 0),(i r.O3)],[(i 0),(i 0),(i 1),(i r.O4)],[(i 0),(i 0),(i (-1)),(i r.O5)]],true,false,0⟩])
theorem Zc7 {α β:Type} (F:α→β) (kk:Ya5→α)  : F (Ja7 kk )=Ja7 (fun r=>F (kk r))  :=by unfold Ja7;(repeat' apply o0 (f:=F))<;>rfl
noncomputable def ac8:Sum:=fd2  (nb2 (wb0 ))
theorem Kc9:j6 prog G 81 ac8:=Ad0 (bd b81 Dc8) (w6 (Eq.trans (b:=Ja7 (fun r=>(nb2 r).run) ) (by kernel_rfl) (Zc7 (fun r=>(nb2 r).run) (fun r=>r) ).symm))
end Go.Ev.Ce
end
namespace Go.Ev.Ce
open Go Go.Ev Go.Ev.L Go.Proofs
theorem Wd1 (v:V3):vb6 v=inV v∧vb7 v=true:=by
 have h3:[v.x,v.y,v.z].length≤1000000000:=by simp
 have:eb0 v=some (b (inV v),[]):=by
  unfold eb0 inV
  simp only[gc2 24 _ (by omega) h3,gc3 24 _ (by omega) h3,n5]
  simp only[List.all_cons,List.all_nil,Bool.and_true]
 unfold vb6 vb7
 rw[this]
 exact⟨rfl,rfl⟩
noncomputable def has (c:List Pln) (v:V3):Bool:=(chk c==0)&&(inV v&&inn c ⟨v.x,v.y,v.z,1⟩)
theorem Wd2 {c:List Pln} (hc:c.length≤1000000000) (v:V3):eb1 c v=some (b (has c v),[]):=by
 unfold eb1 has
 simp only[l8,L0,Zb0 c hc,Zb1 c hc,(Wd1 v).1,(Wd1 v).2,zc8 c _ hc,zc9 c _ hc]
 cases chk c==0 with
 | false=>rfl
 | true=>cases inV v<;>rfl
theorem Ge0 {c:List Pln} (hc:c.length≤1000000000) (v:V3):eb2 c v=has c v:=by unfold eb2;rw[Wd2 hc];rfl
theorem Ge1 {c:List Pln} (hc:c.length≤1000000000) (v:V3):eb3 c v=true:=by unfold eb3;rw[Wd2 hc];rfl
theorem Dc9 {a c:List Pln} (ha:(chk a==0)=true) (hc:(chk c==0)=true):Bds (a++c++ws)∧(a++c++ws).length≤200:=by
 rw[beq_iff_eq,Fb0] at ha hc
 refine⟨fun p hp=>?_,by rw[List.length_append,List.length_append,show ws.length=6 from rfl];omega⟩
 rcases List.mem_append.1 hp with hp | hp
 ·rcases List.mem_append.1 hp with hp | hp
  ·exact Ma6 (ha.2 p hp)
  ·exact Ma6 (hc.2 p hp)
 ·exact oe3 p hp
noncomputable def apart (a c:List Pln):Bool:=!((chk a==0)&&(chk c==0))||!Ac7 (a++c++ws)
theorem od7 {a c:List Pln} (ha:a.length≤100000000) (hc:c.length≤100000000):Ja6 a c=some (b (apart a c),[]):=by
 have hn:[a,c].length≤1000000000:=by simp
 have hl:∀ x∈[a,c],x.length≤1000000000:=by
  intro x hx
  simp only[List.mem_cons,List.not_mem_nil,or_false] at hx
  rcases hx with rfl | rfl<;>omega
 have hf:[a,c].flatten=a++c:=by simp
 have hfl:[a,c].flatten.length≤1000000000:=by rw[hf,List.length_append];omega
 unfold Ja6 apart
 simp only[l8,L0,ld6 _ hn hl,ld7 _ hn hl,Fe0 _ hn hfl,Fe1 _ hn hfl,hf,List.all_cons,List.all_nil,Bool.and_true]
 cases h1:chk a==0 with
 | false=>rfl
 | true =>
  cases h2:chk c==0 with
  | false=>rfl
  | true =>
   obtain⟨q1,q2⟩:=Dc9 h1 h2
   rw[Ud8 _ q1 q2,Ud9 _ q1 q2]
   rfl
theorem wb1 {a c:List Pln} (ha:a.length≤100000000) (hc:c.length≤100000000):K1 a c=apart a c:=by unfold K1;rw[od7 ha hc];rfl
theorem wb2 {a c:List Pln} (ha:a.length≤100000000) (hc:c.length≤100000000):f8 a c=true:=by unfold f8;rw[od7 ha hc];rfl
noncomputable def Ec0 (a c:List Pln):Bool:=ful a&&((chk c==0)&&(pts a).all (inn c))
theorem xd5 (x:Pt) (c:List Pln) (hc:c.length≤1000000000):Ca6 ⟨x.px,x.py,x.pz,x.pw,c⟩=⟨1,!inn c x⟩:=by
 unfold Ca6 ia0
 simp only[l8,L0,n5]
 show sl (V8 c x) (ra2.mk 1 (!V7 c x)) _=_
 rw[zc8 c x hc,zc9 c x hc]
 rfl
theorem Qc8 {a c:List Pln} (ha:a.length≤1000000000) (hc:c.length≤1000000000):Ba4 a c=some (b (Ec0 a c),[]):=by
 have hX:=rc2 a
 have h:=Xa0 (step:=G2 ⟨pts a,((pts a).length:Int)⟩) (mk:=fun j=>(⟨(j:Int),c⟩:o8)) (c:=fun x=>!inn c x) (u:=1) (fin:=2) tX (pts a) (by omega)
  (fun j hj=>by
   simp only[G2,D3,Int.toNat_natCast,l8,l6,xd5 _ _ hc,o2 hj (show (pts a).length≤4611686018427387904 by omega)]
   rw[btD (l0 hj),bt (e8 hj)]
   rfl)
  (by simp only[G2,D3];rw[bfD (y5 (Nat.lt_irrefl _))]) 0 (Nat.zero_le _)
 rw[List.drop_zero] at h
 have e:((pts a).any fun x=>!inn c x)=!(pts a).all (inn c):=by rw[List.not_all_eq_any_not]
 unfold Ba4 aa1 A8 ha0 E1 Ec0
 simp only[l8,l6,L0,ub5 ha,ub6 ha,Zb0 c hc,Zb1 c hc,pb7 ha,pb8 ha]
 rw[show (⟨0,c⟩:o8)=⟨((0:Nat):Int),c⟩ from rfl,h,e]
 cases ful a with
 | false=>rfl
 | true =>
  cases chk c==0 with
  | false=>rfl
  | true =>
   cases (pts a).all (inn c) with
   | true=>rfl
   | false =>
    simp only[Bool.not_false,if_true,Nat.zero_add]
    show some (b (!(decide ((((pts a).findIdx fun x=>!inn c x:Nat):Int)≥0))),[])=_
    rw[show decide ((((pts a).findIdx fun x=>!inn c x:Nat):Int)≥0)=true from decide_eq_true (by omega)]
    rfl
theorem Ja8 {a c:List Pln} (ha:a.length≤1000000000) (hc:c.length≤1000000000):G6 a c=Ec0 a c:=by unfold G6;rw[Qc8 ha hc];rfl
theorem Ja9 {a c:List Pln} (ha:a.length≤1000000000) (hc:c.length≤1000000000):b9 a c=true:=by unfold b9;rw[Qc8 ha hc];rfl
end Go.Ev.Ce
namespace Go.Ev.L
open Go Go.Ev Go.Sort Go.Proofs
section
variable {α:Type} [Inhabited α] {P:Program} {G:Nat→List Value} {g:FuncId} {S:Sum} {t:Ty α} {enc:α→List Value} {cf:α→α→Int}
theorem ie9 (hc : j6 P G g S) (hS : ∀ x y, (S [.agg (t.row x), .agg (t.row y)] []).run = some (i (cf x y), [])) (hG : ∀ n, G n = []) (he : ∀ x, t.row x = (enc x).map .v) (k blk off size : Nat) (w : World) :
  CmpLays P g #[] enc k cf blk off size w:=by
 intro m os dk _ x y
 generalize sortWorldK enc k w blk off m dk os=w0
 have hrow:∀ (z:α),da7 (fun _=>⟨0,0,0⟩) [] (fun _ _=>False) w0 (.agg (t.row z)) (.agg (enc z).toArray):=fun z=>by
  refine .agg _ _ (by rw[he];simp) fun i u u' hu hu'=>?_
  rw[he,List.getElem?_map] at hu
  have hu':(enc z)[i]?=some u':=by simpa using hu'
  rw[hu'] at hu
  injection hu with hu
  subst hu
  exact .v _
 obtain⟨_,h⟩:=hc _ _ _ _ (hS x y) (fun k=>w0.heap.size≤k) (fun _=>⟨0,0,0⟩) (fun _ _=>False) w0 [.agg (enc x).toArray,.agg (enc y).toArray]
  ⟨fun id b hb=>by simp at hb,fun id id' b b' hb=>by simp at hb,fun b o hf=>hf.elim,fun k hk=>hk⟩ rfl
  (fun i u u' hu hu'=>by
   match i,hu,hu' with
   | 0,hu,hu'=>cases hu;cases hu';exact .val (hrow x)
   | 1,hu,hu'=>cases hu;cases hu';exact .val (hrow y))
  (fun n c v hv=>by rw[hG] at hv;simp at hv)
 refine h.mono fun e w' ⟨r',h1,ρ',F',h2,h3,h4⟩=>?_
 have h5:=da3 h4
 subst h5
 refine⟨h1,w'.drawn - w0.drawn,w'.heap.extract w0.heap.size w'.heap.size,?_⟩
 have hd:=h2.ext.drawn
 have hs:=h2.ext.size
 have hheap:w'.heap=w0.heap++w'.heap.extract w0.heap.size w'.heap.size:=by
  apply Array.ext_getElem?
  intro j
  rcases Nat.lt_or_ge j w0.heap.size with hj | hj
  ·rw[Array.getElem?_append_left hj,h2.ext.block j hj (by omega)]
  ·rw[Array.getElem?_append_right hj,Array.getElem?_extract]
   have e:w0.heap.size+(j - w0.heap.size)=j:=by omega
   rw[e]
   split
   ·rfl
   ·rw[Array.getElem?_eq_none (by omega)]
 obtain⟨hp,tp,dr,os',out⟩:=w'
 have e1:=h2.ext.os;have e2:=h2.ext.tape;have e3:=h2.ext.output
 simp only at e1 e2 e3 hd hheap
 subst e1 e2 e3
 unfold grow World.drewN
 simp only
 congr 1
 omega
noncomputable def Wd3 (t:Ty α) (g:Nat) (et:Nat) (srt:List α→List α):Sum:=fun args blks=>match args,blks with
 | [.sl 0 0 n 0,.fn g' []],[⟨et',es',el,true,false,0⟩] =>
  Bool.rec (motive:=fun _=>DT (b7×List b8)) .fail (.guard (Bool.and (Nat.ble n room) (Bool.and (Nat.ble n (len el)) (okS t el 0 n))) (.ret (.v (.tuple #[]),[⟨et',es',app (bL t (srt (slR t el 0 n))) (g9 el n),true,false,0⟩])))
   (Bool.and (Nat.beq g' g) (Bool.and (Nat.beq et' et) (Nat.beq es' t.es)))
 | _,_=>.fail
theorem ac9 (l:List α) (j:Nat) (h:j < l.length):l.toArray[j]! = l[j]:=by
 rw[getElem!_pos l.toArray j (by simpa using h)]
 simp
theorem je0 {f : FuncId} {et : Nat} {srt : List α → List α} (hcall : Ab2 P f) (hes : 0 < t.es) (he : ∀ x, t.row x = (enc x).map .v) (hx : ∀ r, t.ok r = true → r = t.row (t.rd r)) (h1 : ∀ x, ∀ v ∈ enc x, v.oneCell' = true)
  (hlen:∀ l,(srt l).length=l.length) (hcl:∀ blk off size w,CmpLays P g #[] enc t.es cf blk off size w)
  (hcon:∀ (blk cap:Nat) (d:Array α) (w:World),(∀ off size,CmpLays P g #[] enc t.es cf blk off size w)→HoldsK enc t.es w blk 0 d→blk < w.heap.size→d.size < 4611686018427387904 →
   Calls P f #[.slice (some ⟨blk,0,none⟩) d.size cap,.func (.func g) #[] #[]] w fun e w'=>e=.returned (.tuple #[])∧∃ n os,w'=sortWorldK enc t.es w blk 0 n (srt d.toList).toArray os) :
  j6 P G f (Wd3 t g et srt):=by
 intro args blks r out hr W ρ F w args' hH hl hargs hG
 refine⟨hcall,?_⟩
 unfold Wd3 at hr
 split at hr
 case h_2=>cases hr
 rename_i n g' et' es' el
 cases hb0:Bool.and (Nat.beq g' g) (Bool.and (Nat.beq et' et) (Nat.beq es' t.es)) with
 | false=>rw[hb0] at hr;cases hr
 | true =>
 rw[hb0] at hr
 rw[Bool.and_eq_true,Bool.and_eq_true] at hb0
 have q1:=Nat.eq_of_beq_eq_true hb0.1;have q2:=Nat.eq_of_beq_eq_true hb0.2.1;have q3:=Nat.eq_of_beq_eq_true hb0.2.2
 subst q1 q2 q3
 obtain⟨hg0,hr⟩:=DT.run_guard_some hr
 rw[Bool.and_eq_true,Bool.and_eq_true] at hg0
 have hroom:n≤room:=Nat.le_of_ble_eq_true hg0.1
 have hn:=Nat.le_of_ble_eq_true hg0.2.1
 rw[l9] at hn
 have hok:=hg0.2.2
 injection hr with hr;injection hr with p1 p2;subst p1 p2
 match args',hl with
 | [v0,v1],_ =>
 obtain⟨a,cap,b,rfl,hb,hd,_,hncap,hspot,hcap,hq⟩:=za3 (hargs 0 _ _ rfl rfl)
 obtain⟨vs1,rfl,hvs1,_⟩:=rb1 (hargs 1 _ _ rfl rfl)
 have hvs1:vs1=#[]:=Array.eq_empty_of_size_eq_zero (by simpa using hvs1.symm)
 subst hvs1
 rw[Za0] at *
 have hb:b=⟨et',t.es,el,true,false,0⟩:=by simpa using hb.symm
 subst hb
 obtain⟨ha,hsz,hne⟩:=hq rfl
 have ha:a=⟨(ρ 0).blk,(ρ 0).off+0*t.es,none⟩:=ha.resolve_left fun h=>by omega
 obtain⟨cc,tt,fr,hB⟩:=hH.blk 0 _ rfl rfl
 obtain⟨hfr,hW,hoff,hsize,hnF,het⟩:=hB.own rfl
 subst hfr
 rw[hoff,Nat.zero_mul,Nat.add_zero] at ha
 subst ha
 generalize hbk:(ρ 0).blk=blk at *
 -- the rows as data
 have hrow:∀ j,j < n→m8 el j=(enc (gL t (slR t el 0 n) j)).map .v:=fun j hj=>by
  have h2:t.ok (m8 el (0+j))=true:=List.all_eq_true.1 hok j (by simpa using hj)
  rw[Nat.zero_add] at h2
  rw[← he,slR,Ad3 t _ hj,Nat.zero_add]
  exact hx _ h2
 have hld:(slR t el 0 n).length=n:=Ad2 ..
 have hk:∀ x,(enc x).length=t.es:=fun x=>by have:=t.h0 x;rw[l9,he] at this;simpa using this
 have hlt:blk < w.heap.size:=by
  have:=hB.obj
  rcases Nat.lt_or_ge blk w.heap.size with h | h
  ·exact h
  ·rw[hbk,Array.getElem?_eq_none h] at this;cases this
 have hobj:w.heap[blk]?=some (.cells cc tt (0,0)):=by rw[← hbk];exact hB.obj
 have hgd:∀ (l:List α) (j:Nat) (h:j < l.length),gL t l j=l[j]:=fun l j h=>by simp[gL,List.getD_eq_getElem?_getD,List.getElem?_eq_getElem h]
 have hdm:∀ q,q < n*t.es→q / t.es < n∧q % t.es < t.es∧(q / t.es)*t.es+q % t.es=q:=fun q hq=>⟨Nat.div_lt_of_lt_mul (by rw[Nat.mul_comm];exact hq),Nat.mod_lt _ hes,Nat.div_add_mod' q t.es⟩
 have hrowAt:∀ j,j < el.length→el[j]?=some (m8 el j):=fun j hj=>by
  unfold m8;rw[A9,List.getElem?_eq_getElem hj]
 have hH0:HoldsK enc t.es w blk 0 (slR t el 0 n).toArray:=by
  intro q hq
  have hq:q < n*t.es:=by rw[size_flatK] at hq;simpa [hld] using hq
  obtain⟨e1,e2,e3⟩:=hdm q hq
  rw[get_flatK _ _ _ _ (by simpa [hld] using hq),ac9 _ _ (by rw[hld];exact e1),← hgd _ _ (by rw[hld];exact e1)]
  have hcx:(m8 el (q / t.es))[q % t.es]?=some (.v ((enc (gL t (slR t el 0 n) (q / t.es)))[q % t.es]!)):=by
   rw[hrow _ e1,List.getElem?_map,List.getElem?_eq_getElem (by rw[hk];exact e2),getElem!_pos _ _ (by rw[hk];exact e2)]
   rfl
  obtain⟨x',h5,h6⟩:=hB.cell (q / t.es) _ (q % t.es) _ (hrowAt _ (by omega)) hcx
  have h6:x'=(enc (gL t (slR t el 0 n) (q / t.es)))[q % t.es]! :=by cases h6;rfl
  subst h6
  rw[hoff] at h5
  simp only[e3,Nat.zero_add] at h5
  constructor
  ·simp only[World.cell?,hobj,Nat.zero_add]
   simpa using h5
  ·simp[World.frozen?,hobj]
 have hds:(slR t el 0 n).toArray.size=n:=by simpa using hld
 have hmax:n < 4611686018427387904:=by unfold room at hroom;omega
 have hcalls:=hcon blk cap (slR t el 0 n).toArray w (fun off size=>hcl blk off size w) hH0 hlt (by rw[hds];exact hmax)
 rw[hds] at hcalls
 refine hcalls.mono fun e w' ⟨h5,m,os,h6⟩=>⟨_,h5,ρ,F,?_⟩
 generalize hsd:srt (slR t el 0 n)=sd at *
 have hsl:sd.length=n:=by rw[← hsd,hlen,hld]
 have h6:w'=grow (mapBlock (Sort.ahead w m) blk (putCells id 0 (flatK enc t.es sd.toArray))) os:=h6
 have hw'size:w'.heap.size=w.heap.size+os.size:=by rw[h6];simp[mapBlock]
 have hold:∀ k,k < w.heap.size→k≠blk→w'.heap[k]?=w.heap[k]?:=fun k h7 h8=>by
  rw[h6]
  simp only[grow,mapBlock]
  rw[Array.getElem?_append_left (by simpa using h7),Array.getElem?_modify]
  simp[Ne.symm h8]
 have hnew:w'.heap[blk]?=some (.cells (putCells id 0 (flatK enc t.es sd.toArray) cc) tt (0,0)):=by
  rw[h6]
  simp only[grow,mapBlock]
  rw[Array.getElem?_append_left (by simpa using hlt),Array.getElem?_modify]
  simp[hobj,onCells]
 have hcells:∀ b o,F b o→w'.cell? ⟨b,o,none⟩=w.cell? ⟨b,o,none⟩:=fun b o hf=>by
  have h7:b≠blk:=fun h8=>hnF o (h8 ▸ hf)
  have:=qb8 (hH.frz b o hf)
  simp only[World.cell?,hold b this h7]
 have hpc:∀ q,q < cc.size→(putCells id 0 (flatK enc t.es sd.toArray) cc)[q]?=if q < n*t.es then some ((enc sd.toArray[q / t.es]!)[q % t.es]!) else cc[q]?:=fun q hq=>by
  simp only[putCells,Array.getElem?_mapIdx,Array.getElem?_eq_getElem hq,Option.map_some,size_flatK,Nat.zero_le,true_and,Nat.zero_add,Nat.sub_zero,id]
  have:sd.toArray.size=n:=by simpa using hsl
  rw[this]
  split
  ·next h7=>rw[get_flatK _ _ _ _ (by rw[this];exact h7)]
  ·rfl
 have hel:(app (bL t sd) (g9 el n)).length=el.length:=by
  rw[E2,List.length_append,← l9 (bL t sd),L1,hsl,J0,List.length_drop]
  omega
 have hnrow:∀ (j:Nat) r,(app (bL t sd) (g9 el n))[j]?=some r→(j < n∧r=t.row (gL t sd j))∨(n≤j∧el[j]?=some r):=fun j r hr=>by
  have hlb:(bL t sd).length=n:=by rw[← l9,L1,hsl]
  rw[E2] at hr
  rcases Nat.lt_or_ge j n with h7 | h7
  ·rw[List.getElem?_append_left (by omega)] at hr
   left
   refine⟨h7,?_⟩
   unfold bL at hr
   rw[o9,List.getElem?_map,List.getElem?_eq_getElem (by omega)] at hr
   injection hr with hr
   rw[← hr,hgd sd j (by omega)]
  ·rw[List.getElem?_append_right (by omega),hlb,J0,List.getElem?_drop] at hr
   right
   exact⟨h7,by rw[← hr];congr 1;omega⟩
 have hcs:el.length*t.es≤cc.size:=by have:=hB.len;rw[hsize] at this;exact this
 refine⟨⟨⟨?_,?_,?_,by omega,fun k h7 h8=>hold k h7 fun h9=>h8 (h9 ▸ hW),hcells,?_⟩,fun id b hb=>?_,fun _ _ h=>h,fun _ _ h=>.inl h,fun id b' hb' hn'=>?_⟩,⟨fun id b hb hd'=>?_,fun id id' b b' hb hb' h7 h8 h9 h10=>?_,fun b o hf=>by rw[hcells b o hf];exact hH.frz b o hf,fun k hk'=>hH.new k (by omega)⟩,.ofv _⟩
 ·rw[h6];rfl
 ·rw[h6];rfl
 ·rw[h6];rfl
 ·rw[h6];exact Nat.le_add_right _ _
 ·match id,hb with
  | 0,hb =>
   cases hb
   exact⟨_,rfl,rfl,Nat.le_refl _,fun _=>⟨rfl,rfl,by simp only[hel];exact Nat.le_refl _⟩⟩
 ·match id,hb' with
  | 0,hb'=>cases hb';exact absurd rfl (hn' ⟨et',t.es,el,true,false,0⟩ rfl)
 ·match id,hb with
  | 0,hb =>
   cases hb
   refine⟨_,tt,(0,0),by rw[hbk];exact hnew,?_,?_,?_,?_,fun _=>⟨rfl,by rw[hbk];exact hW,hoff,?_,by rw[hbk];exact hnF,het⟩,fun h=>by cases h⟩
   ·rw[hoff,hsize];simp[putCells]
   ·simp only[hel];exact hB.len
   ·intro j r hr
    rcases hnrow j r hr with⟨_,h8⟩ | ⟨_,h8⟩
    ·rw[h8,← l9];exact t.h0 _
    ·exact hB.rows j r h8
   ·intro j r c x hr hc
    rw[hoff,Nat.zero_add]
    rcases hnrow j r hr with⟨h7,h8⟩ | ⟨h7,h8⟩
    ·subst h8
     have hclt:c < t.es:=by
      have:=(List.getElem?_eq_some_iff.1 hc).1
      rw[← l9,t.h0] at this
      exact this
     have hq:j*t.es+c < n*t.es:=by
      have:=Nat.mul_le_mul_right t.es (show j+1≤n from h7)
      rw[Nat.add_mul,Nat.one_mul] at this
      omega
     have hqn:n*t.es≤el.length*t.es:=Nat.mul_le_mul_right _ hn
     have e1:(j*t.es+c) / t.es=j:=by rw[Nat.mul_comm,Nat.mul_add_div hes,Nat.div_eq_of_lt hclt,Nat.add_zero]
     have e2:(j*t.es+c) % t.es=c:=by rw[Nat.mul_comm,Nat.mul_add_mod,Nat.mod_eq_of_lt hclt]
     rw[he,List.getElem?_map,List.getElem?_eq_getElem (by rw[hk];exact hclt)] at hc
     injection hc with hc
     subst hc
     refine⟨(enc (gL t sd j))[c]'(by rw[hk];exact hclt),?_,.v _ (h1 _ _ (List.getElem_mem _))⟩
     rw[hpc _ (Nat.lt_of_lt_of_le hq (Nat.le_trans hqn hcs)),if_pos hq,e1,e2,ac9 _ _ (by omega),hgd sd j (by omega),getElem!_pos _ _ (by rw[hk];exact hclt)]
    ·obtain⟨x',h9,h10⟩:=hB.cell j r c x h8 hc
     rw[hoff,Nat.zero_add] at h9
     have hq:¬ j*t.es+c < n*t.es:=by
      have:=Nat.mul_le_mul_right t.es h7
      omega
     have hlt':j*t.es+c < cc.size:=(Array.getElem?_eq_some_iff.1 h9).1
     exact⟨x',by rw[hpc _ hlt',if_neg hq];exact h9,h10.adv (fun _ _ h=>h) hcells⟩
   ·rw[hsize];simp[putCells]
 ·match id,hb,id',hb' with
  | 0,hb,0,hb'=>exact absurd rfl h10
end
end Go.Ev.L
namespace Go.Proofs
open Go.Shelf
set_option maxRecDepth 100000 in
def Ce.sortLay_ren:Go.Shelf.Ren:=⟨fun | 6=>103 | 15=>178 | 14=>177 | 28=>230 | 29=>231 | 20=>222 | 21=>223 | 22=>224 | 23=>225 | 24=>226 | 25=>227 | 26=>228 | 27=>229 | 46=>240 | 47=>241 | 48=>242 | 49=>243 | 50=>244 | 57=>254 | n=>n,fun | 22=>25 | 24=>50 | 25=>119 | 3=>3 | 39=>185 | 0=>0 | 53=>213 | 55=>215 | 4=>4 | 46=>207 | 45=>206 | 50=>72 | 5=>5 | 9=>9 | 66=>219 | 70=>223 | 76=>231 | 77=>232 | n=>n,fun | n=>n⟩
set_option maxRecDepth 100000 in
theorem Ce.sortLay:Go.Proofs.SlLaysF0.n6 Tryz.prog Ce.sortLay_ren:={
 mixed:=by kernel_rfl
 f6:=⟨Tryz.f103.name,by decide,Tryz.func103.trans (congrArg some (by kernel_rfl))⟩
 f14:=⟨Tryz.f177.name,by decide,Tryz.func177.trans (congrArg some (by kernel_rfl))⟩
 f15:=Tryz.func178.trans (congrArg some (by kernel_rfl))
 f20:=⟨Tryz.f222.name,by decide,Tryz.func222.trans (congrArg some (by kernel_rfl))⟩
 f21:=⟨Tryz.f223.name,by decide,Tryz.func223.trans (congrArg some (by kernel_rfl))⟩
 f22:=⟨Tryz.f224.name,by decide,Tryz.func224.trans (congrArg some (by kernel_rfl))⟩
 f23:=⟨Tryz.f225.name,by decide,Tryz.func225.trans (congrArg some (by kernel_rfl))⟩
 f24:=⟨Tryz.f226.name,by decide,Tryz.func226.trans (congrArg some (by kernel_rfl))⟩
 f25:=⟨Tryz.f227.name,by decide,Tryz.func227.trans (congrArg some (by kernel_rfl))⟩
 f26:=⟨Tryz.f228.name,by decide,Tryz.func228.trans (congrArg some (by kernel_rfl))⟩
 f27:=⟨Tryz.f229.name,by decide,Tryz.func229.trans (congrArg some (by kernel_rfl))⟩
 f28:=Tryz.func230.trans (congrArg some (by kernel_rfl))
 f29:=Tryz.func231.trans (congrArg some (by kernel_rfl))
 f46:=⟨Tryz.f240.name,by decide,Tryz.func240.trans (congrArg some (by kernel_rfl))⟩
 f47:=Tryz.func241.trans (congrArg some (by kernel_rfl))
 f48:=Tryz.func242.trans (congrArg some (by kernel_rfl))
 f49:=⟨Tryz.f243.name,by decide,Tryz.func243.trans (congrArg some (by kernel_rfl))⟩
 f50:=⟨Tryz.f244.name,by decide,Tryz.func244.trans (congrArg some (by kernel_rfl))⟩
 f57:=⟨Tryz.f254.name,by decide,Tryz.func254.trans (congrArg some (by kernel_rfl))⟩
 t0:=Tryz.underlying0
 a0:=Tryz.isAgg0
 z0:=Tryz.sizeOf0
 v0:=Tryz.zeroValue0
 t3:=Tryz.underlying3
 a3:=Tryz.isAgg3
 z3:=Tryz.sizeOf3
 v3:=Tryz.zeroValue3
 t4:=Tryz.underlying4
 a4:=Tryz.isAgg4
 z4:=Tryz.sizeOf4
 v4:=Tryz.zeroValue4
 t5:=Tryz.underlying5
 a5:=Tryz.isAgg5
 z5:=Tryz.sizeOf5
 v5:=Tryz.zeroValue5
 t9:=Tryz.underlying9
 a9:=Tryz.isAgg9
 z9:=Tryz.sizeOf9
 v9:=Tryz.zeroValue9
 t22:=Tryz.underlying25
 a22:=Tryz.isAgg25
 z22:=Tryz.sizeOf25
 v22:=Tryz.zeroValue25
 t25:=Tryz.underlying119
 a25:=Tryz.isAgg119
 z25:=Tryz.sizeOf119
 v25:=Tryz.zeroValue119
 t39:=Tryz.underlying185
 a39:=Tryz.isAgg185
 z39:=Tryz.sizeOf185
 v39:=Tryz.zeroValue185
 t45:=Tryz.underlying206
 a45:=Tryz.isAgg206
 z45:=Tryz.sizeOf206
 v45:=Tryz.zeroValue206
 t46:=Tryz.underlying207
 a46:=Tryz.isAgg207
 z46:=Tryz.sizeOf207
 v46:=Tryz.zeroValue207
 t50:=Tryz.underlying72
 a50:=Tryz.isAgg72
 z50:=Tryz.sizeOf72
 v50:=Tryz.zeroValue72
 t53:=Tryz.underlying213
 a53:=Tryz.isAgg213
 z53:=Tryz.sizeOf213
 v53:=Tryz.zeroValue213
 t55:=Tryz.underlying215
 a55:=Tryz.isAgg215
 z55:=Tryz.sizeOf215
 v55:=Tryz.zeroValue215
 t66:=Tryz.underlying219
 a66:=Tryz.isAgg219
 z66:=Tryz.sizeOf219
 v66:=Tryz.zeroValue219
 t70:=Tryz.underlying223
 a70:=Tryz.isAgg223
 z70:=Tryz.sizeOf223
 v70:=Tryz.zeroValue223
 t76:=Tryz.underlying231
 a76:=Tryz.isAgg231
 z76:=Tryz.sizeOf231
 v76:=Tryz.zeroValue231
 t77:=Tryz.underlying232
 a77:=Tryz.isAgg232
 z77:=Tryz.sizeOf232
 v77:=Tryz.zeroValue232 }
end Go.Proofs
namespace Go.Ev.Ce
open Go Go.Ev Go.Ev.L Go.Proofs Go.Sort
def eb6 (x y:Int):Int:=if x < y then -1 else if x > y then 1 else 0
def ha3 (x y:Pln):Int :=
 if eb6 x.n.x y.n.x=0 then if eb6 x.n.y y.n.y=0 then if eb6 x.n.z y.n.z=0 then eb6 x.b y.b else eb6 x.n.z y.n.z else eb6 x.n.y y.n.y else eb6 x.n.x y.n.x
theorem rc4 (x y:Int):eb6 x y < 0↔x < y:=by unfold eb6;split<;>(try split)<;>omega
theorem Zc8 (x y:Int):eb6 x y=0↔x=y:=by unfold eb6;split<;>(try split)<;>omega
def LtP (x y:Pln):Prop:=x.n.x < y.n.x∨x.n.x=y.n.x∧(x.n.y < y.n.y∨x.n.y=y.n.y∧(x.n.z < y.n.z∨x.n.z=y.n.z∧x.b < y.b))
instance (x y:Pln):Decidable (LtP x y):=by unfold LtP;exact inferInstance
theorem Zc9 (x y:Pln):ha3 x y < 0↔LtP x y:=by
 have h1:=rc4 x.n.x y.n.x;have h2:=Zc8 x.n.x y.n.x
 have h3:=rc4 x.n.y y.n.y;have h4:=Zc8 x.n.y y.n.y
 have h5:=rc4 x.n.z y.n.z;have h6:=Zc8 x.n.z y.n.z
 have h7:=rc4 x.b y.b
 unfold ha3 LtP
 split
 ·split
  ·split<;>omega
  ·omega
 ·omega
theorem Za7 (x y:Pln):ltOf ha3 x y=decide (LtP x y):=by
 unfold ltOf
 rw[decide_eq_decide]
 exact Zc9 x y
theorem Ge2:SWO (ltOf ha3) where
 irrefl x:=by rw[Za7];simp[LtP]
 trans x y z h1 h2:=by rw[Za7,decide_eq_true_eq] at *;unfold LtP at *;omega
 ntrans x y z h1 h2:=by rw[Za7,decide_eq_false_iff_not] at *;unfold LtP at *;omega
theorem Ge3 (x y:Pln) (h1:ltOf ha3 x y=false) (h2:ltOf ha3 y x=false):x=y:=by
 rw[Za7,decide_eq_false_iff_not] at *
 unfold LtP at *
 obtain⟨⟨a,b,c⟩,d⟩:=x;obtain⟨⟨a',b',c'⟩,d'⟩:=y
 simp only at *
 have:a=a'∧b=b'∧c=c'∧d=d':=by omega
 obtain⟨rfl,rfl,rfl,rfl⟩:=this
 rfl
theorem od8 (x y:Int):Ba3 x y=some (i (eb6 x y),[]):=by
 unfold Ba3 eb6
 simp only[ab7,decide_eq_true_eq]
 split<;>(try split)<;>rfl
theorem je1 (x y:Int):ka8 x y=eb6 x y:=by unfold ka8;rw[od8];rfl
theorem je2 (x y:Int):ka9 x y=true:=by unfold ka9;rw[od8];rfl
theorem Ec1 (x y:Pln):ra1 x y=some (i (ha3 x y),[]):=by
 unfold ra1 ha3
 simp only[je1,je2,ab7,beq_iff_eq,if_true]
 repeat' (first | rfl | split)
theorem Ge4 (x y:Pln):Ca3 x y=ha3 x y:=by unfold Ca3;rw[Ec1];rfl
theorem Ge5 (x y:Pln):Ca4 x y=true:=by unfold Ca4;rw[Ec1];rfl
theorem Ge6 (x y:Pln):(Va7 [.agg (tP.row x),.agg (tP.row y)] []).run=some (i (ha3 x y),[]):=by
 have:(Va7 [.agg (tP.row x),.agg (tP.row y)] []).run=sel (Ca4 x y) (some (i (Ca3 x y),[])) none:=by kernel_rfl
 rw[this,Ge5,Ge4]
def ec5 (p:Pln):List Value:=[.int .i64 p.n.x,.int .i64 p.n.y,.int .i64 p.n.z,.int .i64 p.b]
instance:Inhabited Pln:=⟨⟨⟨0,0,0⟩,0⟩⟩
def xb5 (l:List Pln):List Pln:=l.mergeSort fun x y=>!ltOf ha3 y x
theorem Qc9 (l:List Pln):(xb5 l).length=l.length:=List.length_mergeSort l
noncomputable def Fa3:Sum:=Wd3 tP 104 50 xb5
theorem Wd4:Ce.sortLay_ren.f 6=103:=by kernel_rfl
theorem Rc0:Ce.sortLay_ren.t 24=50:=by kernel_rfl
set_option maxRecDepth 100000 in
theorem nb3:j6 prog G 103 Fa3:=by
 refine je0 (enc:=ec5) (cf:=ha3) ⟨_,Tryz.func103,by kernel_rfl,of_decide_eq_true (by kernel_rfl)⟩ (by decide) (fun _=>rfl) (fun r h=>La4 (n:=4) h) (fun x v hv=>?_) Qc9
  (fun blk off size w=>ie9 ic2 Ge6 (fun _=>rfl) (fun _=>rfl) _ _ _ _ _) (fun blk cap d w hcl hH hb hs=>?_)
 ·simp[ec5] at hv
  rcases hv with rfl | rfl | rfl | rfl<;>rfl
 ·have eg:∀ args w,(callFunc 104 args).run Tryz.prog w=.ok (.enter 104 args) w:=enters_of Tryz.func104 (by kernel_rfl) rfl
  have:=AnyQ.slices_SortFunc Ce.sortLay 4 (by rw[Rc0];exact Tryz.isAgg50) (by rw[Rc0];exact Tryz.sizeOf50) ec5 (fun _=>rfl) (fun x v hv=>by simp[ec5] at hv;rcases hv with rfl | rfl | rfl | rfl<;>rfl) ha3 Ge2 104 #[] blk 0 cap d w eg (hcl 0 d.size) hH hb hs
  rw[Wd4] at this
  refine this.mono fun e w' ⟨h1,d',n,os,h2,h3,h4⟩=>⟨h1,n,os,?_⟩
  have h5:=sorted_unique_holds Ge2 Ge3 d d' h2 h3
  rw[h4]
  show _=sortWorldK ec5 4 w blk 0 n (d.toList.mergeSort fun x y=>!ltOf ha3 y x).toArray os
  rw[← h5]
end Go.Ev.Ce
section
namespace Go.Ev.Ce
open Go Go.Ev Go.Ev.L Go.Proofs
set_option maxRecDepth 100000
noncomputable def yb2:List (Nat×Sum):=[]
theorem wb3:l5 prog G yb2:=trivial
structure ja3 where
 alt:Nat
 ns0:Nat
 eh0:List (List b7)
noncomputable def N8 {α:Type} (kk:ja3→α) (x:Pln×List Pln):α:=(sl (Nat.beq (len (n7 (fun k=>(tP).row (gL tP (x.1::x.2) k)) (List.range (List.length x.2+1)))) 0) (kk ⟨1,0,[]⟩) (sl (Nat.beq 0 0&&Nat.ble ((0+(len (n7 (fun k=>(tP).row (gL tP (x.1::x.2) k)) (List.range (List.length x.2+1)))))*32) room) (kk ⟨1,(0+(len (n7 (fun k=>(tP).row (gL tP (x.1::x.2) k)) (List.range (List.length x.2+1))))),(app [] (n7 (fun k=>(tP).row (gL tP (x.1::x.2) k)) (List.range (List.length x.2+1))))⟩) (kk ⟨0,0,[]⟩)))
noncomputable def ja4 (x:Pln×List Pln):ja3:=N8 (fun r=>r) x
noncomputable def ta1 (r:ja3):DT (b7×List b8):=(.ite (Nat.beq r.alt 1) (.ret ((.sl 0 0 r.ns0 0),[⟨50,4,r.eh0,true,false,0⟩])) .fail)
theorem Gb1 {α β:Type} (F:α→β) (kk:ja3→α) (x:Pln×List Pln):F (N8 kk x)=N8 (fun r=>F (kk r)) x:=by unfold N8;(repeat' apply o0 (f:=F))<;>rfl
noncomputable def Sa4:Sum:=ja7 (ze7 tP) (fun x=>ta1 (ja4 x))
theorem yb3:j6 prog G 100 Sa4:=Ib4 (bd Le3 wb3) fun x=>w6 (Eq.trans (b:=N8 (fun r=>(ta1 r).run) x) (by kernel_rfl) (Gb1 (fun r=>(ta1 r).run) (fun r=>r) x).symm)
noncomputable def ad1:List (Nat×Sum):=[(20,Fa0),(18,sa2),(100,Sa4),(99,ya9),(103,Fa3),(105,Ja5)]
theorem Lc0:l5 prog G ad1:=⟨Ia4,va6,yb3,db9,nb3,qb1,trivial⟩
noncomputable def Sa5 (x:Pln×List Pln):Option (b7×List b8):=let t1:=(R9 (rt tP (x.1::x.2)));let t2:=(W4 (rt tP (x.1::x.2)));let t3:=(ja4 (hC tP (fun k=>(tP).row (gL tP (x.1::x.2) k)),tC tP (List.length x.2) (fun k=>(tP).row (gL tP (x.1::x.2) k))));let t4:=(T7 ⟨t3.ns0,t3.eh0,(rt tX t2)⟩);let t5:=(ca8 ⟨t4.ns0,(app (bL tP (xb5 (slR tP t4.eh0 0 t4.ns0))) (g9 t4.eh0 t4.ns0))⟩);(sl (okE tP (x.1::x.2)) (sl (G8 (rt tP (x.1::x.2))) (sl (!t1) (some ((.v (.slice none 0 0)),[])) (sl (okE tP (x.1::x.2)) (sl (J5 (rt tP (x.1::x.2))) (sl (okL tP (List.length x.2+1) (fun k=>(tP).row (gL tP (x.1::x.2) k))) (sl (Nat.beq t3.alt 1) (sl ((cnE tX t2)&&true) (sl (Nat.beq t4.alt 1) (sl (Bool.and (Nat.ble t4.ns0 room) (Bool.and (Nat.ble t4.ns0 (len t4.eh0)) (okS tP t4.eh0 0 t4.ns0))) (sl (Nat.beq t5.alt 1) (some ((.sl 0 0 t5.ns0 0),[⟨50,4,t5.eh0,true,false,0⟩])) none) none) none) none) none) none) none) none)) none) none)
noncomputable def Gb2 (x:Pln×List Pln):List Pln:=P4 (one (r1L tP)) (Sa5 x)
noncomputable def Gb3 (x:Pln×List Pln):Bool:=okO (one (r1L tP)) (Sa5 x)
noncomputable def lc9:Sum:=ja7 (ze7 tP) (fun x=>.guard (Gb3 x) (.ret ((one (r1L tP)).enc (Gb2 x),[])))
theorem ad2:j6 prog G 25 lc9:=Da0 (bd b25 Lc0) (one (r1L tP)) (o:=Sa5) fun x=>w6 (by kernel_rfl)
noncomputable def pc9:List (Nat×Sum):=[(81,ac8),(18,sa2),(17,pb9),(25,lc9),(26,Cc6),(20,Fa0),(28,Dc3),(22,Yb2),(31,vb8),(33,nb1),(15,ub1)]
theorem ic5:l5 prog G pc9:=⟨Kc9,va6,Zb7,ad2,md9,Ia4,od4,Ic9,Ob2,Fb9,Nb5,trivial⟩
noncomputable def wa7  : Option (b7×List b8):=let t1:=wb0;let t2:=(W4 [(⟨(⟨1,0,0⟩:V3),t1.d9⟩:Pln),(⟨(⟨(-1),0,0⟩:V3),t1.O1⟩:Pln),(⟨(⟨0,1,0⟩:V3),t1.O2⟩:Pln),(⟨(⟨0,(-1),0⟩:V3),t1.O3⟩:Pln),(⟨(⟨0,0,1⟩:V3),t1.O4⟩:Pln),(⟨(⟨0,0,(-1)⟩:V3),t1.O5⟩:Pln)]);let t3:=(W4 [(⟨(⟨(-1),0,0⟩:V3),0⟩:Pln),(⟨(⟨0,(-1),0⟩:V3),0⟩:Pln),(⟨(⟨0,0,(-1)⟩:V3),0⟩:Pln),(⟨(⟨2,3,4⟩:V3),1⟩:Pln)]);let t4:=(na6 (rt tX t2) [(⟨1,1,1,1⟩:Pt),(⟨1,1,0,1⟩:Pt),(⟨1,0,1,1⟩:Pt),(⟨1,0,0,1⟩:Pt),(⟨0,1,1,1⟩:Pt),(⟨0,1,0,1⟩:Pt),(⟨0,0,1,1⟩:Pt),(⟨0,0,0,1⟩:Pt)]);let t5:=(na6 (rt tX t3) [(⟨0,0,0,1⟩:Pt),(⟨0,0,1,4⟩:Pt),(⟨0,1,0,3⟩:Pt),(⟨1,0,0,2⟩:Pt)]);let t6:=(Gb2 ((⟨(⟨1,0,0⟩:V3),t1.d9⟩:Pln),[(⟨(⟨(-1),0,0⟩:V3),t1.O1⟩:Pln),(⟨(⟨0,1,0⟩:V3),t1.O2⟩:Pln),(⟨(⟨0,(-1),0⟩:V3),t1.O3⟩:Pln),(⟨(⟨0,0,1⟩:V3),t1.O4⟩:Pln),(⟨(⟨0,0,(-1)⟩:V3),t1.O5⟩:Pln),(⟨(⟨1,0,0⟩:V3),t1.d9⟩:Pln),(⟨(⟨1,1,1⟩:V3),3⟩:Pln),(⟨(⟨1,0,0⟩:V3),7⟩:Pln)]));let t7:=(vb3 (rt tP t6) [(⟨(⟨(-1),0,0⟩:V3),t1.O1⟩:Pln),(⟨(⟨0,(-1),0⟩:V3),t1.O3⟩:Pln),(⟨(⟨0,0,(-1)⟩:V3),t1.O5⟩:Pln),(⟨(⟨0,0,1⟩:V3),t1.O4⟩:Pln),(⟨(⟨0,1,0⟩:V3),t1.O2⟩:Pln),(⟨(⟨1,0,0⟩:V3),t1.d9⟩:Pln)]);let t8:=(R9 []);let t9:=(R9 [(⟨(⟨1,0,0⟩:V3),t1.d9⟩:Pln),(⟨(⟨(-1),0,0⟩:V3),t1.O1⟩:Pln),(⟨(⟨0,1,0⟩:V3),t1.O2⟩:Pln),(⟨(⟨0,(-1),0⟩:V3),t1.O3⟩:Pln),(⟨(⟨0,0,1⟩:V3),t1.O4⟩:Pln),(⟨(⟨0,0,(-1)⟩:V3),t1.O5⟩:Pln),(⟨(⟨(-1),0,0⟩:V3),(-1)⟩:Pln)]);let t10:=(eb2 [(⟨(⟨1,0,0⟩:V3),t1.d9⟩:Pln),(⟨(⟨(-1),0,0⟩:V3),t1.O1⟩:Pln),(⟨(⟨0,1,0⟩:V3),t1.O2⟩:Pln),(⟨(⟨0,(-1),0⟩:V3),t1.O3⟩:Pln),(⟨(⟨0,0,1⟩:V3),t1.O4⟩:Pln),(⟨(⟨0,0,(-1)⟩:V3),t1.O5⟩:Pln)] (⟨1,0,0⟩:V3));let t11:=(eb2 [(⟨(⟨1,0,0⟩:V3),t1.d9⟩:Pln),(⟨(⟨(-1),0,0⟩:V3),t1.O1⟩:Pln),(⟨(⟨0,1,0⟩:V3),t1.O2⟩:Pln),(⟨(⟨0,(-1),0⟩:V3),t1.O3⟩:Pln),(⟨(⟨0,0,1⟩:V3),t1.O4⟩:Pln),(⟨(⟨0,0,(-1)⟩:V3),t1.O5⟩:Pln)] (⟨2,0,0⟩:V3));let t12:=(Xa8 [(⟨(⟨(-1),0,0⟩:V3),0⟩:Pln),(⟨(⟨0,(-1),0⟩:V3),0⟩:Pln),(⟨(⟨0,0,(-1)⟩:V3),0⟩:Pln),(⟨(⟨2,3,4⟩:V3),1⟩:Pln)]);let t13:=(K1 [(⟨(⟨1,0,0⟩:V3),t1.d9⟩:Pln),(⟨(⟨(-1),0,0⟩:V3),t1.O1⟩:Pln),(⟨(⟨0,1,0⟩:V3),t1.O2⟩:Pln),(⟨(⟨0,(-1),0⟩:V3),t1.O3⟩:Pln),(⟨(⟨0,0,1⟩:V3),t1.O4⟩:Pln),(⟨(⟨0,0,(-1)⟩:V3),t1.O5⟩:Pln)] [(⟨(⟨(-1),0,0⟩:V3),(-1)⟩:Pln)]);let t14:=(K1 [(⟨(⟨1,0,0⟩:V3),t1.d9⟩:Pln),(⟨(⟨(-1),0,0⟩:V3),t1.O1⟩:Pln),(⟨(⟨0,1,0⟩:V3),t1.O2⟩:Pln),(⟨(⟨0,(-1),0⟩:V3),t1.O3⟩:Pln),(⟨(⟨0,0,1⟩:V3),t1.O4⟩:Pln),(⟨(⟨0,0,(-1)⟩:V3),t1.O5⟩:Pln)] [(⟨(⟨(-1),(-1),0⟩:V3),(-1)⟩:Pln)]);let t15:=(G6 [(⟨(⟨1,0,0⟩:V3),t1.d9⟩:Pln),(⟨(⟨(-1),0,0⟩:V3),t1.O1⟩:Pln),(⟨(⟨0,1,0⟩:V3),t1.O2⟩:Pln),(⟨(⟨0,(-1),0⟩:V3),t1.O3⟩:Pln),(⟨(⟨0,0,1⟩:V3),t1.O4⟩:Pln),(⟨(⟨0,0,(-1)⟩:V3),t1.O5⟩:Pln)] [(⟨(⟨1,1,1⟩:V3),3⟩:Pln)]);let t16:=(G6 [(⟨(⟨1,0,0⟩:V3),t1.d9⟩:Pln),(⟨(⟨(-1),0,0⟩:V3),t1.O1⟩:Pln),(⟨(⟨0,1,0⟩:V3),t1.O2⟩:Pln),(⟨(⟨0,(-1),0⟩:V3),t1.O3⟩:Pln),(⟨(⟨0,0,1⟩:V3),t1.O4⟩:Pln),(⟨(⟨0,0,(-1)⟩:V3),t1.O5⟩:Pln)] [(⟨(⟨1,1,1⟩:V3),2⟩:Pln)]);let t17:=(Ha8 [(⟨(⟨0,0,0⟩:V3),0⟩:Pln)]);(sl (J5 [(⟨(⟨1,0,0⟩:V3),t1.d9⟩:Pln),(⟨(⟨(-1),0,0⟩:V3),t1.O1⟩:Pln),(⟨(⟨0,1,0⟩:V3),t1.O2⟩:Pln),(⟨(⟨0,(-1),0⟩:V3),t1.O3⟩:Pln),(⟨(⟨0,0,1⟩:V3),t1.O4⟩:Pln),(⟨(⟨0,0,(-1)⟩:V3),t1.O5⟩:Pln)]) (sl (J5 [(⟨(⟨(-1),0,0⟩:V3),0⟩:Pln),(⟨(⟨0,(-1),0⟩:V3),0⟩:Pln),(⟨(⟨0,0,(-1)⟩:V3),0⟩:Pln),(⟨(⟨2,3,4⟩:V3),1⟩:Pln)]) (sl (okE tX t2) (sl (na7 (rt tX t2) [(⟨1,1,1,1⟩:Pt),(⟨1,1,0,1⟩:Pt),(⟨1,0,1,1⟩:Pt),(⟨1,0,0,1⟩:Pt),(⟨0,1,1,1⟩:Pt),(⟨0,1,0,1⟩:Pt),(⟨0,0,1,1⟩:Pt),(⟨0,0,0,1⟩:Pt)]) (sl (!t4) (some ((b false),[])) (sl (okE tX t3) (sl (na7 (rt tX t3) [(⟨0,0,0,1⟩:Pt),(⟨0,0,1,4⟩:Pt),(⟨0,1,0,3⟩:Pt),(⟨1,0,0,2⟩:Pt)]) (sl (!t5) (some ((b false),[])) (sl (Gb3 ((⟨(⟨1,0,0⟩:V3),t1.d9⟩:Pln),[(⟨(⟨(-1),0,0⟩:V3),t1.O1⟩:Pln),(⟨(⟨0,1,0⟩:V3),t1.O2⟩:Pln),(⟨(⟨0,(-1),0⟩:V3),t1.O3⟩:Pln),(⟨(⟨0,0,1⟩:V3),t1.O4⟩:Pln),(⟨(⟨0,0,(-1)⟩:V3),t1.O5⟩:Pln),(⟨(⟨1,0,0⟩:V3),t1.d9⟩:Pln),(⟨(⟨1,1,1⟩:V3),3⟩:Pln),(⟨(⟨1,0,0⟩:V3),7⟩:Pln)])) (sl (okE tP t6) (sl (vb4 (rt tP t6) [(⟨(⟨(-1),0,0⟩:V3),t1.O1⟩:Pln),(⟨(⟨0,(-1),0⟩:V3),t1.O3⟩:Pln),(⟨(⟨0,0,(-1)⟩:V3),t1.O5⟩:Pln),(⟨(⟨0,0,1⟩:V3),t1.O4⟩:Pln),(⟨(⟨0,1,0⟩:V3),t1.O2⟩:Pln),(⟨(⟨1,0,0⟩:V3),t1.d9⟩:Pln)]) (sl (!t7) (some ((b false),[])) (sl (G8 []) (sl (!t8) (some ((b false),[])) (sl (G8 [(⟨(⟨1,0,0⟩:V3),t1.d9⟩:Pln),(⟨(⟨(-1),0,0⟩:V3),t1.O1⟩:Pln),(⟨(⟨0,1,0⟩:V3),t1.O2⟩:Pln),(⟨(⟨0,(-1),0⟩:V3),t1.O3⟩:Pln),(⟨(⟨0,0,1⟩:V3),t1.O4⟩:Pln),(⟨(⟨0,0,(-1)⟩:V3),t1.O5⟩:Pln),(⟨(⟨(-1),0,0⟩:V3),(-1)⟩:Pln)]) (sl t9 (some ((b false),[])) (sl (eb3 [(⟨(⟨1,0,0⟩:V3),t1.d9⟩:Pln),(⟨(⟨(-1),0,0⟩:V3),t1.O1⟩:Pln),(⟨(⟨0,1,0⟩:V3),t1.O2⟩:Pln),(⟨(⟨0,(-1),0⟩:V3),t1.O3⟩:Pln),(⟨(⟨0,0,1⟩:V3),t1.O4⟩:Pln),(⟨(⟨0,0,(-1)⟩:V3),t1.O5⟩:Pln)] (⟨1,0,0⟩:V3)) (sl (!t10) (some ((b false),[])) (sl (eb3 [(⟨(⟨1,0,0⟩:V3),t1.d9⟩:Pln),(⟨(⟨(-1),0,0⟩:V3),t1.O1⟩:Pln),(⟨(⟨0,1,0⟩:V3),t1.O2⟩:Pln),(⟨(⟨0,(-1),0⟩:V3),t1.O3⟩:Pln),(⟨(⟨0,0,1⟩:V3),t1.O4⟩:Pln),(⟨(⟨0,0,(-1)⟩:V3),t1.O5⟩:Pln)] (⟨2,0,0⟩:V3)) (sl t11 (some ((b false),[])) (sl (Xa9 [(⟨(⟨(-1),0,0⟩:V3),0⟩:Pln),(⟨(⟨0,(-1),0⟩:V3),0⟩:Pln),(⟨(⟨0,0,(-1)⟩:V3),0⟩:Pln),(⟨(⟨2,3,4⟩:V3),1⟩:Pln)]) (sl (!((t12.1.x==0)&&((t12.1.y==0)&&((t12.1.z==0)&&true)))) (some ((b false),[])) (sl (!((t12.2.1.x==1)&&((t12.2.1.y==1)&&((t12.2.1.z==1)&&true)))) (some ((b false),[])) (sl (!t12.2.2) (some ((b false),[])) (sl (f8 [(⟨(⟨1,0,0⟩:V3),t1.d9⟩:Pln),(⟨(⟨(-1),0,0⟩:V3),t1.O1⟩:Pln),(⟨(⟨0,1,0⟩:V3),t1.O2⟩:Pln),(⟨(⟨0,(-1),0⟩:V3),t1.O3⟩:Pln),(⟨(⟨0,0,1⟩:V3),t1.O4⟩:Pln),(⟨(⟨0,0,(-1)⟩:V3),t1.O5⟩:Pln)] [(⟨(⟨(-1),0,0⟩:V3),(-1)⟩:Pln)]) (sl t13 (sl (f8 [(⟨(⟨1,0,0⟩:V3),t1.d9⟩:Pln),(⟨(⟨(-1),0,0⟩:V3),t1.O1⟩:Pln),(⟨(⟨0,1,0⟩:V3),t1.O2⟩:Pln),(⟨(⟨0,(-1),0⟩:V3),t1.O3⟩:Pln),(⟨(⟨0,0,1⟩:V3),t1.O4⟩:Pln),(⟨(⟨0,0,(-1)⟩:V3),t1.O5⟩:Pln)] [(⟨(⟨(-1),(-1),0⟩:V3),(-1)⟩:Pln)]) (sl (!t14) (sl (b9 [(⟨(⟨1,0,0⟩:V3),t1.d9⟩:Pln),(⟨(⟨(-1),0,0⟩:V3),t1.O1⟩:Pln),(⟨(⟨0,1,0⟩:V3),t1.O2⟩:Pln),(⟨(⟨0,(-1),0⟩:V3),t1.O3⟩:Pln),(⟨(⟨0,0,1⟩:V3),t1.O4⟩:Pln),(⟨(⟨0,0,(-1)⟩:V3),t1.O5⟩:Pln)] [(⟨(⟨1,1,1⟩:V3),3⟩:Pln)]) (sl t15 (sl (b9 [(⟨(⟨1,0,0⟩:V3),t1.d9⟩:Pln),(⟨(⟨(-1),0,0⟩:V3),t1.O1⟩:Pln),(⟨(⟨0,1,0⟩:V3),t1.O2⟩:Pln),(⟨(⟨0,(-1),0⟩:V3),t1.O3⟩:Pln),(⟨(⟨0,0,1⟩:V3),t1.O4⟩:Pln),(⟨(⟨0,0,(-1)⟩:V3),t1.O5⟩:Pln)] [(⟨(⟨1,1,1⟩:V3),2⟩:Pln)]) (sl (!t16) (sl (Ha9 [(⟨(⟨0,0,0⟩:V3),0⟩:Pln)]) (some ((b (t17==12)),[])) none) (some ((b false),[]))) none) (some ((b false),[]))) none) (some ((b false),[]))) none) (some ((b false),[]))) none)))) none)) none)) none)) none)) none)) none) none) none)) none) none)) none) none) none) none)
noncomputable def Ka0  : Bool:=P4 (one r1B) wa7
noncomputable def Ka1  : Bool:=okO (one r1B) wa7
noncomputable def Gb4:Sum:=fd2  (.guard Ka1 (.ret ((one r1B).enc Ka0,[])))
theorem qc0:j6 prog G 13 Gb4:=Ie2 (bd b13 ic5) (one r1B) (o:=wa7) (w6 (by kernel_rfl))
end Go.Ev.Ce
end
namespace Go.Ev.Ce
open Go Go.Ev Go.Ev.L Go.Proofs
noncomputable def onc (X:List Pt) (p:Pln):Nat:=X.countP fun x=>rm p x==0
noncomputable def keep (X:List Pt) (p:Pln):Bool:=!decide ((onc X p:Int) < 3)
theorem Ec2 (p:Pln) (X:List Pt) (hX:X.length≤1000000000):ka5 ⟨p.n.x,p.n.y,p.n.z,p.b,X⟩=⟨1,!keep X p,X⟩:=by
 have h:=Ib6 (step:=na8 ⟨X,(X.length:Int),X,p.n.x,p.n.y,p.n.z,p.b⟩) (mk:=fun j (n:Nat)=>(⟨(n:Int),(j:Int)⟩:M8)) (f:=fun n x=>if rm p x==0 then n+1 else n) (fin:=1) tX X (fun j n=>n≤j) hX
  (fun j n hj hi=>by
   have hW:W ((n:Int)+1)=((n+1:Nat):Int):=by rw[Z3 (by omega) (by omega)];omega
   refine⟨?_,by show (if rm p (gL tX X j)==0 then n+1 else n)≤j+1;split<;>omega⟩
   simp only[na8,ja2,Int.toNat_natCast,Xc1,hW,o2 hj (show X.length≤4611686018427387904 by omega)]
   rw[btD (l0 hj),bt (e8 hj)]
   cases rm p (gL tX X j)==0<;>rfl)
  (fun n _=>by simp only[na8,ja2];rw[bfD (y5 (Nat.lt_irrefl _))]) 0 (Nat.zero_le _) 0 (Nat.le_refl _)
 have h:=h.1
 have e:∀ (l:List Pt) (n:Nat),l.foldl (fun n x=>if rm p x==0 then n+1 else n) n=n+l.countP fun x=>rm p x==0:=by
  intro l
  induction l with
  | nil=>intro n;rfl
  | cons x l ih =>
   intro n
   rw[List.foldl_cons,ih,List.countP_cons]
   split<;>omega
 rw[List.drop_zero,e,Nat.zero_add] at h
 unfold ka5 sa4 keep onc
 simp only[l8,l6]
 rw[show (⟨0,0⟩:M8)=⟨((0:Nat):Int),((0:Nat):Int)⟩ from rfl,h]
 show sa3.mk 1 (decide _) X=sa3.mk 1 (!(!(decide _))) X
 rw[Bool.not_not]
theorem je3 (l:List Pln) (X:List Pt) (hl:l.length≤1000000000) (hX:X.length≤1000000000):T4 ⟨l.length,bL tP l,X⟩=⟨1,if l.any (fun p=>!keep X p) then ((l.findIdx (fun p=>!keep X p):Nat):Int) else -1,X⟩:=by
 have h:=Xa0 (step:=G1 ⟨l.length,(l.length:Int),bL tP l⟩) (mk:=fun j=>(⟨(j:Int),X⟩:o7)) (c:=fun p=>!keep X p) (u:=1) (fin:=2) tP l hl
  (fun j hj=>by
   simp only[G1,D1,Int.toNat_natCast,l8,l6,rc3 hj,ac5 hj,Ec2 _ _ hX,o2 hj (show l.length≤4611686018427387904 by omega)]
   rw[btD (l0 hj),bt (e8 hj)]
   rfl)
  (by simp only[G1,D1];rw[bfD (y5 (Nat.lt_irrefl _))]) 0 (Nat.zero_le _)
 rw[List.drop_zero] at h
 unfold T4 D9
 simp only[l8,l6]
 rw[show (⟨0,X⟩:o7)=⟨((0:Nat):Int),X⟩ from rfl,h]
 cases ha:l.any fun p=>!keep X p with
 | false=>rfl
 | true =>
  have hf:l.findIdx (fun p=>!keep X p) < l.length:=by
   rw[List.any_eq_true] at ha
   obtain⟨p,hp,hc⟩:=ha
   exact List.findIdx_lt_length_of_exists ⟨p,hp,hc⟩
  simp only[if_true,Nat.zero_add,Int.toNat_natCast,ac5 hf,Ec2 _ _ hX,l8]
  rfl
theorem bc0 {α:Type} (c:α→Bool):∀ l:List α,(l.take (l.findIdx c)).filter (fun x=>!c x)=l.take (l.findIdx c)
 | []=>rfl
 | x::l=>by
  rw[List.findIdx_cons]
  cases h:c x with
  | true=>rfl
  | false =>
   simp only[cond_false,List.take_succ_cons,List.filter_cons,h,Bool.not_false,if_true]
   rw[bc0 c l]
theorem xd6 {α:Type} (l:List α) (j:Nat) (h:j < l.length):l.take (j+1)=l.take j++[l[j]]:=by rw[List.take_succ_eq_append_getElem h]
theorem ad3 {α:Type} (t:Ty α) {l:List α} {j:Nat} (h:j < l.length):l.take (j+1)=l.take j++[gL t l j]:=by rw[xd6 l j h,Pa4 t h]
theorem ic6 {α:Type} (t:Ty α) {l r:List α} {j:Nat} (h:l.drop j=r.drop j):gL t l j=gL t r j:=by
 have h1:=Yb9 t l j 0
 have h2:=Yb9 t r j 0
 rw[Nat.add_zero] at h1 h2
 rw[← h1,← h2,h]
theorem bc1 {α:Type} {l r:List α} {j:Nat} (h:l.drop j=r.drop j) (k:Nat):l.drop (j+k)=r.drop (j+k):=by rw[← List.drop_drop,← List.drop_drop,h]
structure Del (l:List Pln) (f:Pln→Bool) (cur:List Pln) (m j:Nat):Prop where
 len:cur.length=l.length
 t:cur.take m=(l.take j).filter f
 d:cur.drop j=l.drop j
 le:m≤j
 lm:m≤l.length
theorem od9 (l : List Pln) (X : List Pt) (hl : l.length ≤ 1000000000) (hX : X.length ≤ 1000000000) (m j : Nat) (cur : List Pln) (hd : Del l (keep X) cur m j) :
  ∃ t s,lp (A7 ⟨l.length⟩) ⟨(m:Int),(j:Int),bL tP cur,X⟩=(t,s)∧(t=1∧∃ m' cur' k,s=⟨((m':Nat):Int),((k:Nat):Int),bL tP cur',X⟩∧Del l (keep X) cur' m' k∧l.length≤k):=by
 refine ja1 (step:=A7 ⟨l.length⟩) (mk:=fun j (x:Nat×List Pln)=>(⟨(x.1:Int),(j:Int),bL tP x.2,X⟩:p9)) l.length (fun j x=>Del l (keep X) x.2 x.1 j) (fun t s=>t=1∧∃ m' cur' k,s=⟨((m':Nat):Int),((k:Nat):Int),bL tP cur',X⟩∧Del l (keep X) cur' m' k∧l.length≤k) hl (fun j x hj hx=>?_) (fun j x hj hx=>?_) j (m,cur) hd
 ·obtain⟨m,cur⟩:=x
  obtain⟨h1,h2,h3,h4,h5⟩:=hx
  simp only at h1 h2 h3 h4 h5
  have hjc:j < cur.length:=by omega
  have hmc:m < cur.length:=by omega
  have hg:gL tP cur j=gL tP l j:=ic6 tP h3
  have hWm:W ((m:Int)+1)=((m+1:Nat):Int):=by rw[Z3 (by omega) (by omega)];omega
  have hb:Nat.blt m cur.length=true:=by rw[Nat.blt_eq];exact hmc
  have hrow:m8 (bL tP cur) m=tP.row (gL tP cur m):=da8 tP hmc
  have sp:∀ (v:Pln) (x1 x2 x3 x4:Int),U4 (tP.row v) 0 [i x1,i x2,i x3,i x4]=tP.row ⟨⟨x1,x2,x3⟩,x4⟩:=fun _ _ _ _ _=>rfl
  have rl:∀ v:Pln,Nat.ble (0+4) (len (tP.row v))=true:=fun _=>rfl
  simp only[A7,D2,Int.toNat_natCast,l8,l6,rc3 hjc,ac5 hjc,Ec2 _ _ hX,o2 hj (show l.length≤4611686018427387904 by omega),hWm]
  rw[btD (l0 hj),bt (e8 hj)]
  simp only[Nat.zero_add,hrow,L1,hb,sp,Cb0,e8 (show m < l.length by omega),hg]
  have ht:=ad3 tP hj
  have hd1:cur.drop (j+1)=l.drop (j+1):=bc1 h3 1
  cases hk:keep X (gL tP l j) with
  | true =>
   refine .nx ⟨(m+1,cur.set m (gL tP l j)),rfl,⟨by rw[List.length_set];exact h1,?_,?_,by omega,by show m+1≤l.length;omega⟩⟩
   ·show (cur.set m (gL tP l j)).take (m+1)=_
    rw[ht,List.filter_append,List.take_succ_eq_append_getElem (by rw[List.length_set];exact hmc),List.getElem_set_self,List.take_set_of_le (Nat.le_refl _),h2,List.filter_cons,hk,if_pos rfl,List.filter_nil]
   ·show (cur.set m (gL tP l j)).drop (j+1)=_
    rw[List.drop_set_of_lt (by omega),hd1]
  | false =>
   refine .nx ⟨(m,cur),rfl,⟨h1,?_,hd1,by omega,h5⟩⟩
   show cur.take m=_
   rw[ht,List.filter_append,h2,List.filter_cons,hk,if_neg (by simp),List.filter_nil,List.append_nil]
 ·obtain⟨m,cur⟩:=x
  refine⟨1,?_,rfl,m,cur,j,rfl,hx,hj⟩
  simp only[A7,D2]
  rw[bfD (by omega)]
theorem Dd9 (l:List Pln) (n:Nat):I4 (bL tP l) n=bL tP (l.take n):=by unfold bL;rw[I9,o9,o9,List.map_take]
theorem ad4 (l:List Pln) (n:Nat):g9 (bL tP l) n=bL tP (l.drop n):=by unfold bL;rw[J0,o9,o9,List.map_drop]
theorem Ed0 (n:Nat):List.replicate n [i 0,i 0,i 0,i 0]=bL tP (List.replicate n ⟨⟨0,0,0⟩,0⟩):=by unfold bL;rw[o9,List.map_replicate];rfl
theorem Kd4 (l : List Pln) (X : List Pt) (hl : l.length ≤ 1000000000) (hX : X.length ≤ 1000000000) :
  ∃ m r,T7 ⟨l.length,bL tP l,X⟩=⟨1,m,bL tP r,X⟩∧m≤r.length∧r.take m=l.filter (keep X)∧r.length=l.length:=by
 unfold T7 E0
 simp only[l8,l6,je3 l X hl hX]
 cases ha:l.any fun p=>!keep X p with
 | false =>
  refine⟨l.length,l,rfl,Nat.le_refl _,?_,rfl⟩
  rw[List.take_length]
  symm
  rw[List.filter_eq_self]
  intro p hp
  have:=List.any_eq_false.1 ha p hp
  simpa using this
 | true =>
  have hf:l.findIdx (fun p=>!keep X p) < l.length:=by
   rw[List.any_eq_true] at ha
   obtain⟨p,hp,hc⟩:=ha
   exact List.findIdx_lt_length_of_exists ⟨p,hp,hc⟩
  have hk:keep X (gL tP l (l.findIdx fun p=>!keep X p))=false:=by
   have:=List.findIdx_getElem (xs:=l) (p:=fun p=>!keep X p) (w:=hf)
   rw[Pa4 tP hf]
   simpa using this
  have ht:=bc0 (fun p=>!keep X p) l
  simp only[Bool.not_not] at ht
  generalize hF:l.findIdx (fun p=>!keep X p)=F at *
  have hW:W ((F:Int)+1)=((F+1:Nat):Int):=o2 hf (by omega)
  have hne:((F:Int)==-1)=false:=by rw[beq_eq_false_iff_ne];omega
  obtain⟨t,s,e1,rfl,m,cur,k,e2,e3,e4⟩:=od9 l X hl hX F (F+1) l ⟨rfl,by rw[ad3 tP hf,List.filter_append,ht,List.filter_cons,hk,if_neg (by simp),List.filter_nil,List.append_nil],rfl,by omega,by omega⟩
  have hm:m≤l.length:=e3.lm
  have hin:inB (m:Int) (l.length+1)=true:=e8 (by omega)
  have hfin:cur.take m=l.filter (keep X):=by rw[e3.t,List.take_of_length_le e4]
  simp only[if_true,hW,hne,e1,e2,Int.toNat_natCast,hin,Nat.zero_add,Nat.sub_zero]
  refine⟨m,cur.take m++(List.replicate (l.length - m) ⟨⟨0,0,0⟩,0⟩++cur.drop (m+(l.length - m))),?_,?_,?_,?_⟩
  ·rw[Dd9,Ed0,ad4,La3,La3]
   rfl
  ·rw[List.length_append,List.length_append,List.length_take,List.length_replicate,e3.len];omega
  ·rw[List.take_append_of_le_length (by rw[List.length_take,e3.len];omega),List.take_take,Nat.min_self,hfin]
  ·rw[List.length_append,List.length_append,List.length_take,List.length_replicate,List.length_drop,e3.len];omega
def eqP (x y:Pln):Bool:=x.n.x==y.n.x&&(x.n.y==y.n.y&&(x.n.z==y.n.z&&(x.b==y.b&&true)))
theorem ad5 (x y:Pln):eqP x y=true↔x=y:=by
 unfold eqP
 simp only[Bool.and_true,Bool.and_eq_true,beq_iff_eq]
 refine⟨fun⟨h1,h2,h3,h4⟩=>?_,fun h=>by subst h;exact⟨rfl,rfl,rfl,rfl⟩⟩
 obtain⟨⟨x1,x2,x3⟩,x4⟩:=x
 obtain⟨⟨y1,y2,y3⟩,y4⟩:=y
 simp only at h1 h2 h3 h4
 subst h1 h2 h3 h4
 rfl
def ddF:Pln→List Pln→List Pln
 | _,[]=>[]
 | a,x::l=>if eqP x a then ddF x l else x::ddF x l
def dd:List Pln→List Pln
 | []=>[]
 | x::l=>x::ddF x l
structure Cmp (l:List Pln) (n:Nat) (cur:List Pln) (m j:Nat) (R:List Pln):Prop where
 len:cur.length=l.length
 t:cur.take m++ddF (gL tP l (j - 1)) ((l.take n).drop j)=R
 d:cur.drop (j - 1)=l.drop (j - 1)
 le:m+1≤j
theorem ad6 (l : List Pln) (n o : Nat) (hn : n ≤ l.length) (hl : l.length ≤ 1000000000) (ho : o < n) (m : Nat) (cur : List Pln) (R : List Pln) (hd : Cmp l n cur m (o + 1) R) :
  ∃ t s,lp (p8 ⟨n,0+o,n - o⟩) ⟨(m:Int),((1:Nat):Int),bL tP cur⟩=(t,s)∧(t=1∧∃ m' cur' k,s=⟨((m':Nat):Int),k,bL tP cur'⟩∧cur'.length=l.length∧cur'.take m'=R∧m'≤n):=by
 refine ja1 (step:=p8 ⟨n,0+o,n - o⟩) (mk:=fun j (x:Nat×List Pln)=>(⟨(x.1:Int),(j:Int),bL tP x.2⟩:p5)) (n - o) (fun j x=>Cmp l n x.2 x.1 (o+j) R∧1≤j∧x.1≤n) (fun t s=>t=1∧∃ m' cur' k,s=⟨((m':Nat):Int),k,bL tP cur'⟩∧cur'.length=l.length∧cur'.take m'=R∧m'≤n) (by omega) (fun j x hj hx=>?_) (fun j x hj hx=>?_) 1 (m,cur) ⟨hd,Nat.le_refl _,by have:=hd.le;show m≤n;omega⟩
 ·obtain⟨m,cur⟩:=x
  obtain⟨⟨h1,h2,h3,h4⟩,hj1,hmn⟩:=hx
  simp only at h1 h2 h3 h4 hmn
  have hoj:o+j < n:=by omega
  have hjc:o+j < cur.length:=by omega
  have hjc':o+(j - 1) < cur.length:=by omega
  have hmc:m < cur.length:=by omega
  have hg':gL tP cur (o+(j - 1))=gL tP l (o+j - 1):=by rw[show o+(j - 1)=o+j - 1 by omega];exact ic6 tP h3
  have hd1:cur.drop (o+j)=l.drop (o+j):=by have:=bc1 h3 1;rw[show o+j - 1+1=o+j by omega] at this;exact this
  have hg:gL tP cur (o+j)=gL tP l (o+j):=ic6 tP hd1
  have hWm:W ((m:Int)+1)=((m+1:Nat):Int):=by rw[Z3 (by omega) (by omega)];omega
  have hWj:W ((j:Int) - 1)=((j - 1:Nat):Int):=by rw[Z3 (by omega) (by omega)];omega
  have hb:Nat.blt m cur.length=true:=by rw[Nat.blt_eq];exact hmc
  have hrow:m8 (bL tP cur) m=tP.row (gL tP cur m):=da8 tP hmc
  have sp:∀ (v:Pln) (x1 x2 x3 x4:Int),U4 (tP.row v) 0 [i x1,i x2,i x3,i x4]=tP.row ⟨⟨x1,x2,x3⟩,x4⟩:=fun _ _ _ _ _=>rfl
  have rl:∀ v:Pln,Nat.ble 4 (len (tP.row v))=true:=fun _=>rfl
  simp only[p8,J2,Int.toNat_natCast,Nat.zero_add,hWj,td8 tP hjc,td8 tP hjc',td7 tP hjc,td7 tP hjc',o2 hj (show n - o≤4611686018427387904 by omega),hWm,hg,hg',hrow,L1,hb,sp,rl,Cb0,e8 (show m < n by omega)]
  rw[btD (l0 hj)]
  simp only[e8 hj,e8 (show j - 1 < n - o by omega),n5,Bool.and_self]
  rw[show ((gL tP l (o+j)).n.x==(gL tP l (o+j - 1)).n.x&&((gL tP l (o+j)).n.y==(gL tP l (o+j - 1)).n.y&&((gL tP l (o+j)).n.z==(gL tP l (o+j - 1)).n.z&&((gL tP l (o+j)).b==(gL tP l (o+j - 1)).b&&true))))=eqP (gL tP l (o+j)) (gL tP l (o+j - 1)) from rfl]
  have hcons:(l.take n).drop (o+j)=gL tP l (o+j)::(l.take n).drop (o+(j+1)):=by
   rw[List.drop_eq_getElem_cons (by rw[List.length_take];omega),List.getElem_take,Pa4 tP (by omega)]
   rfl
  rw[hcons] at h2
  have hlast:o+(j+1) - 1=o+j:=by omega
  unfold ddF at h2
  cases he:eqP (gL tP l (o+j)) (gL tP l (o+j - 1)) with
  | true =>
   rw[he] at h2
   simp only[if_true] at h2
   refine .nx ⟨(m,cur),rfl,⟨⟨h1,?_,?_,by show m+1≤o+(j+1);omega⟩,by omega,hmn⟩⟩
   ·rw[hlast];exact h2
   ·rw[hlast];exact hd1
  | false =>
   rw[he] at h2
   simp only[Bool.false_eq_true,if_false] at h2
   refine .nx ⟨(m+1,cur.set m (gL tP l (o+j))),rfl,⟨⟨by rw[List.length_set];exact h1,?_,?_,by show m+1+1≤o+(j+1);omega⟩,by omega,by show m+1≤n;omega⟩⟩
   ·rw[hlast]
    show (cur.set m (gL tP l (o+j))).take (m+1)++_=R
    rw[List.take_succ_eq_append_getElem (by rw[List.length_set];exact hmc),List.getElem_set_self,List.take_set_of_le (Nat.le_refl _),List.append_assoc]
    exact h2
   ·rw[hlast]
    show (cur.set m (gL tP l (o+j))).drop (o+j)=_
    rw[List.drop_set_of_lt (by omega),hd1]
 ·obtain⟨m,cur⟩:=x
  obtain⟨⟨h1,h2,h3,h4⟩,hj1,hmn⟩:=hx
  simp only at h1 h2 h3 h4 hmn
  refine⟨1,?_,rfl,m,cur,_,rfl,h1,?_,hmn⟩
  ·simp only[p8,J2]
   rw[bfD (by omega)]
  ·rw[List.drop_eq_nil_of_le (by rw[List.length_take];omega)] at h2
   unfold ddF at h2
   rw[List.append_nil] at h2
   exact h2
theorem xd7 (l : List Pln) (n : Nat) (hn : n ≤ l.length) (hl : l.length ≤ 1000000000) :
  ∃ m r,ca8 ⟨n,bL tP l⟩=⟨1,m,bL tP r⟩∧m≤r.length∧r.take m=dd (l.take n):=by
 unfold ca8 K0
 simp only
 by_cases h2:(n:Int) < 2
 ·rw[btD h2]
  refine⟨n,l,rfl,hn,?_⟩
  have:n=0∨n=1:=by omega
  rcases this with rfl | rfl
  ·rfl
  ·cases l with
   | nil=>rfl
   | cons x l=>rfl
 ·rw[bfD h2]
  have h1n:1≤n:=by omega
  have hI : ∀ j, j < n → 1 ≤ j → l.take j ++ ddF (gL tP l (j - 1)) ((l.take n).drop j) = dd (l.take n) →
    (eqP (gL tP l j) (gL tP l (j - 1))=true→Cmp l n l j (j+1) (dd (l.take n)))∧(eqP (gL tP l j) (gL tP l (j - 1))=false→l.take (j+1)++ddF (gL tP l (j+1 - 1)) ((l.take n).drop (j+1))=dd (l.take n)):=by
   intro j hj hj1 hR
   have hcons:(l.take n).drop j=gL tP l j::(l.take n).drop (j+1):=by
    rw[List.drop_eq_getElem_cons (by rw[List.length_take];omega),List.getElem_take,Pa4 tP (by omega)]
   rw[hcons] at hR
   unfold ddF at hR
   constructor
   ·intro he
    rw[he] at hR
    simp only[if_true] at hR
    exact⟨rfl,hR,rfl,Nat.le_refl _⟩
   ·intro he
    rw[he] at hR
    simp only[Bool.false_eq_true,if_false] at hR
    rw[ad3 tP (show j < l.length by omega),List.append_assoc]
    exact hR
  have inner:∀ k,k < n→1≤k→Cmp l n l k (k+1) (dd (l.take n))→∃ m' cur' k',lp (p8 ⟨n,0+k,n - k⟩) ⟨(k:Int),1,bL tP l⟩=(1,⟨((m':Nat):Int),k',bL tP cur'⟩)∧cur'.length=l.length∧cur'.take m'=dd (l.take n)∧m'≤n:=by
   intro k hk hk1 hc
   obtain⟨t,s,e1,rfl,m',cur',k',rfl,e2,e3,e4⟩:=ad6 l n k hn hl hk k l _ hc
   exact⟨m',cur',k',e1,e2,e3,e4⟩
  have key:=ja1 (step:=K3 ⟨n,bL tP l⟩) (mk:=fun j (_:Unit)=>(⟨(j:Int)⟩:q8)) n (fun j _=>1≤j∧j≤n∧l.take j++ddF (gL tP l (j - 1)) ((l.take n).drop j)=dd (l.take n))
   (fun t s=>(t=1∧∃ k:Nat,s=⟨(k:Int)⟩∧k < n∧1≤k∧Cmp l n l k (k+1) (dd (l.take n)))∨(t=2∧l.take n=dd (l.take n))) (by omega) (fun j x hj hx=>?_) (fun j x hj hx=>?_) 1 () ⟨Nat.le_refl _,h1n,by
    cases l with
    | nil=>simp only[List.length_nil] at hn;omega
    | cons x l =>
     cases n with
     | zero=>omega
     | succ n=>rfl⟩
  ·obtain⟨t,s,e1,e2⟩:=key
   rw[show (⟨1⟩:q8)=⟨((1:Nat):Int)⟩ from rfl,e1]
   rcases e2 with⟨rfl,k,rfl,hk,hk1,hc⟩ | ⟨rfl,he⟩
   ·obtain⟨m',cur',k',e2,e3,e4,e5⟩:=inner k hk hk1 hc
    simp only[Int.toNat_natCast,e2]
    simp only[Nat.zero_add,Nat.sub_zero]
    refine⟨m',cur'.take m'++(List.replicate (n - m') ⟨⟨0,0,0⟩,0⟩++cur'.drop (m'+(n - m'))),?_,?_,?_⟩
    ·rw[Dd9,Ed0,ad4,La3,La3]
     rfl
    ·rw[List.length_append,List.length_take,e3];omega
    ·rw[List.take_append_of_le_length (by rw[List.length_take,e3];omega),List.take_take,Nat.min_self,e4]
   ·exact⟨n,l,rfl,hn,he⟩
  ·obtain⟨hj1,hjn,hR⟩:=hx
   obtain⟨i1,i2⟩:=hI j hj hj1 hR
   have hWj:W ((j:Int) - 1)=((j - 1:Nat):Int):=by rw[Z3 (by omega) (by omega)];omega
   have hjl:j < l.length:=by omega
   have hjl':j - 1 < l.length:=by omega
   simp only[K3,J3,Int.toNat_natCast,hWj,rc3 hjl,rc3 hjl',ac5 hjl,ac5 hjl',o2 hj (show n≤4611686018427387904 by omega)]
   rw[btD (l0 hj),bt (e8 hj),bt (e8 (show j - 1 < n by omega)),bt (e8 (show j < n+1 by omega))]
   simp only[n5]
   rw[show ((gL tP l j).n.x==(gL tP l (j - 1)).n.x&&((gL tP l j).n.y==(gL tP l (j - 1)).n.y&&((gL tP l j).n.z==(gL tP l (j - 1)).n.z&&((gL tP l j).b==(gL tP l (j - 1)).b&&true))))=eqP (gL tP l j) (gL tP l (j - 1)) from rfl]
   cases he:eqP (gL tP l j) (gL tP l (j - 1)) with
   | false=>exact .nx ⟨(),rfl,by omega,by omega,i2 he⟩
   | true =>
    obtain⟨m',cur',k',e2,e3,e4,e5⟩:=inner j hj hj1 (i1 he)
    rw[e2]
    simp only[e8 (show m' < n+1 by omega)]
    exact .ex (.inl ⟨rfl,j,rfl,hj,hj1,i1 he⟩)
  ·obtain⟨hj1,hjn,hR⟩:=hx
   refine⟨2,?_,.inr ⟨rfl,?_⟩⟩
   ·simp only[K3,J3]
    rw[bfD (by omega)]
   ·have:j=n:=by omega
    subst this
    rw[List.drop_eq_nil_of_le (by rw[List.length_take];omega)] at hR
    unfold ddF at hR
    rw[List.append_nil] at hR
    exact hR
theorem Wd5 (l:List Pln) (n:Nat) (hn:n≤l.length):slR tP (bL tP l) 0 n=l.take n:=vc6 tP (by rw[List.length_take];omega) fun k hk=>by
 rw[Nat.zero_add,da8 tP (by omega)]
 congr 1
 simp[gL,List.getD_eq_getElem?_getD,List.getElem?_take,hk]
theorem Wd6 (l:List Pln) (n:Nat) (hn:n≤l.length):okS tP (bL tP l) 0 n=true:=sb2 tP (f:=fun k=>gL tP l k) fun k hk=>by rw[Nat.zero_add,da8 tP (by omega)]
noncomputable def lean (c:List Pln):List Pln:=if ful c then dd (xb5 (c.filter (keep (pts c)))) else []
theorem Ed1 (p:Pln) (c:List Pln) (hc:c.length≤1000000):Rd (one (r1L tP)) (Sa5 (p,c)) (fun r=>r=lean (p::c)):=by
 have hl:(p::c).length≤1000000000:=by simp only[List.length_cons];omega
 have hX:=rc2 (p::c)
 unfold Sa5 lean
 simp only[l8,L0,l6,ze5,ze6,ub5 hl,ub6 hl,pb7 hl,pb8 hl]
 cases hf:ful (p::c) with
 | false=>exact⟨_,[],rfl,rfl,rfl⟩
 | true =>
  have ec:n7 (fun k=>tP.row (gL tP (p::c) k)) (List.range (c.length+1))=bL tP (p::c):=Pa3 tP (p::c)
  have hcl:ja4 (p,c)=⟨1,(p::c).length,bL tP (p::c)⟩:=by
   unfold ja4 N8
   simp only[ec,L1]
   have z:Nat.beq (p::c).length 0=false:=rfl
   have r:Nat.ble ((0+(p::c).length)*32) room=true:=Y7 (by simp only[List.length_cons];omega)
   rw[z,r,Nat.zero_add]
   rfl
  obtain⟨m,r,e1,e2,e3,e4⟩:=Kd4 (p::c) (pts (p::c)) hl (by omega)
  have hm:m≤(p::c).length:=by
   have h1:=congrArg List.length e3
   have h2:=List.length_filter_le (keep (pts (p::c))) (p::c)
   rw[List.length_take] at h1
   omega
  have hs:(xb5 (r.take m)).length=m:=by rw[Qc9,List.length_take];omega
  have hrows:app (bL tP (xb5 (r.take m))) (g9 (bL tP r) m)=bL tP (xb5 (r.take m)++r.drop m):=by rw[ad4,La3]
  have hok:okL tP (c.length+1) (fun k=>tP.row (gL tP (p::c) k))=true:=sb2 tP (f:=fun k=>gL tP (p::c) k) fun _ _=>rfl
  simp only[hcl,e1,Wd5 r m e2,Wd6 r m e2,hrows,hok]
  obtain⟨m2,r2,k1,k2,k3⟩:=xd7 (xb5 (r.take m)++r.drop m) m (by rw[List.length_append,hs];omega) (by rw[List.length_append,hs,List.length_drop,e4];omega)
  rw[k1,L1]
  have q1:Nat.ble m room=true:=by rw[Nat.ble_eq];unfold room;simp only[List.length_cons] at hm;omega
  have q2:Nat.ble m r.length=true:=by rw[Nat.ble_eq];exact e2
  rw[q1,q2]
  have hfin:r2.take m2=dd (xb5 ((p::c).filter (keep (pts (p::c))))):=by
   rw[k3,List.take_append_of_le_length (by rw[hs];omega),List.take_of_length_le (by rw[hs];omega),e3]
  exact ve1 k2 rfl hfin
theorem ve2 (p:Pln) (c:List Pln) (hc:c.length≤1000000):Gb2 (p,c)=lean (p::c):=(Ed1 p c hc).p
theorem ve3 (p:Pln) (c:List Pln) (hc:c.length≤1000000):Gb3 (p,c)=true:=(Ed1 p c hc).g
end Go.Ev.Ce
namespace Go.Ev.Ce
open Go Go.Ev Go.Ev.L Go.Proofs Go.Sort
theorem xd8 (l:List Pln):List.Perm (xb5 l) l:=List.mergeSort_perm l _
theorem Kd5 (x y z:Pln) (h1:(!ltOf ha3 y x)=true) (h2:(!ltOf ha3 z y)=true):(!ltOf ha3 z x)=true:=by
 simp only[Bool.not_eq_true',Za7,decide_eq_false_iff_not] at *
 unfold LtP at *
 omega
theorem Kd6 (x y:Pln):((!ltOf ha3 y x)||!ltOf ha3 x y)=true:=by
 simp only[Bool.or_eq_true,Bool.not_eq_true',Za7,decide_eq_false_iff_not]
 unfold LtP
 omega
theorem ad7 (l:List Pln):(xb5 l).Pairwise fun x y=>(!ltOf ha3 y x)=true:=List.pairwise_mergeSort Kd5 Kd6 l
theorem ad8 {l r:List Pln} (hp:List.Perm r l) (hs:r.Pairwise fun x y=>(!ltOf ha3 y x)=true):xb5 l=r :=
 List.Perm.eq_of_pairwise (fun x y _ _ h1 h2=>Ge3 x y (by simpa using h2) (by simpa using h1)) (ad7 l) hs ((xd8 l).trans hp.symm)
instance:DecidableEq Pln:=fun x y=>decidable_of_iff _ (ad5 x y)
def U6:List Pln:=[⟨⟨1,0,0⟩,1⟩,⟨⟨-1,0,0⟩,0⟩,⟨⟨0,1,0⟩,1⟩,⟨⟨0,-1,0⟩,0⟩,⟨⟨0,0,1⟩,1⟩,⟨⟨0,0,-1⟩,0⟩]
def U8:List Pln:=[⟨⟨-1,0,0⟩,0⟩,⟨⟨0,1,0⟩,1⟩,⟨⟨0,-1,0⟩,0⟩,⟨⟨0,0,1⟩,1⟩,⟨⟨0,0,-1⟩,0⟩,⟨⟨1,0,0⟩,1⟩,⟨⟨1,1,1⟩,3⟩,⟨⟨1,0,0⟩,7⟩]
def C4:List Pln:=[⟨⟨-1,0,0⟩,0⟩,⟨⟨0,-1,0⟩,0⟩,⟨⟨0,0,-1⟩,0⟩,⟨⟨2,3,4⟩,1⟩]
def U7:List Pln:=[⟨⟨1,0,0⟩,1⟩,⟨⟨-1,0,0⟩,0⟩,⟨⟨0,1,0⟩,1⟩,⟨⟨0,-1,0⟩,0⟩,⟨⟨0,0,1⟩,1⟩,⟨⟨0,0,-1⟩,0⟩,⟨⟨-1,0,0⟩,-1⟩]
def LU:List Pln:=[⟨⟨-1,0,0⟩,0⟩,⟨⟨0,-1,0⟩,0⟩,⟨⟨0,0,-1⟩,0⟩,⟨⟨0,0,1⟩,1⟩,⟨⟨0,1,0⟩,1⟩,⟨⟨1,0,0⟩,1⟩]
def PU:List Pt:=[⟨1,1,1,1⟩,⟨1,1,0,1⟩,⟨1,0,1,1⟩,⟨1,0,0,1⟩,⟨0,1,1,1⟩,⟨0,1,0,1⟩,⟨0,0,1,1⟩,⟨0,0,0,1⟩]
def PC:List Pt:=[⟨0,0,0,1⟩,⟨0,0,1,4⟩,⟨0,1,0,3⟩,⟨1,0,0,2⟩]
theorem ve4:pts U6=PU:=by kernel_rfl
theorem ve5:pts C4=PC:=by kernel_rfl
theorem ve6:ful []=true:=by kernel_rfl
theorem ve7:ful U7=false:=by kernel_rfl
theorem ve8:has U6 ⟨1,0,0⟩=true:=by kernel_rfl
theorem ve9:has U6 ⟨2,0,0⟩=false:=by kernel_rfl
theorem Ge7:bnd C4=(⟨0,0,0⟩,⟨1,1,1⟩,true):=by kernel_rfl
theorem Ge8:apart U6 [⟨⟨-1,0,0⟩,-1⟩]=true:=by kernel_rfl
theorem Ge9:apart U6 [⟨⟨-1,-1,0⟩,-1⟩]=false:=by kernel_rfl
theorem He0:Ec0 U6 [⟨⟨1,1,1⟩,3⟩]=true:=by kernel_rfl
theorem He1:Ec0 U6 [⟨⟨1,1,1⟩,2⟩]=false:=by kernel_rfl
theorem He2:chk [⟨⟨0,0,0⟩,0⟩]=12:=by kernel_rfl
theorem He3:(⟨⟨1,0,0⟩,1⟩::U8).filter (keep (pts (⟨⟨1,0,0⟩,1⟩::U8)))=[⟨⟨1,0,0⟩,1⟩,⟨⟨-1,0,0⟩,0⟩,⟨⟨0,1,0⟩,1⟩,⟨⟨0,-1,0⟩,0⟩,⟨⟨0,0,1⟩,1⟩,⟨⟨0,0,-1⟩,0⟩,⟨⟨1,0,0⟩,1⟩]:=by kernel_rfl
theorem we0:ful (⟨⟨1,0,0⟩,1⟩::U8)=true:=by kernel_rfl
theorem we1:lean (⟨⟨1,0,0⟩,1⟩::U8)=LU:=by
 unfold lean
 rw[we0,if_pos rfl,He3,ad8 (r:=[⟨⟨-1,0,0⟩,0⟩,⟨⟨0,-1,0⟩,0⟩,⟨⟨0,0,-1⟩,0⟩,⟨⟨0,0,1⟩,1⟩,⟨⟨0,1,0⟩,1⟩,⟨⟨1,0,0⟩,1⟩,⟨⟨1,0,0⟩,1⟩])]
 ·rfl
 ·exact List.isPerm_iff.1 (by kernel_rfl)
 ·exact of_decide_eq_true (by kernel_rfl)
theorem je4:wb0=⟨1,0,1,0,1,0⟩:=by kernel_rfl
theorem Rc1:wa7=some (b true,[]):=by
 have le:∀ {c:List Pln},c.length≤100→c.length≤1000000000:=fun h=>by omega
 have le':∀ {c:List Pln},c.length≤100→c.length≤100000000:=fun h=>by omega
 have u:U6.length≤100:=by decide
 have u7:U7.length≤100:=by decide
 have u8:U8.length≤1000000:=by decide
 have c4:C4.length≤100:=by decide
 have n0:([]:List Pln).length≤100:=by decide
 have o1:∀ p:Pln,[p].length≤100:=fun _=>(by decide:1≤100)
 unfold wa7
 rw[je4]
 simp only[l8,L0]
 rw[show ([⟨⟨1,0,0⟩,1⟩,⟨⟨-1,0,0⟩,0⟩,⟨⟨0,1,0⟩,1⟩,⟨⟨0,-1,0⟩,0⟩,⟨⟨0,0,1⟩,1⟩,⟨⟨0,0,-1⟩,0⟩,⟨⟨-1,0,0⟩,-1⟩]:List Pln)=U7 from rfl,
  show ([⟨⟨-1,0,0⟩,0⟩,⟨⟨0,1,0⟩,1⟩,⟨⟨0,-1,0⟩,0⟩,⟨⟨0,0,1⟩,1⟩,⟨⟨0,0,-1⟩,0⟩,⟨⟨1,0,0⟩,1⟩,⟨⟨1,1,1⟩,3⟩,⟨⟨1,0,0⟩,7⟩]:List Pln)=U8 from rfl,
  show ([⟨⟨1,0,0⟩,1⟩,⟨⟨-1,0,0⟩,0⟩,⟨⟨0,1,0⟩,1⟩,⟨⟨0,-1,0⟩,0⟩,⟨⟨0,0,1⟩,1⟩,⟨⟨0,0,-1⟩,0⟩]:List Pln)=U6 from rfl,
  show ([⟨⟨-1,0,0⟩,0⟩,⟨⟨0,-1,0⟩,0⟩,⟨⟨0,0,-1⟩,0⟩,⟨⟨2,3,4⟩,1⟩]:List Pln)=C4 from rfl,
  show ([⟨⟨-1,0,0⟩,0⟩,⟨⟨0,-1,0⟩,0⟩,⟨⟨0,0,-1⟩,0⟩,⟨⟨0,0,1⟩,1⟩,⟨⟨0,1,0⟩,1⟩,⟨⟨1,0,0⟩,1⟩]:List Pln)=LU from rfl]
 simp only[pb7 (le u),pb8 (le u),pb7 (le c4),pb8 (le c4),ve4,ve5,ve2 _ U8 u8,ve3 _ U8 u8,we1,ub5 (le n0),ub6 (le n0),ve6,ub5 (le u7),ub6 (le u7),ve7,
  Ge0 (le u),Ge1 (le u),ve8,ve9,he9 (le c4),ie0 (le c4),Ge7,wb1 (le' u) (le' (o1 _)),wb2 (le' u) (le' (o1 _)),Ge8,Ge9,Ja8 (le u) (le (o1 _)),Ja9 (le u) (le (o1 _)),He0,He1,
  Cd0 _ (le (o1 _)),Cd1 _ (le (o1 _)),He2]
 rw[show ([⟨1,1,1,1⟩,⟨1,1,0,1⟩,⟨1,0,1,1⟩,⟨1,0,0,1⟩,⟨0,1,1,1⟩,⟨0,1,0,1⟩,⟨0,0,1,1⟩,⟨0,0,0,1⟩]:List Pt)=PU from rfl,
  show ([⟨0,0,0,1⟩,⟨0,0,1,4⟩,⟨0,1,0,3⟩,⟨1,0,0,2⟩]:List Pt)=PC from rfl]
 simp only[Zb9 PU (by decide),ac0 PU (by decide),Zb9 PC (by decide),ac0 PC (by decide),ue6 LU (by decide),ue7 LU (by decide)]
 rfl
theorem Wd7:Ka0=true:=by unfold Ka0;rw[Rc1];rfl
theorem Wd8:Ka1=true:=by unfold Ka1;rw[Rc1];rfl
end Go.Ev.Ce
section
namespace Go.Ev.Ce
open Go Go.Ev Go.Ev.L Go.Proofs
set_option maxRecDepth 100000
structure pe0 where
 c9:List Pln
 f9:Int
 c8:Int
 g7:Int
 d9:Int
structure pe1 where
 is5:Int
structure Wd9 where
 mc2:List Pln
 Ie0:List Pt
structure Xd0 where
 is6:Int
end Go.Ev.Ce
end
section
namespace Go.Ev.Ce
open Go Go.Ev Go.Ev.L Go.Proofs
set_option maxRecDepth 100000
structure Lb7 where
structure Gb5 where
structure Gb6 where
structure Lb8 where
 alt:Nat
structure ic7 where
structure bc2 where
structure bc3 where
structure ic8 where
 alt:Nat
structure Lc1 where
structure Lc2 where
 alt:Nat
structure Fc3 where
 j7:List Pt
structure rc5 where
 j7:List Pt
structure rc6 where
structure Fc4 where
 alt:Nat
 j7:List Pt
structure Ec3 where
 j7:List Pt
structure Ec4 where
 alt:Nat
 j7:List Pt
structure Rc2 where
structure Rc3 where
structure bd7 where
structure bd8 where
end Go.Ev.Ce
end
section
namespace Go.Ev.Ce
open Go Go.Ev Go.Ev.L Go.Proofs
set_option maxRecDepth 100000
structure Xd1 where
 is1:Int
structure Xd2 where
 ph:Nat
 is7:Int
 g8:List Int
 c8:Int
 ns6:Nat
 eh1:List (List b7)
structure je5 where
 c9:List Pln
 Wa3:List Pt
 is5:Int
 Ie1:List Pln
structure je6 where
 ph:Nat
 is6:Int
 is7:Int
structure je7 where
structure je8 where
 ph:Nat
 c9:List Pln
 Wa3:List Pt
 is5:Int
 Ie1:List Pln
end Go.Ev.Ce
end
namespace Go.Ev.Ce
open Go Go.Ev Go.Ev.L Go.Proofs
theorem je9 (p q:Pln):ka2 p q=some (i (ha3 p q),[]):=by
 have key:∃ t s,lp (G5 ⟨p.n.x,p.n.y,p.n.z,p.b,q.n.x,q.n.y,q.n.z,q.b⟩) ⟨0⟩=(t,s)∧((t=1∧ha3 p q=-1)∨(t=2∧ha3 p q=1)∨(t=3∧ha3 p q=0)):=by
  refine ja1 (step:=G5 ⟨p.n.x,p.n.y,p.n.z,p.b,q.n.x,q.n.y,q.n.z,q.b⟩) (mk:=fun j (_:Unit)=>(⟨(j:Int)⟩:M6)) 4
   (fun j _=>(1≤j→p.n.x=q.n.x)∧(2≤j→p.n.y=q.n.y)∧(3≤j→p.n.z=q.n.z)∧(4≤j→p.b=q.b))
   (fun t s=>(t=1∧ha3 p q=-1)∨(t=2∧ha3 p q=1)∨(t=3∧ha3 p q=0)) (by omega) (fun j x hj hI=>?_) (fun j x hj hI=>?_) 0 () ⟨by omega,by omega,by omega,by omega⟩
  ·have hn:=o2 hj (show 4≤4611686018427387904 by omega)
   simp only[G5,Q9,Int.toNat_natCast,hn]
   have hlt:(j:Int) < 4:=by omega
   have hin:=e8 hj
   have g:∀ x1 x2 x3 x4:Int,((Nat.ble ((0+(j*1))+1) 4)&&(R5 [(CK.int .i64)] (g9 [(i x1),(i x2),(i x3),(i x4)] (0+(j*1)))))=true:=by
    intro x1 x2 x3 x4
    match j,hj with
    | 0,_=>rfl
    | 1,_=>rfl
    | 2,_=>rfl
    | 3,_=>rfl
   rw[btD hlt]
   simp only[hin,g,n5]
   obtain⟨i1,i2,i3,i4⟩:=hI
   match j,hj with
   | 0,_ =>
    show Nx (sl (decide (p.n.x < q.n.x)) _ (sl (decide (p.n.x > q.n.x)) _ _)) _ _
    refine Nx.sl (fun h=>.ex ?_) fun h=>Nx.sl (fun h'=>.ex ?_) fun h'=>.nx ⟨(),rfl,?_⟩<;>simp only[decide_eq_true_eq,decide_eq_false_iff_not] at h
    ·left;exact⟨rfl,by simp[ha3,eb6,h]⟩
    ·right;left;simp only[decide_eq_true_eq] at h';exact⟨rfl,by simp[ha3,eb6,h,h']⟩
    ·simp only[decide_eq_false_iff_not] at h';exact⟨by omega,by omega,by omega,by omega⟩
   | 1,_ =>
    have j1:=i1 (by omega)
    show Nx (sl (decide (p.n.y < q.n.y)) _ (sl (decide (p.n.y > q.n.y)) _ _)) _ _
    refine Nx.sl (fun h=>.ex ?_) fun h=>Nx.sl (fun h'=>.ex ?_) fun h'=>.nx ⟨(),rfl,?_⟩<;>simp only[decide_eq_true_eq,decide_eq_false_iff_not] at h
    ·left;exact⟨rfl,by simp[ha3,eb6,h,j1]⟩
    ·right;left;simp only[decide_eq_true_eq] at h';exact⟨rfl,by simp[ha3,eb6,h,h',j1]⟩
    ·simp only[decide_eq_false_iff_not] at h';exact⟨fun _=>j1,by omega,by omega,by omega⟩
   | 2,_ =>
    have j1:=i1 (by omega);have j2:=i2 (by omega)
    show Nx (sl (decide (p.n.z < q.n.z)) _ (sl (decide (p.n.z > q.n.z)) _ _)) _ _
    refine Nx.sl (fun h=>.ex ?_) fun h=>Nx.sl (fun h'=>.ex ?_) fun h'=>.nx ⟨(),rfl,?_⟩<;>simp only[decide_eq_true_eq,decide_eq_false_iff_not] at h
    ·left;exact⟨rfl,by simp[ha3,eb6,h,j1,j2]⟩
    ·right;left;simp only[decide_eq_true_eq] at h';exact⟨rfl,by simp[ha3,eb6,h,h',j1,j2]⟩
    ·simp only[decide_eq_false_iff_not] at h';exact⟨fun _=>j1,fun _=>j2,by omega,by omega⟩
   | 3,_ =>
    have j1:=i1 (by omega);have j2:=i2 (by omega);have j3:=i3 (by omega)
    show Nx (sl (decide (p.b < q.b)) _ (sl (decide (p.b > q.b)) _ _)) _ _
    refine Nx.sl (fun h=>.ex ?_) fun h=>Nx.sl (fun h'=>.ex ?_) fun h'=>.nx ⟨(),rfl,?_⟩<;>simp only[decide_eq_true_eq,decide_eq_false_iff_not] at h
    ·left;exact⟨rfl,by simp[ha3,eb6,h,j1,j2,j3]⟩
    ·right;left;simp only[decide_eq_true_eq] at h';exact⟨rfl,by simp[ha3,eb6,h,h',j1,j2,j3]⟩
    ·simp only[decide_eq_false_iff_not] at h';exact⟨fun _=>j1,fun _=>j2,fun _=>j3,by omega⟩
  ·simp only[G5,Q9]
   rw[bfD (by omega)]
   obtain⟨i1,i2,i3,i4⟩:=hI
   have j1:=i1 (by omega);have j2:=i2 (by omega);have j3:=i3 (by omega);have j4:=i4 (by omega)
   exact⟨_,rfl,.inr (.inr ⟨rfl,by simp[ha3,eb6,j1,j2,j3,j4]⟩)⟩
 obtain⟨t,s,h1,h2⟩:=key
 unfold ka2
 simp only
 rw[h1]
 rcases h2 with⟨rfl,e⟩ | ⟨rfl,e⟩ | ⟨rfl,e⟩<;>rw[e]<;>rfl
theorem we2 (p q:Pln):ka3 p q=ha3 p q:=by unfold ka3;rw[je9];rfl
def atP (x:List Pln) (y:Pln):Nat:=x.findIdx fun p=>!decide (ha3 p y < 0)
noncomputable def ins (x:List Pln) (y:Pln):List Pln:=if (atP x y < x.length∧eqP (gL tP x (atP x y)) y=true) then x else yb1 x y (atP x y)
def eb7 (l:List Pln):Prop:=l.Pairwise LtP
theorem Kd7 {x y z:Pln} (h1:LtP x y) (h2:LtP y z):LtP x z:=by unfold LtP at *;omega
theorem ke0 (x:Pln):¬ LtP x x:=by unfold LtP;omega
theorem ke1 (x y:Pln):LtP x y∨x=y∨LtP y x:=by
 by_cases h1:LtP x y
 ·exact .inl h1
 ·by_cases h2:LtP y x
  ·exact .inr (.inr h2)
  ·refine .inr (.inl ?_)
   unfold LtP at h1 h2
   have e1:x.n.x=y.n.x:=by omega
   have e2:x.n.y=y.n.y:=by omega
   have e3:x.n.z=y.n.z:=by omega
   have e4:x.b=y.b:=by omega
   cases x with | mk n b=>cases y with | mk m c=>cases n;cases m;simp_all
def hb8:List Pln→Pln→List Pln
 | [],y=>[y]
 | a::l,y=>if ha3 a y < 0 then a::hb8 l y else if eqP a y then a::l else y::a::l
theorem Xd3 (y:Pln):∀ x,ins x y=hb8 x y
 | []=>rfl
 | a::l=>by
  have ih:=Xd3 y l
  unfold hb8
  by_cases h:ha3 a y < 0
  ·rw[if_pos h,← ih]
   have e:atP (a::l) y=atP l y+1:=by unfold atP;rw[List.findIdx_cons];simp[h]
   unfold ins
   rw[e]
   have e2:gL tP (a::l) (atP l y+1)=gL tP l (atP l y):=rfl
   rw[e2]
   simp only[List.length_cons,Nat.add_lt_add_iff_right]
   split
   ·rfl
   ·rfl
  ·rw[if_neg h]
   have e:atP (a::l) y=0:=by unfold atP;rw[List.findIdx_cons];simp[h]
   unfold ins
   rw[e]
   have e2:gL tP (a::l) 0=a:=rfl
   rw[e2]
   simp only[List.length_cons,Nat.zero_lt_succ,true_and]
   split
   ·rfl
   ·rfl
theorem qb2 (y p:Pln):∀ x,p∈hb8 x y↔p=y∨p∈x
 | []=>by simp[hb8]
 | a::l=>by
  unfold hb8
  have ih:=qb2 y p l
  split
  ·simp only[List.mem_cons,ih]
   constructor
   ·rintro (h | h | h)
    ·exact .inr (.inl h)
    ·exact .inl h
    ·exact .inr (.inr h)
   ·rintro (h | h | h)
    ·exact .inr (.inl h)
    ·exact .inl h
    ·exact .inr (.inr h)
  ·split
   ·rename_i h
    rw[ad5] at h
    subst h
    simp only[List.mem_cons]
    constructor
    ·exact fun h=>.inr h
    ·rintro (h | h)
     ·exact .inl h
     ·exact h
   ·simp only[List.mem_cons]
theorem bc4 (y:Pln):∀ {x},eb7 x→eb7 (hb8 x y)
 | [],_=>List.pairwise_singleton _ _
 | a::l,h=>by
  obtain⟨h1,h2⟩:=List.pairwise_cons.1 h
  unfold hb8
  split
  ·rename_i hc
   rw[Zc9] at hc
   refine List.pairwise_cons.2 ⟨fun p hp=>?_,bc4 y h2⟩
   rcases (qb2 y p l).1 hp with e | hp
   ·subst e;exact hc
   ·exact h1 p hp
  ·rename_i hc
   rw[Zc9] at hc
   split
   ·exact h
   ·rename_i hne
    have hlt:LtP y a:=by
     rcases ke1 y a with h | h | h
     ·exact h
     ·exact absurd ((ad5 _ _).2 h.symm) hne
     ·exact absurd h hc
    refine List.pairwise_cons.2 ⟨fun p hp=>?_,h⟩
    rcases List.mem_cons.1 hp with e | hp
    ·subst e;exact hlt
    ·exact Kd7 hlt (h1 p hp)
end Go.Ev.Ce
namespace Go.Ev.Ce
open Go Go.Ev Go.Ev.L Go.Proofs
theorem Ed2 {σ:Type} {step:σ→Stp σ} {s:σ} {t:Nat} (h:step s=.exit t):lp step s=(t,s):=by rw[Od2];exact vc3 h
end Go.Ev.Ce
namespace Go.Ev.Ce
def rmZ (p:Pln) (x:Pt):Int:=p.b*x.pw - (p.n.x*x.px+p.n.y*x.py+p.n.z*x.pz)
structure Inr (r:List Pln) (x:Pt):Prop where
 w:0 < x.pw
 h:∀ p∈r,0≤rmZ p x
def ha4 (p:Pln):Pln:=⟨⟨-p.n.x,-p.n.y,-p.n.z⟩,-p.b⟩
theorem Ba5 (p:Pln) (x:Pt):rmZ (ha4 p) x=-rmZ p x:=by unfold rmZ ha4;grind
structure Cn (r:List Pln) (x:Pt):Prop extends Inr r x where
 c:∃ p q s,p∈r∧q∈r∧s∈r∧mw p q s≠0∧rmZ p x=0∧rmZ q x=0∧rmZ s x=0
def Bdd (r:List Pln):Prop:=∀ d:V3,d≠⟨0,0,0⟩→∃ p∈r,0 < dot p.n d
def go (x:Pt) (q:Pln) (d:V3):Pt:=⟨x.px*dot q.n d+rmZ q x*d.x,x.py*dot q.n d+rmZ q x*d.y,x.pz*dot q.n d+rmZ q x*d.z,x.pw*dot q.n d⟩
theorem pd0 (p q:Pln) (x:Pt) (d:V3):rmZ p (go x q d)=dot q.n d*rmZ p x - rmZ q x*dot p.n d:=by simp only[rmZ,go,dot];grind
theorem Oa8 {a b c:Int} (hc:0 < c) (h:a*c≤b*c):a≤b:=Int.le_of_mul_le_mul_right h hc
theorem first (x:Pt) (d:V3):∀ r:List Pln,(∀ p∈r,0≤rmZ p x)→(∃ p∈r,0 < dot p.n d)→∃ q∈r,0 < dot q.n d∧∀ p∈r,0 < dot p.n d→rmZ q x*dot p.n d≤rmZ p x*dot q.n d
 | [],_,h=>by obtain⟨p,hp,_⟩:=h;cases hp
 | a::r,hx,h=>by
  by_cases hr:∃ p∈r,0 < dot p.n d
  ·obtain⟨q,hq,h1,h2⟩:=first x d r (fun p hp=>hx p (List.mem_cons_of_mem _ hp)) hr
   by_cases ha:0 < dot a.n d
   ·by_cases hc:rmZ q x*dot a.n d≤rmZ a x*dot q.n d
    ·refine⟨q,List.mem_cons_of_mem _ hq,h1,fun p hp h3=>?_⟩
     rcases List.mem_cons.1 hp with rfl | hp
     ·exact hc
     ·exact h2 p hp h3
    ·refine⟨a,List.mem_cons_self,ha,fun p hp h3=>?_⟩
     rcases List.mem_cons.1 hp with rfl | hp
     ·exact Int.le_refl _
     ·have h4:=h2 p hp h3
      have h5:rmZ a x*dot q.n d < rmZ q x*dot a.n d:=by omega
      have h6:=Int.mul_le_mul_of_nonneg_right h4 (Int.le_of_lt ha)
      have h7:=Int.mul_lt_mul_of_pos_right h5 h3
      have e1:rmZ q x*dot p.n d*dot a.n d=rmZ q x*dot a.n d*dot p.n d:=by grind
      have e2:rmZ a x*dot q.n d*dot p.n d=rmZ a x*dot p.n d*dot q.n d:=by grind
      have e3:rmZ p x*dot q.n d*dot a.n d=rmZ p x*dot a.n d*dot q.n d:=by grind
      refine Oa8 h1 ?_
      omega
   ·refine⟨q,List.mem_cons_of_mem _ hq,h1,fun p hp h3=>?_⟩
    rcases List.mem_cons.1 hp with rfl | hp
    ·exact absurd h3 ha
    ·exact h2 p hp h3
  ·have ha : 0 < dot a.n d := by
    obtain⟨p,hp,h3⟩:=h
    rcases List.mem_cons.1 hp with rfl | hp
    ·exact h3
    ·exact absurd ⟨p,hp,h3⟩ hr
   refine⟨a,List.mem_cons_self,ha,fun p hp h3=>?_⟩
   rcases List.mem_cons.1 hp with rfl | hp
   ·exact Int.le_refl _
   ·exact absurd ⟨p,hp,h3⟩ hr
theorem step {r:List Pln} {x:Pt} (hx:Inr r x) (d:V3) (h:∃ p∈r,0 < dot p.n d):∃ q∈r,0 < dot q.n d∧Inr r (go x q d):=by
 obtain⟨q,hq,h1,h2⟩:=first x d r hx.h h
 refine⟨q,hq,h1,⟨Int.mul_pos hx.w h1,fun p hp=>?_⟩⟩
 rw[pd0]
 have h3:=hx.h p hp
 have h4:=hx.h q hq
 by_cases h5:0 < dot p.n d
 ·have:=h2 p hp h5
  have e:rmZ p x*dot q.n d=dot q.n d*rmZ p x:=Int.mul_comm _ _
  omega
 ·have h6:=Int.mul_nonneg (Int.le_of_lt h1) h3
  have h7:rmZ q x*dot p.n d≤0:=Int.mul_nonpos_of_nonneg_of_nonpos h4 (by omega)
  omega
theorem Xd4 {h q:Pln} {x:Pt} {d:V3} (h1:0≤rmZ q x) (h2:0≤dot h.n d):rmZ h (go x q d)*x.pw≤rmZ h x*(go x q d).pw∨x.pw≤0:=by
 rcases Int.lt_or_le 0 x.pw with hw | hw
 ·left
  rw[pd0]
  have:=Int.mul_nonneg h1 h2
  have h3:=Int.mul_nonneg this (Int.le_of_lt hw)
  have e:rmZ h x*(go x q d).pw=dot q.n d*rmZ h x*x.pw:=by unfold go;grind
  have e2:(dot q.n d*rmZ h x - rmZ q x*dot h.n d)*x.pw=dot q.n d*rmZ h x*x.pw - rmZ q x*dot h.n d*x.pw:=by grind
  omega
 ·exact .inr hw
def neg (d:V3):V3:=⟨-d.x,-d.y,-d.z⟩
theorem Ed3 (a d:V3):dot a (neg d)=-dot a d:=by unfold dot neg;grind
theorem we3 {d:V3} (h:d≠⟨0,0,0⟩):neg d≠⟨0,0,0⟩:=fun h'=>h (by
 cases d;unfold neg at h';simp only[V3.mk.injEq] at h' ⊢;omega)
theorem turn (h:Pln) {d:V3} (hd:d≠⟨0,0,0⟩):∃ e,e≠(⟨0,0,0⟩:V3)∧0≤dot h.n e∧∀ a,dot a d=0→dot a e=0:=by
 by_cases h1:0≤dot h.n d
 ·exact⟨d,hd,h1,fun _ h=>h⟩
 ·exact⟨neg d,we3 hd,by rw[Ed3];omega,fun a h=>by rw[Ed3,h];rfl⟩
theorem Qe6 {n:V3} (hn:n≠⟨0,0,0⟩):∃ d,d≠(⟨0,0,0⟩:V3)∧dot n d=0:=by
 by_cases h:n.x=0∧n.y=0
 ·exact⟨⟨1,0,0⟩,by simp,by unfold dot;simp[h.1]⟩
 ·refine⟨⟨n.y,-n.x,0⟩,fun h'=>h ?_,by unfold dot;grind⟩
  simp only[V3.mk.injEq] at h'
  omega
theorem V3.ext' {a b:V3} (h1:a.x=b.x) (h2:a.y=b.y) (h3:a.z=b.z):a=b:=by cases a;cases b;simp_all
theorem Xd5 {m n d:V3} (hm:m≠⟨0,0,0⟩) (h1:dot m d=0) (h2:dot n d≠0):i6 m n≠⟨0,0,0⟩:=fun h=>by
 unfold i6 at h
 simp only[V3.mk.injEq] at h
 obtain⟨c1,c2,c3⟩:=h
 unfold dot at h1 h2
 have e1:m.x*(n.x*d.x+n.y*d.y+n.z*d.z)=0:=by grind
 have e2:m.y*(n.x*d.x+n.y*d.y+n.z*d.z)=0:=by grind
 have e3:m.z*(n.x*d.x+n.y*d.y+n.z*d.z)=0:=by grind
 have k:∀ {a:Int},a*(n.x*d.x+n.y*d.y+n.z*d.z)=0→a=0:=fun h=>(Int.mul_eq_zero.1 h).resolve_right h2
 exact hm (V3.ext' (k e1) (k e2) (k e3))
theorem pd1 (a b:V3):dot a (i6 a b)=0:=by unfold dot i6;grind
theorem pd2 (a b:V3):dot b (i6 a b)=0:=by unfold dot i6;grind
theorem Xd6 {p q:Pln} {x:Pt} {d:V3} (h:rmZ p x=0) (h':dot p.n d=0):rmZ p (go x q d)=0:=by rw[pd0,h,h'];simp
theorem Xd7 (q:Pln) (x:Pt) (d:V3):rmZ q (go x q d)=0:=by rw[pd0];grind
theorem He4 {q:Pln} {d:V3} (h:0 < dot q.n d):q.n≠⟨0,0,0⟩:=fun h'=>by rw[h'] at h;unfold dot at h;simp at h
theorem pe2 {a b c u v w:Int} (hu:0 < u) (hv:0 < v) (hw:0 < w) (h1:a*v≤b*u) (h2:b*w≤c*v):a*w≤c*u:=by
 have h3:=Int.mul_le_mul_of_nonneg_right h1 (Int.le_of_lt hw)
 have h4:=Int.mul_le_mul_of_nonneg_right h2 (Int.le_of_lt hu)
 have e1:a*v*w=a*w*v:=by grind
 have e2:b*u*w=b*w*u:=by grind
 have e3:c*v*u=c*u*v:=by grind
 exact Oa8 hv (by omega)
theorem we4 {r:List Pln} (hb:Bdd r) (h:Pln) {x:Pt} (hx:Inr r x):∃ v,Cn r v∧rmZ h v*x.pw≤rmZ h x*v.pw:=by
 obtain⟨d0,n0,p0,_⟩:=turn h (d:=⟨1,0,0⟩) (by simp)
 obtain⟨q1,m1,k1,i1⟩:=step hx d0 (hb d0 n0)
 have l1:=(Xd4 (h:=h) (x:=x) (hx.h q1 m1) p0).resolve_right (by have:=hx.w;omega)
 obtain⟨e1,ne1,he1⟩:=Qe6 (He4 k1)
 obtain⟨d1,n1,p1,z1⟩:=turn h ne1
 obtain⟨q2,m2,k2,i2⟩:=step i1 d1 (hb d1 n1)
 have l2:=(Xd4 (h:=h) (x:=go x q1 d0) (i1.h q2 m2) p1).resolve_right (by have:=i1.w;omega)
 have hc:=Xd5 (He4 k1) (z1 _ he1) (n:=q2.n) (by omega)
 obtain⟨d2,n2,p2,z2⟩:=turn h hc
 obtain⟨q3,m3,k3,i3⟩:=step i2 d2 (hb d2 n2)
 have l3:=(Xd4 (h:=h) (x:=go (go x q1 d0) q2 d1) (i2.h q3 m3) p2).resolve_right (by have:=i2.w;omega)
 have a1:rmZ q1 (go (go x q1 d0) q2 d1)=0:=Xd6 (Xd7 _ _ _) (z1 _ he1)
 refine⟨_,⟨i3,q3,q1,q2,m3,m1,m2,fun h0=>?_,Xd7 _ _ _,Xd6 a1 (z2 _ (pd1 _ _)),Xd6 (Xd7 _ _ _) (z2 _ (pd2 _ _))⟩,?_⟩
 ·have:dot q3.n d2=0:=z2 _ h0
  omega
 ·exact pe2 i3.w i2.w hx.w l3 (pe2 i2.w i1.w hx.w l2 l1)
theorem Ca7 {r:List Pln} (hb:Bdd r) {h:Pln} (hv:∀ v,Cn r v→0≤rmZ h v) {x:Pt} (hx:Inr r x):0≤rmZ h x:=by
 obtain⟨v,h1,h2⟩:=we4 hb h hx
 have h3:=Int.mul_nonneg (hv v h1) (Int.le_of_lt hx.w)
 exact Oa8 h1.w (by rw[Int.zero_mul];omega)
def mid (x y:Pt):Pt:=⟨x.px*y.pw+y.px*x.pw,x.py*y.pw+y.py*x.pw,x.pz*y.pw+y.pz*x.pw,2*(x.pw*y.pw)⟩
theorem Xd8 (p:Pln) (x y:Pt):rmZ p (mid x y)=rmZ p x*y.pw+rmZ p y*x.pw:=by unfold rmZ mid;grind
theorem Inr.mid {r:List Pln} {x y:Pt} (hx:Inr r x) (hy:Inr r y):Inr r (mid x y):=⟨by unfold Ce.mid;exact Int.mul_pos (by decide) (Int.mul_pos hx.w hy.w),fun p hp=>by
 rw[Xd8]
 exact Int.add_nonneg (Int.mul_nonneg (hx.h p hp) (Int.le_of_lt hy.w)) (Int.mul_nonneg (hy.h p hp) (Int.le_of_lt hx.w))⟩
def ad9 (r:List Pln):Prop:=∃ x:Pt,0 < x.pw∧∀ p∈r,0 < rmZ p x
theorem Ed4 {r:List Pln}:∀ (l:List Pln),(∀ p∈l,p∈r)→(∃ x,Inr r x)→(∀ p∈l,∃ v,Inr r v∧0 < rmZ p v)→∃ x,Inr r x∧∀ p∈l,0 < rmZ p x
 | [],_,h,_=>by obtain⟨x,h⟩:=h;exact⟨x,h,fun p hp=>by cases hp⟩
 | a::l,hl,h,hv=>by
  obtain⟨x,h1,h2⟩:=Ed4 l (fun p hp=>hl p (List.mem_cons_of_mem _ hp)) h (fun p hp=>hv p (List.mem_cons_of_mem _ hp))
  obtain⟨y,h3,h4⟩:=hv a List.mem_cons_self
  refine⟨mid x y,h1.mid h3,fun p hp=>?_⟩
  rw[Xd8]
  rcases List.mem_cons.1 hp with rfl | hp
  ·have:=Int.mul_nonneg (h1.h p (hl p List.mem_cons_self)) (Int.le_of_lt h3.w)
   have:=Int.mul_pos h4 h1.w
   omega
  ·have:=Int.mul_pos (h2 p hp) h3.w
   have:=Int.mul_nonneg (h3.h p (hl p (List.mem_cons_of_mem _ hp))) (Int.le_of_lt h1.w)
   omega
theorem Xd9 {r:List Pln} (hb:Bdd r) (h0:r≠[]):ad9 r↔∀ p∈r,∃ v,Cn r v∧0 < rmZ p v:=by
 constructor
 ·intro ⟨x,hw,hx⟩ p hp
  by_cases h:∃ v,Cn r v∧0 < rmZ p v
  ·exact h
  ·have hx':Inr r x:=⟨hw,fun q hq=>Int.le_of_lt (hx q hq)⟩
   have:=Ca7 hb (h:=ha4 p) (fun v hv=>by
    rw[Ba5]
    have:¬ 0 < rmZ p v:=fun h'=>h ⟨v,hv,h'⟩
    omega) hx'
   rw[Ba5] at this
   have:=hx p hp
   omega
 ·intro h
  obtain⟨p,hp⟩:=List.exists_mem_of_ne_nil r h0
  obtain⟨v,hv,_⟩:=h p hp
  obtain⟨x,h1,h2⟩:=Ed4 r (fun _ h=>h) ⟨v,hv.toInr⟩ fun p hp=>by
   obtain⟨v,hv,h⟩:=h p hp
   exact⟨v,hv.toInr,h⟩
  exact⟨x,h1.w,h2⟩
structure Eqv (x v:Pt):Prop where
 e1:x.px*v.pw=v.px*x.pw
 e2:x.py*v.pw=v.py*x.pw
 e3:x.pz*v.pw=v.pz*x.pw
theorem Eqv.rm {x v:Pt} (h:Eqv x v) (p:Pln):rmZ p x*v.pw=rmZ p v*x.pw:=by
 obtain⟨e1,e2,e3⟩:=h
 unfold rmZ
 grind
theorem Eqv.inr {r:List Pln} {x v:Pt} (h:Eqv x v) (hw:0 < x.pw) (hv:Inr r v):Inr r x:=⟨hw,fun p hp=>by
 have:=h.rm p
 have h2:=Int.mul_nonneg (hv.h p hp) (Int.le_of_lt hw)
 exact Oa8 hv.w (by rw[Int.zero_mul];omega)⟩
end Go.Ev.Ce
