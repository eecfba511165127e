/- Own work: a part of the proof. -/
import Derived.Test.YtlccibobknidjaaGreatEvD7
import Derived.Test.YtlccibobknidjaaGreatEvD4
import Derived.Shelf.SlSortCmp.WholeK
import Derived.Test.YtlccibobknidjaaGreatEvSp3
import Derived.KernelRfl
set_option linter.unusedVariables false
set_option linter.unusedSimpArgs false
set_option linter.unnecessarySimpa false
set_option linter.unusedSectionVars false
namespace Go.Ev.Ce
open Go Go.Ev Go.Ev.L Go.Proofs
theorem md9 {Q:Pt→Prop} (r:List Pln) (p q:Pln):∀ (l:List Pln) (out:List Pt),(∀ s∈l,(mpt p q s).2=true→inn r (mpt p q s).1=true→Q (mpt p q s).1)→(∀ x∈out,Q x)→∀ x∈nb0 r p q l out,Q x
 | [],out,_,h=>h
 | s::l,out,hs,h=>md9 r p q l (Ra3 r p q out s) (fun t ht=>hs t (List.mem_cons_of_mem _ ht)) fun x hx=>by
  unfold Ra3 at hx
  split at hx
  ·rename_i hc
   rw[Bool.and_eq_true,Bool.and_eq_true] at hc
   rcases List.mem_append.1 hx with hx | hx
   ·exact h x hx
   ·rw[List.mem_singleton] at hx
    subst hx
    exact hs s List.mem_cons_self hc.1 hc.2.2
  ·exact h x hx
theorem nd0 {Q:Pt→Prop} (r:List Pln) (p:Pln):∀ (l:List Pln) (out:List Pt),(∀ q∈l,∀ s∈l,(mpt p q s).2=true→inn r (mpt p q s).1=true→Q (mpt p q s).1)→(∀ x∈out,Q x)→∀ x∈Ya7 r p l out,Q x
 | [],out,_,h=>h
 | q::l,out,hs,h=>nd0 r p l _ (fun a ha t ht=>hs a (List.mem_cons_of_mem _ ha) t (List.mem_cons_of_mem _ ht)) (md9 r p q l out (fun t ht=>hs q List.mem_cons_self t (List.mem_cons_of_mem _ ht)) h)
theorem nd1 {Q:Pt→Prop} (r:List Pln):∀ (l:List Pln) (out:List Pt),(∀ p∈l,∀ q∈l,∀ s∈l,(mpt p q s).2=true→inn r (mpt p q s).1=true→Q (mpt p q s).1)→(∀ x∈out,Q x)→∀ x∈Jc0 r l out,Q x
 | [],out,_,h=>h
 | p::l,out,hs,h=>nd1 r l _ (fun a ha c hc t ht=>hs a (List.mem_cons_of_mem _ ha) c (List.mem_cons_of_mem _ hc) t (List.mem_cons_of_mem _ ht)) (nd0 r p l out (fun c hc t ht=>hs p List.mem_cons_self c (List.mem_cons_of_mem _ hc) t (List.mem_cons_of_mem _ ht)) h)
theorem ae8 {Q:Pt→Prop} {r:List Pln} (hs:∀ p∈r,∀ q∈r,∀ s∈r,(mpt p q s).2=true→inn r (mpt p q s).1=true→Q (mpt p q s).1):∀ x∈cor r,Q x :=
 nd1 r r [] hs fun x hx=>by cases hx
structure Okx (x:Pt):Prop where
 w1:0 < x.pw
 w2:x.pw≤600000000000
 c1:Sm 300000000000000 x.px
 c2:Sm 300000000000000 x.py
 c3:Sm 300000000000000 x.pz
theorem ae9 {r:List Pln} (hb:Bds r):∀ x∈cor r,Okx x:=ae8 fun p hp q hq s hs h _=>by
 obtain⟨h1,h2,h3,h4,h5⟩:=me1 (hb p hp) (hb q hq) (hb s hs) h
 exact⟨h1,h5,h2,h3,h4⟩
theorem be0 {c:List Pln}:∀ x∈pts c,Okx x:=by
 unfold pts
 cases h:chk c==0 with
 | false=>intro x hx;cases hx
 | true=>exact ae9 (ub7 h).1
theorem rc8 (c:List Pln):(pts c).length≤8000000:=by
 unfold pts
 cases h:chk c==0 with
 | false=>exact Nat.zero_le _
 | true=>exact Xc8 _ (ub7 h).1 (ub7 h).2
theorem nd2 {x y:Int} (hy:0 < y):Int.tmod x y+y*Int.tdiv x y=x∧-y < Int.tmod x y∧Int.tmod x y < y:=by
 refine⟨Int.tmod_add_mul_tdiv x y,?_,Int.tmod_lt_of_pos x hy⟩
 have:=Int.lt_tmod_of_pos x hy
 omega
theorem Bd2 {x y q r:Int} (hy:0 < y) (h:r+y*q=x) (h1:0≤r) (h2:r < y):x / y=q:=((Int.ediv_emod_unique hy).2 ⟨h,h1,h2⟩).1
theorem be1 {x y:Int} (hx:Sm 300000000000000 x) (hy:0 < y):Sm 300000000000000 (Int.tdiv x y):=G6 hx hy
theorem nd3 {x y:Int} (hx:Sm 300000000000000 x) (hy:0 < y):Ia8 x y=some (i (x / y),[]):=by
 have hz:(y==0)=false:=by rw[beq_eq_false_iff_ne];omega
 obtain⟨h1,h2,h3⟩:=nd2 (x:=x) hy
 have hb:=be1 hx hy
 unfold Ia8
 rw[bf hz,bf hz,va0 (hb.mono (by omega))]
 by_cases h:Int.tmod x y < 0
 ·rw[btD h,Bd2 hy (q:=Int.tdiv x y - 1) (r:=Int.tmod x y+y) (by rw[Int.mul_sub];omega) (by omega) (by omega),Da8 (by have:=hb.1;omega) (by have:=hb.2;omega)]
 ·rw[bfD h,Bd2 hy h1 (by omega) h3]
theorem Jb9 {x y:Int} (hx:Sm 300000000000000 x) (hy:0 < y):Z5 x y=x / y:=by unfold Z5;rw[nd3 hx hy];rfl
theorem Kb0 {x y:Int} (hx:Sm 300000000000000 x) (hy:0 < y):Z6 x y=true:=by unfold Z6;rw[nd3 hx hy];rfl
theorem Rd1 (x:Int) {y:Int} (hy:0 < y) (hy2:y≤4000000000000000000):pb5 x y=some (i (x % y),[]):=by
 have hz:(y==0)=false:=by rw[beq_eq_false_iff_ne];omega
 obtain⟨h1,h2,h3⟩:=nd2 (x:=x) hy
 unfold pb5
 rw[bfD (by omega),bf hz,bf hz,Da8 (by omega) (by omega),Int.tmod_eq_emod_of_nonneg (by omega)]
 congr 3
 rw[Int.add_emod_right]
 conv=>rhs;rw[← h1]
 rw[Int.add_mul_emod_self_left]
theorem Bd3 (x:Int) {y:Int} (hy:0 < y) (hy2:y≤4000000000000000000):qa5 x y=x % y:=by unfold qa5;rw[Rd1 x hy hy2];rfl
theorem Dc0 (x:Int) {y:Int} (hy:0 < y) (hy2:y≤4000000000000000000):ja8 x y=true:=by unfold ja8;rw[Rd1 x hy hy2];rfl
noncomputable def ac9 (s:V3×V3) (x:Pt):V3×V3 :=
 (⟨if x.px / x.pw < s.1.x then x.px / x.pw else s.1.x,if x.py / x.pw < s.1.y then x.py / x.pw else s.1.y,if x.pz / x.pw < s.1.z then x.pz / x.pw else s.1.z⟩,
  ⟨if W (0 - -x.px / x.pw) > s.2.x then W (0 - -x.px / x.pw) else s.2.x,if W (0 - -x.py / x.pw) > s.2.y then W (0 - -x.py / x.pw) else s.2.y,if W (0 - -x.pz / x.pw) > s.2.z then W (0 - -x.pz / x.pw) else s.2.z⟩)
noncomputable def bnd (c:List Pln):V3×V3×Bool :=
 if ful c then (((pts c).foldl ac9 (⟨24,24,24⟩,⟨-24,-24,-24⟩)).1,((pts c).foldl ac9 (⟨24,24,24⟩,⟨-24,-24,-24⟩)).2,true) else (⟨0,0,0⟩,⟨0,0,0⟩,false)
theorem Rd2 {x:Int} (h:Sm 300000000000000 x):W (0 - x)=-x:=by obtain⟨h1,h2⟩:=h;rw[Da8 (by omega) (by omega)];omega
theorem Sm.neg {n x:Int} (h:Sm n x):Sm n (-x):=⟨by have:=h.2;omega,by have:=h.1;omega⟩
noncomputable def we2 (r:V3×V3×Bool):b7:=.tup [.agg (tV.row r.1),.agg (tV.row r.2.1),b r.2.2]
theorem vd7 (X:List Pt) (hX:X.length≤8000000) (hok:∀ x∈X,Okx x) (s:V3×V3):∃ m,lp (ea4 ⟨X,(X.length:Int)⟩) ⟨0,s.1.x,s.1.y,s.1.z,s.2.x,s.2.y,s.2.z⟩=(1,⟨m,(X.foldl ac9 s).1.x,(X.foldl ac9 s).1.y,(X.foldl ac9 s).1.z,(X.foldl ac9 s).2.x,(X.foldl ac9 s).2.y,(X.foldl ac9 s).2.z⟩):=by
 have h:=Vb9 (step:=ea4 ⟨X,(X.length:Int)⟩) (mk:=fun j (s:V3×V3)=>(⟨(j:Int),s.1.x,s.1.y,s.1.z,s.2.x,s.2.y,s.2.z⟩:V2)) (f:=ac9) (fin:=1) tX X (fun _ _=>True) (by omega)
  (fun j s hj _=>⟨by
   have hx:=hok _ (wc2 tX hj)
   simp only[ea4,ka8,Int.toNat_natCast,Rd2 hx.c1,Rd2 hx.c2,Rd2 hx.c3,Jb9 hx.c1 hx.w1,Jb9 hx.c2 hx.w1,Jb9 hx.c3 hx.w1,Kb0 hx.c1 hx.w1,Kb0 hx.c2 hx.w1,Kb0 hx.c3 hx.w1,
    Jb9 hx.c1.neg hx.w1,Jb9 hx.c2.neg hx.w1,Jb9 hx.c3.neg hx.w1,Kb0 hx.c1.neg hx.w1,Kb0 hx.c2.neg hx.w1,Kb0 hx.c3.neg hx.w1,q8 hj (by omega)]
   rw[btD (p4 hj),bt (g9 hj)]
   rfl,trivial⟩)
  (fun s _=>by simp only[ea4,ka8];rw[bfD (Y2 (Nat.lt_irrefl _))]) 0 (Nat.zero_le _) s trivial
 have h:=h.1
 rw[List.drop_zero] at h
 exact⟨_,h⟩
theorem nd4 {c:List Pln} (hc:c.length≤1000000000):Ia9 c=some (we2 (bnd c),[]):=by
 have ht:O3 ⟨24,24,24⟩ (-1)=⟨-24,-24,-24⟩:=by
  unfold O3
  rw[show W (24*-1)=-24 from by rw[Fd5];rfl]
 obtain⟨m,hm⟩:=vd7 (pts c) (rc8 c) be0 (⟨24,24,24⟩,⟨-24,-24,-24⟩)
 unfold Ia9 bnd
 simp only[n5,I0,o7,Ac8 hc,Ac9 hc,Fb2 hc,Fb3 hc,ht,hm]
 cases ful c<;>rfl
theorem Bd4 (r:V3×V3×Bool):(fd6 r1V r1V r1B).rd (we2 r,[])=some r:=rfl
theorem be2 {c:List Pln} (hc:c.length≤1000000000):Ya5 c=bnd c:=by unfold Ya5;rw[nd4 hc];exact xa9 _ (Bd4 _)
theorem be3 {c:List Pln} (hc:c.length≤1000000000):Ya6 c=true:=by unfold Ya6;rw[nd4 hc];exact Ja1 _ (Bd4 _)
theorem Rd3 (x:Pt):(x.px==x.px&&(x.py==x.py&&(x.pz==x.pz&&(x.pw==x.pw&&true))))=true:=(Zd0 x x).2 rfl
theorem Rd4 (x:Pln):(x.n.x==x.n.x&&(x.n.y==x.n.y&&(x.n.z==x.n.z&&(x.b==x.b&&true))))=true:=by simp
theorem Nb7 (l:List Pt) (hl:l.length≤1000000000):la0 l l=some (b true,[]):=by
 have h:=bb4 (step:=Y3 ⟨l,l⟩) (mk:=fun j=>(⟨(j:Int)⟩:D2)) (c:=fun _=>false) (u:=1) (fin:=2) tX l hl
  (fun j hj=>by
   simp only[Y3,V5,Int.toNat_natCast,q8 hj (by omega),Rd3]
   rw[btD (p4 hj),bt (g9 hj),bt (g9 hj)]
   rfl)
  (by simp only[Y3,V5];rw[bfD (Y2 (Nat.lt_irrefl _))]) 0 (Nat.zero_le _)
 rw[List.drop_zero,show (l.any fun _=>false)=false by simp] at h
 unfold la0
 simp only[n5,o7]
 rw[show (⟨0⟩:D2)=⟨((0:Nat):Int)⟩ from rfl,h,bf (by simp)]
 rfl
theorem bc0 (l:List Pt) (hl:l.length≤1000000000):la1 l l=true:=by unfold la1;rw[Nb7 l hl];rfl
theorem bc1 (l:List Pt) (hl:l.length≤1000000000):la2 l l=true:=by unfold la2;rw[Nb7 l hl];rfl
theorem Bd5 (l:List Pln) (hl:l.length≤1000000000):eb7 l l=some (b true,[]):=by
 have h:=bb4 (step:=Ca1 ⟨l,l⟩) (mk:=fun j=>(⟨(j:Int)⟩:Z7)) (c:=fun _=>false) (u:=1) (fin:=2) tP l hl
  (fun j hj=>by
   simp only[Ca1,va9,Int.toNat_natCast,q8 hj (by omega),Rd4]
   rw[btD (p4 hj),bt (g9 hj),bt (g9 hj)]
   rfl)
  (by simp only[Ca1,va9];rw[bfD (Y2 (Nat.lt_irrefl _))]) 0 (Nat.zero_le _)
 rw[List.drop_zero,show (l.any fun _=>false)=false by simp] at h
 unfold eb7
 simp only[n5,o7]
 rw[show (⟨0⟩:Z7)=⟨((0:Nat):Int)⟩ from rfl,h,bf (by simp)]
 rfl
theorem ne4 (l:List Pln) (hl:l.length≤1000000000):vb8 l l=true:=by unfold vb8;rw[Bd5 l hl];rfl
theorem ne5 (l:List Pln) (hl:l.length≤1000000000):vb9 l l=true:=by unfold vb9;rw[Bd5 l hl];rfl
end Go.Ev.Ce
namespace Go.Ev.Ce
open Go Go.Ev Go.Ev.L Go.Proofs
def Nx {σ:Type} (x:Stp σ) (E:Nat→Prop) (N:σ→Prop):Prop:=(∃ t,x=.exit t∧E t)∨∃ s,x=.next s∧N s
theorem Nx.sl {σ:Type} {c:Bool} {t e:Stp σ} {E:Nat→Prop} {N:σ→Prop} (h1:c=true→Nx t E N) (h2:c=false→Nx e E N):Nx (sl c t e) E N:=by cases c;exact h2 rfl;exact h1 rfl
theorem Nx.ex {σ:Type} {t:Nat} {E:Nat→Prop} {N:σ→Prop} (h:E t):Nx (.exit t) E N:=.inl ⟨t,rfl,h⟩
theorem Nx.nx {σ:Type} {s:σ} {E:Nat→Prop} {N:σ→Prop} (h:N s):Nx (.next s) E N:=.inr ⟨s,rfl,h⟩
theorem Da1 {σ τ : Type} {step : σ → Stp σ} {mk : Nat → τ → σ} (n : Nat) (I : Nat → τ → Prop) (E : Nat → σ → Prop) (hn : n ≤ 1000000000)
  (h:∀ j a,j < n→I j a→Nx (step (mk j a)) (fun t=>E t (mk j a)) (fun s=>∃ a',s=mk (j+1) a'∧I (j+1) a'))
  (hf:∀ j a,n≤j→I j a→∃ t,step (mk j a)=.exit t∧E t (mk j a)) (j0:Nat) (a:τ) (hi:I j0 a):∃ t s,lp step (mk j0 a)=(t,s)∧E t s:=by
 have key:=Cb4 (step:=step) (I:=fun m s=>∃ j a,m=n - j∧s=mk j a∧I j a) (Q:=E) (fun m s ⟨j,a,hm,hs,ha⟩=>by
  subst hs
  by_cases hlt:j < n
  ·rcases h j a hlt ha with h1 | ⟨s',h1,a',h2,h3⟩
   ·exact .inl h1
   ·subst h2
    exact .inr ⟨_,n - (j+1),by omega,h1,j+1,a',rfl,rfl,h3⟩
  ·exact .inl (hf j a (by omega) ha)) (n - j0) (mk j0 a) (by omega) ⟨j0,a,rfl,rfl,hi⟩
 exact⟨_,_,rfl,key⟩
def Rd {ρ:Type} (R:RR ρ) (o:Option (b7×List b8)) (P:ρ→Prop):Prop:=∃ x r,o=some x∧R.rd x=some r∧P r
theorem Rd.p {ρ:Type} {R:RR ρ} {o:Option (b7×List b8)} {P:ρ→Prop} (h:Rd R o P):P (J9 R o):=by
 obtain⟨x,r,h1,h2,h3⟩:=h
 rw[h1,xa9 R h2]
 exact h3
theorem Rd.g {ρ:Type} {R:RR ρ} {o:Option (b7×List b8)} {P:ρ→Prop} (h:Rd R o P):okO R o=true:=by
 obtain⟨x,r,h1,h2,h3⟩:=h
 rw[h1]
 exact Ja1 R h2
theorem Rd.sl {ρ:Type} {R:RR ρ} {c:Bool} {t e:Option (b7×List b8)} {P:ρ→Prop} (h1:c=true→Rd R t P) (h2:c=false→Rd R e P):Rd R (sl c t e) P:=by cases c;exact h2 rfl;exact h1 rfl
theorem sa5 (n : Int) (l : List Int) (j : Int) (h1 : 0 ≤ j) (h2 : j ≤ 1000000) (hn : 0 < n) (hn2 : n ≤ 1000000) :
  ∃ v j',l8 ⟨n,l,j⟩=⟨1,v,j'⟩∧0≤v∧v < n∧j≤j'∧j'≤j+1:=by
 unfold l8 ea5
 simp only
 by_cases h:j≥(l.length:Int)
 ·rw[btD h]
  exact⟨0,j,rfl,by omega,hn,by omega,by omega⟩
 ·rw[bfD h]
  have hW:W (W (j+1) - 1)=j:=by rw[wc1,Da8 (by omega) (by omega)];omega
  have hW2:W (j+1)=j+1:=Da8 (by omega) (by omega)
  have hin:inB j l.length=true:=by rw[rc4];exact decide_eq_true (by omega)
  rw[hW,hW2,hin,Dc0 _ hn (by omega),Bd3 _ hn (by omega)]
  exact⟨_,_,rfl,Int.emod_nonneg _ (by omega),Int.emod_lt_of_pos _ hn,by omega,by omega⟩
theorem Zc7 (m : Int) (l : List Int) (j : Int) (h1 : 0 ≤ j) (h2 : j ≤ 900000) (hm : 0 ≤ m) (hm2 : m ≤ 100000) :
  ∃ a b c j',Na1 ⟨m,l,j⟩=⟨1,a,b,c,l,j'⟩∧Sm m a∧Sm m b∧Sm m c∧j≤j'∧j'≤j+3:=by
 unfold Na1 ab0
 simp only[n5,o7]
 have hW:W (W (2*m)+1)=2*m+1:=by rw[lb3,Da8 (by omega) (by omega)]
 rw[hW]
 obtain⟨v1,j1,e1,a1,b1,c1,d1⟩:=sa5 (2*m+1) l j h1 (by omega) (by omega) (by omega)
 rw[e1]
 obtain⟨v2,j2,e2,a2,b2,c2,d2⟩:=sa5 (2*m+1) l j1 (by omega) (by omega) (by omega) (by omega)
 simp only
 rw[e2]
 obtain⟨v3,j3,e3,a3,b3,c3,d3⟩:=sa5 (2*m+1) l j2 (by omega) (by omega) (by omega) (by omega)
 simp only
 rw[e3]
 refine⟨v1 - m,v2 - m,v3 - m,j3,?_,⟨by omega,by omega⟩,⟨by omega,by omega⟩,⟨by omega,by omega⟩,by omega,by omega⟩
 simp only
 rw[Da8 (n:=v1 - m) (by omega) (by omega),Da8 (n:=v2 - m) (by omega) (by omega),Da8 (n:=v3 - m) (by omega) (by omega)]
 rfl
def inV (v:V3):Bool:=smb 24 v.x&&(smb 24 v.y&&smb 24 v.z)
theorem Bd6 (v:V3):inV v=true↔Sm 24 v.x∧Sm 24 v.y∧Sm 24 v.z:=by unfold inV;rw[Bool.and_eq_true,Bool.and_eq_true,Zb4,Zb4,Zb4]
theorem Rd5 (v:V3):Fb4 v=some (b (inV v),[]):=by
 unfold Fb4 inV smb
 cases h1:decide (v.x < -24)<;>cases h2:decide (v.x > 24)<;>cases h3:decide (v.y < -24)<;>cases h4:decide (v.y > 24)<;>cases h5:decide (v.z < -24)<;>cases h6:decide (v.z > 24)<;>rfl
theorem he8 (v:V3):Ra4 v=inV v:=by unfold Ra4;rw[Rd5];rfl
theorem Rd6 (v:V3):Ra5 v=true:=by unfold Ra5;rw[Rd5];rfl
def sub (a b:V3):V3:=⟨a.x - b.x,a.y - b.y,a.z - b.z⟩
theorem Bd7 {a b:V3} (ha:inV a=true) (hb:inV b=true):Fa3 a b=sub a b∧Sm 48 (sub a b).x∧Sm 48 (sub a b).y∧Sm 48 (sub a b).z:=by
 rw[Bd6] at ha hb
 obtain⟨⟨a1,a2⟩,⟨a3,a4⟩,a5,a6⟩:=ha
 obtain⟨⟨b1,b2⟩,⟨b3,b4⟩,b5,b6⟩:=hb
 unfold Fa3 sub
 rw[Da8 (by omega) (by omega),Da8 (by omega) (by omega),Da8 (by omega) (by omega)]
 exact⟨rfl,⟨by show _≤a.x - b.x;omega,by show a.x - b.x≤_;omega⟩,⟨by show _≤a.y - b.y;omega,by show a.y - b.y≤_;omega⟩,⟨by show _≤a.z - b.z;omega,by show a.z - b.z≤_;omega⟩⟩
theorem Kc7 {a b c : V3} (ha : inV a = true) (hb : inV b = true) (hc : inV c = true) :
  P0 (Fa3 b a) (Fa3 c a)=F6 (sub b a) (sub c a)∧Sm 4608 (F6 (sub b a) (sub c a)).x∧Sm 4608 (F6 (sub b a) (sub c a)).y∧Sm 4608 (F6 (sub b a) (sub c a)).z:=by
 obtain⟨e1,⟨u1,u2⟩,⟨u3,u4⟩,u5,u6⟩:=Bd7 hb ha
 obtain⟨e2,⟨v1,v2⟩,⟨v3,v4⟩,v5,v6⟩:=Bd7 hc ha
 rw[e1,e2,Zb2]
 generalize sub b a=p at *
 generalize sub c a=q at *
 have h1:=mb u3 u4 v5 v6;have h2:=mb u5 u6 v3 v4;have h3:=mb u5 u6 v1 v2;have h4:=mb u1 u2 v5 v6;have h5:=mb u1 u2 v3 v4;have h6:=mb u3 u4 v1 v2
 have k:Sm 4608 (F6 p q).x∧Sm 4608 (F6 p q).y∧Sm 4608 (F6 p q).z:=by unfold Sm F6;simp only;omega
 obtain⟨k1,k2,k3⟩:=k
 rw[va0 (k1.mono (by omega)),va0 (k2.mono (by omega)),va0 (k3.mono (by omega))]
 exact⟨rfl,k1,k2,k3⟩
def be4 (a b c:V3):Pln×Bool :=
 if inV a&&(inV b&&inV c) then
  if g3 (F6 (sub b a) (sub c a))=0 then (⟨⟨0,0,0⟩,0⟩,false)
  else (⟨⟨Int.tdiv (F6 (sub b a) (sub c a)).x (g3 (F6 (sub b a) (sub c a))),Int.tdiv (F6 (sub b a) (sub c a)).y (g3 (F6 (sub b a) (sub c a))),Int.tdiv (F6 (sub b a) (sub c a)).z (g3 (F6 (sub b a) (sub c a)))⟩,
   dot ⟨Int.tdiv (F6 (sub b a) (sub c a)).x (g3 (F6 (sub b a) (sub c a))),Int.tdiv (F6 (sub b a) (sub c a)).y (g3 (F6 (sub b a) (sub c a))),Int.tdiv (F6 (sub b a) (sub c a)).z (g3 (F6 (sub b a) (sub c a)))⟩ a⟩,true)
 else (⟨⟨0,0,0⟩,0⟩,false)
theorem Id0 (v:V3):0≤g3 v:=by unfold g3;omega
theorem Dc1 (a c d:V3):Ba5 a c d=some (.tup [.agg (tP.row (be4 a c d).1),b (be4 a c d).2],[]):=by
 unfold Ba5 be4
 simp only[he8,Rd6]
 cases ha:inV a with
 | false=>rfl
 | true =>
  cases hc:inV c with
  | false=>rfl
  | true =>
   cases hd:inV d with
   | false=>rfl
   | true =>
    obtain⟨e,k1,k2,k3⟩:=Kc7 ha hc hd
    rw[e]
    generalize F6 (sub c a) (sub d a)=n at *
    have m1:=k1.mono (m:=1000000000000000000) (by omega)
    have m2:=k2.mono (m:=1000000000000000000) (by omega)
    have m3:=k3.mono (m:=1000000000000000000) (by omega)
    rw[Pd7 m1 m2 m3,Ac0 m1 m2 m3]
    by_cases h0:g3 n=0
    ·rw[show (g3 n==0)=true from by rw[h0];rfl]
     simp only[Bool.and_self,if_true,h0]
     rfl
    ·have hp:=Id0 n
     have q1:=G6 (g:=g3 n) k1 (by omega)
     have q2:=G6 (g:=g3 n) k2 (by omega)
     have q3:=G6 (g:=g3 n) k3 (by omega)
     rw[show (g3 n==0)=false from by rw[beq_eq_false_iff_ne];exact h0,me5 m1 m2 m3 h0]
     simp only[Bool.and_self,if_true,h0,if_false]
     rw[va0 (q1.mono (by omega)),va0 (q2.mono (by omega)),va0 (q3.mono (by omega))]
     have hdot:Ea8 ⟨Int.tdiv n.x (g3 n),Int.tdiv n.y (g3 n),Int.tdiv n.z (g3 n)⟩ a=dot ⟨Int.tdiv n.x (g3 n),Int.tdiv n.y (g3 n),Int.tdiv n.z (g3 n)⟩ a:=by
      unfold Ea8
      simp only[lb3,Pb9]
      obtain⟨⟨a1,a2⟩,⟨a3,a4⟩,a5,a6⟩:=(Bd6 a).1 ha
      have r1:=mb q1.1 q1.2 a1 a2;have r2:=mb q2.1 q2.2 a3 a4;have r3:=mb q3.1 q3.2 a5 a6
      rw[Da8 (by omega) (by omega)]
      rfl
     rw[hdot]
     rfl
theorem Id1 (a b c:V3):ha6 a b c=be4 a b c:=by unfold ha6;rw[Dc1];rfl
theorem Kb1 (a b c:V3):ha7 a b c=true:=by unfold ha7;rw[Dc1];rfl
theorem be5 (l:List Int):Rd (one r1P) (eb1 l) (fun _=>True):=by
 unfold eb1
 simp only[n5,o7]
 obtain⟨v1,j1,e1,a1,b1,c1,d1⟩:=sa5 8 l 0 (by omega) (by omega) (by omega) (by omega)
 rw[e1]
 simp only
 obtain⟨v2,j2,e2,a2,b2,c2,d2⟩:=sa5 17 l j1 (by omega) (by omega) (by omega) (by omega)
 rw[e2]
 simp only
 obtain⟨x1,x2,x3,j3,e3,_,_,_,c3,d3⟩:=Zc7 8 l j2 (by omega) (by omega) (by omega) (by omega)
 rw[e3]
 simp only
 obtain⟨y1,y2,y3,j4,e4,_,_,_,c4,d4⟩:=Zc7 8 l j3 (by omega) (by omega) (by omega) (by omega)
 rw[e4]
 simp only
 obtain⟨z1,z2,z3,j5,e5,_,_,_,c5,d5⟩:=Zc7 8 l j4 (by omega) (by omega) (by omega) (by omega)
 rw[e5]
 simp only[Id1,Kb1,Dc0 _ (show (0:Int) < 3 by omega) (by omega),o7]
 simp only[Nat.beq_refl,Bool.and_true,p6]
 refine Rd.sl (fun _=>Rd.sl (fun _=>⟨_,_,rfl,rfl,trivial⟩) fun _=>?_) (fun _=>?_)
 ·exact Rd.sl (fun _=>⟨_,_,rfl,rfl,trivial⟩) fun _=>Rd.sl (fun _=>⟨_,_,rfl,rfl,trivial⟩) fun _=>⟨_,_,rfl,rfl,trivial⟩
 ·exact Rd.sl (fun _=>⟨_,_,rfl,rfl,trivial⟩) fun _=>Rd.sl (fun _=>⟨_,_,rfl,rfl,trivial⟩) fun _=>⟨_,_,rfl,rfl,trivial⟩
theorem be6 (l:List Int):ub8 l=true:=(be5 l).g
theorem be7 (p:Pln) (v:V3):Rd (one r1I) (eb2 p v) (fun _=>True):=by
 unfold eb2
 simp only[kd6,Rd6,p6]
 exact Rd.sl (fun _=>⟨_,_,rfl,rfl,trivial⟩) fun _=>Rd.sl (fun _=>⟨_,_,rfl,rfl,trivial⟩) fun _=>Rd.sl (fun _=>⟨_,_,rfl,rfl,trivial⟩) fun _=>Rd.sl (fun _=>⟨_,_,rfl,rfl,trivial⟩) fun _=>⟨_,_,rfl,rfl,trivial⟩
theorem Rd7 (p:Pln) (v:V3):vb1 p v=true:=(be7 p v).g
theorem we3 (P:na5) (hl:P.f9.length≤1000000000):∃ t s,lp (qa7 P) ⟨0⟩=(t,s)∧(t=1∨t=2∨t=3):=by
 obtain⟨l,x1,x2,x3,x4,x5,x6,x7,x8⟩:=P
 refine Da1 (step:=qa7 ⟨l,x1,x2,x3,x4,x5,x6,x7,x8⟩) (mk:=fun j (_:Unit)=>(⟨(j:Int)⟩:fa9)) l.length (fun _ _=>True) (fun t _=>t=1∨t=2∨t=3) hl (fun j a hj _=>?_) (fun j a hj _=>?_) 0 () trivial
 ·simp only[qa7,va1,Rd7,Int.toNat_natCast,q8 hj (show l.length≤4611686018427387904 from Nat.le_trans hl (by omega))]
  rw[btD (p4 hj),bt (g9 hj),p6]
  exact Nx.sl (fun _=>Nx.sl (fun _=>.ex (by simp)) fun _=>.nx ⟨(),rfl,trivial⟩) fun _=>.ex (by simp)
 ·simp only[qa7,va1]
  rw[bfD (by omega)]
  exact⟨_,rfl,by simp⟩
theorem we4 (l:List V3) (hl:l.length≤1000000000) (a c:Nat) (ha:a < l.length) (hc:c < a):∃ t s,lp (qa8 ⟨(a:Int),(c:Int)⟩) ⟨l,0⟩=(t,s)∧((t=1∨t=2)∧s.f9=l):=by
 refine Da1 (step:=qa8 ⟨(a:Int),(c:Int)⟩) (mk:=fun j (_:Unit)=>(⟨l,(j:Int)⟩:ga0)) c (fun _ _=>True) (fun t s=>(t=1∨t=2)∧s.f9=l) (by omega) (fun j x hj _=>?_) (fun j x hj _=>?_) 0 () trivial
 ·simp only[qa8,va2,Kb1,Int.toNat_natCast,n5,o7,q8 hj (show c≤4611686018427387904 by omega)]
  rw[btD (p4 hj),bt (g9 ha),bt (g9 (show c < l.length by omega)),bt (g9 (show j < l.length by omega)),p6]
  generalize hP:na5.mk _ _ _ _ _ _ _ _ _=P3
  obtain⟨t,s,h1,h2⟩:=we3 P3 (by subst hP;exact hl)
  rw[h1]
  rcases h2 with rfl | rfl | rfl
  ·exact .ex (by simp)
  ·exact .nx ⟨(),rfl,trivial⟩
  ·exact .nx ⟨(),rfl,trivial⟩
 ·simp only[qa8,va2]
  rw[bfD (by omega)]
  exact⟨_,rfl,by simp⟩
theorem we5 (l:List V3) (hl:l.length≤1000000000) (a:Nat) (ha:a < l.length):∃ t s,lp (qa9 ⟨(a:Int)⟩) ⟨l,0⟩=(t,s)∧((t=1∨t=2)∧s.f9=l):=by
 refine Da1 (step:=qa9 ⟨(a:Int)⟩) (mk:=fun j (_:Unit)=>(⟨l,(j:Int)⟩:ga1)) a (fun _ _=>True) (fun t s=>(t=1∨t=2)∧s.f9=l) (by omega) (fun j x hj _=>?_) (fun j x hj _=>?_) 0 () trivial
 ·simp only[qa9,va3,n5,o7,q8 hj (show a≤4611686018427387904 by omega)]
  obtain⟨t,s,h1,h2,h3⟩:=we4 l hl a j ha hj
  rw[btD (p4 hj),h1]
  rcases h2 with rfl | rfl
  ·exact .ex (by simp)
  ·exact .nx ⟨(),by rw[h3],trivial⟩
 ·simp only[qa9,va3]
  rw[bfD (by omega)]
  exact⟨_,rfl,by simp⟩
theorem jb3 (l:List V3) (hl:l.length≤1000000000):Rd (one r1B) (eb3 l) (fun _=>True):=by
 have key:∃ t s,lp (ra0 ⟨⟩) ⟨l,0⟩=(t,s)∧(t=1∨t=2):=by
  refine Da1 (step:=ra0 ⟨⟩) (mk:=fun j (_:Unit)=>(⟨l,(j:Int)⟩:ga2)) l.length (fun _ _=>True) (fun t s=>(t=1∨t=2)) hl (fun j x hj _=>?_) (fun j x hj _=>?_) 0 () trivial
  ·simp only[ra0,va4,n5,o7,q8 hj (show l.length≤4611686018427387904 by omega)]
   obtain⟨t,s,h1,h2,h3⟩:=we5 l hl j hj
   rw[btD (p4 hj),h1]
   rcases h2 with rfl | rfl
   ·exact .ex (by simp)
   ·exact .nx ⟨(),by rw[h3],trivial⟩
  ·simp only[ra0,va4]
   rw[bfD (by omega)]
   exact⟨_,rfl,by simp⟩
 obtain⟨t,s,h1,h2⟩:=key
 unfold eb3
 simp only[n5,o7]
 rw[h1]
 rcases h2 with rfl | rfl<;>exact⟨_,_,rfl,rfl,trivial⟩
theorem Rd8 (l:List V3) (hl:l.length≤1000000000):Na2 l=true:=(jb3 l hl).g
theorem vd8 (l:List V3) (hl:l.length≤1000000000):Rd (one r1I) (Ra7 l) (fun _=>True):=by
 have h:=bb4 (step:=va5 ⟨l⟩) (mk:=fun j=>(⟨(j:Int)⟩:T7)) (c:=fun v=>!inV v) (u:=1) (fin:=2) tV l hl
  (fun j hj=>by
   simp only[va5,pa3,Int.toNat_natCast,he8,Rd6,q8 hj (show l.length≤4611686018427387904 by omega)]
   rw[btD (p4 hj),bt (g9 hj),p6])
  (by simp only[va5,pa3];rw[bfD (Y2 (Nat.lt_irrefl _))]) 0 (Nat.zero_le _)
 unfold Ra7
 simp only[n5,o7,I0,Rd8 l hl]
 rw[show (⟨0⟩:T7)=⟨((0:Nat):Int)⟩ from rfl,h]
 refine Rd.sl (fun _=>⟨_,_,rfl,rfl,trivial⟩) fun _=>?_
 rw[List.drop_zero]
 cases l.any fun v=>!inV v with
 | true=>exact⟨_,_,rfl,rfl,trivial⟩
 | false =>
  show Rd (one r1I) (sl (eb4 l) (some (i 11,[])) (some (i 0,[]))) (fun _=>True)
  exact Rd.sl (fun _=>⟨_,_,rfl,rfl,trivial⟩) fun _=>⟨_,_,rfl,rfl,trivial⟩
theorem Id2 (l:List V3) (hl:l.length≤1000000000):Fb7 l=true:=(vd8 l hl).g
theorem Rd9 (p:Pln) (l:List V3) (hl:l.length≤1000000000):Rd (one r1B) (Ra8 p l) (fun _=>True):=by
 have h:=bb4 (step:=va6 ⟨l,p.n.x,p.n.y,p.n.z,p.b⟩) (mk:=fun j=>(⟨(j:Int)⟩:T8)) (c:=fun v=>decide (vb0 p v > 0)) (u:=1) (fin:=2) tV l hl
  (fun j hj=>by
   simp only[va6,pa4,Int.toNat_natCast,Rd7,q8 hj (show l.length≤4611686018427387904 by omega)]
   rw[btD (p4 hj),bt (g9 hj),p6])
  (by simp only[va6,pa4];rw[bfD (Y2 (Nat.lt_irrefl _))]) 0 (Nat.zero_le _)
 unfold Ra8
 simp only[n5,o7]
 rw[show (⟨0⟩:T8)=⟨((0:Nat):Int)⟩ from rfl,h]
 split<;>exact⟨_,_,rfl,rfl,trivial⟩
theorem be8 (p:Pln) (l:List V3) (hl:l.length≤1000000000):ga3 p l=true:=(Rd9 p l hl).g
theorem ne6 (p q:Pln):Rd (one r1I) (Ba6 p q) (fun _=>True):=by
 have key:∃ t s,lp (ba2 ⟨p.n.x,p.n.y,p.n.z,p.b,q.n.x,q.n.y,q.n.z,q.b⟩) ⟨0⟩=(t,s)∧(t=1∨t=2∨t=3):=by
  refine Da1 (step:=ba2 ⟨p.n.x,p.n.y,p.n.z,p.b,q.n.x,q.n.y,q.n.z,q.b⟩) (mk:=fun j (_:Unit)=>(⟨(j:Int)⟩:P4)) 4 (fun _ _=>True) (fun t s=>(t=1∨t=2∨t=3)) (by omega) (fun j x hj _=>?_) (fun j x hj _=>?_) 0 () trivial
  ·have hn:=q8 hj (show 4≤4611686018427387904 by omega)
   simp only[ba2,fa8,Int.toNat_natCast,hn]
   have hlt:(j:Int) < 4:=by omega
   have hin:=g9 hj
   have g:∀ x1 x2 x3 x4:Int,((Nat.ble ((0+(j*1))+1) 4)&&(J4 [(CK.int .i64)] (d8 [(i x1),(i x2),(i x3),(i x4)] (0+(j*1)))))=true:=by
    intro x1 x2 x3 x4
    match j,hj with
    | 0,_=>rfl
    | 1,_=>rfl
    | 2,_=>rfl
    | 3,_=>rfl
   rw[btD hlt]
   simp only[hin,g,p6]
   exact Nx.sl (fun _=>.ex (by simp)) fun _=>Nx.sl (fun _=>.ex (by simp)) fun _=>.nx ⟨(),rfl,trivial⟩
  ·simp only[ba2,fa8]
   rw[bfD (by omega)]
   exact⟨_,rfl,by simp⟩
 obtain⟨t,s,h1,h2⟩:=key
 unfold Ba6
 simp only
 rw[h1]
 rcases h2 with rfl | rfl | rfl<;>exact⟨_,_,rfl,rfl,trivial⟩
theorem ne7 (p q:Pln):nb2 p q=true:=(ne6 p q).g
theorem vd9 (l:List Pln) (n:Nat) (h:n≤l.length):k8 (fun k=>(fun k=>tP.row (gL tP l k)) (0+k)) (List.range (n - 0))=bL tP (l.take n):=by
 rw[← Oa9,m9,m9,List.length_take,Nat.min_eq_left h,Nat.sub_zero]
 apply List.map_congr_left
 intro k hk
 rw[List.mem_range] at hk
 show tP.row (gL tP l (0+k))=tP.row (gL tP (l.take n) k)
 congr 1
 simp[gL,List.getD_eq_getElem?_getD,List.getElem?_take,hk]
theorem wd0 (l:List Pln) (n:Nat):k8 (fun k=>(fun k=>tP.row (gL tP l k)) (n+k)) (List.range (l.length - n))=bL tP (l.drop n):=by
 rw[← Oa9,m9,m9,List.length_drop]
 apply List.map_congr_left
 intro k hk
 show tP.row (gL tP l (n+k))=tP.row (gL tP (l.drop n) k)
 rw[Zb7]
theorem bc2 (l:List Pln) (x1 x2 x3 x4:Int):app (bL tP l) [[i x1,i x2,i x3,i x4]]=bL tP (l++[⟨⟨x1,x2,x3⟩,x4⟩]):=Da7 tP l [⟨⟨x1,x2,x3⟩,x4⟩]
def Zc8 (x:List Pln) (y:Pln) (n:Nat):List Pln:=x.take n++(y::x.drop n)
theorem wb0 {l:List Pln} {n:Nat} {r:List (List b7)} {P:List Pln→Prop} (hn:n=l.length) (hr:r=bL tP l) (h:P l):Rd (one (r1L tP)) (some (.sl 0 0 n 0,[⟨50,4,r,true,false,0⟩])) P:=by
 subst hn hr
 exact⟨_,l,rfl,Rb9 l,h⟩
theorem Sd0 (x:List Pln) (y:Pln) (hx:x.length≤1000000):Rd (one (r1L tP)) (qb5 x y) (fun r=>r≠[]∧r.length≤x.length+1∧∀ p∈r,p=y∨p∈x):=by
 have h:=jb7 (step:=ya1 ⟨x,y.n.x,y.n.y,y.n.z,y.b⟩) (mk:=fun j=>(⟨(j:Int)⟩:ga4)) (c:=fun p=>!decide (Ba7 p y < 0)) (u:=1) (fin:=2) tP x (by omega)
  (fun j hj=>by
   simp only[ya1,Ca0,Int.toNat_natCast,ne7,q8 hj (show x.length≤4611686018427387904 by omega)]
   rw[btD (p4 hj),bt (g9 hj),p6]
   cases decide (Ba7 (gL tP x j) y < 0)<;>rfl)
  (by simp only[ya1,Ca0];rw[bfD (Y2 (Nat.lt_irrefl _))]) 0 (Nat.zero_le _)
 rw[List.drop_zero] at h
 have key:∃ t n,lp (ya1 ⟨x,y.n.x,y.n.y,y.n.z,y.b⟩) ⟨0⟩=(t,⟨((n:Nat):Int)⟩)∧(t=1∨t=2)∧n≤x.length:=by
  rw[show (⟨0⟩:ga4)=⟨((0:Nat):Int)⟩ from rfl,h]
  split
  ·exact⟨1,_,rfl,.inl rfl,by rw[Nat.zero_add];exact List.findIdx_le_length⟩
  ·exact⟨2,_,rfl,.inr rfl,Nat.le_refl _⟩
 obtain⟨t,n,h1,h2,h3⟩:=key
 have hlo:inB (n:Int) (x.length+1)=true:=g9 (by omega)
 have hd:(bL tP (x.take n)).length=n:=by rw[← l9,J8,List.length_take];omega
 have hmem:∀ p∈Zc8 x y n,p=y∨p∈x:=fun p hp=>by
  unfold Zc8 at hp
  rcases List.mem_append.1 hp with hp | hp
  ·exact .inr (List.mem_of_mem_take hp)
  ·rcases List.mem_cons.1 hp with hp | hp
   ·exact .inl hp
   ·exact .inr (List.mem_of_mem_drop hp)
 have hne:Zc8 x y n≠[]:=by unfold Zc8;simp
 have hlen:(Zc8 x y n).length=x.length+1:=by unfold Zc8;simp only[List.length_append,List.length_cons,List.length_take,List.length_drop];omega
 have lt:len (bL tP (x.take n))=n:=by rw[l9];exact hd
 have ld:len (bL tP (x.drop n))=x.length - n:=by rw[J8,List.length_drop]
 have b1:(Nat.beq 1 1&&Nat.ble ((1+(x.length - n))*32) room)=true:=by rw[da3 (by omega)];rfl
 have b2:(Nat.beq 0 0&&Nat.ble ((0+n)*32) room)=true:=by rw[da3 (by omega)];rfl
 have e0:app [] (bL tP (x.take n))=bL tP (x.take n):=rfl
 have b3:(Nat.beq (0+n) n&&Nat.ble (((0+n)+1)*32) room)=true:=by rw[da3 (by omega),Nat.zero_add,Nat.beq_refl];rfl
 have l3:len (bL tP (x.take n++[y]))=n+1:=by rw[J8,List.length_append,List.length_take];simp only[List.length_singleton];omega
 have b4:(Nat.beq ((0+n)+1) (n+1)&&Nat.ble ((((0+n)+1)+(x.length - n))*32) room)=true:=by rw[da3 (by omega),Nat.zero_add,Nat.beq_refl];rfl
 have z0:∀ {k:Nat},Nat.beq k 0=true→k=0:=fun {k} h=>Nat.eq_of_beq_eq_true h
 have fin:∀ m r,m=x.length+1→r=bL tP (Zc8 x y n)→Rd (one (r1L tP)) (some (.sl 0 0 m 0,[⟨50,4,r,true,false,0⟩])) (fun r=>r≠[]∧r.length≤x.length+1∧∀ p∈r,p=y∨p∈x) :=
  fun m r hm hr=>wb0 (by rw[hlen];exact hm) hr ⟨hne,by omega,hmem⟩
 have tail : Rd (one (r1L tP)) (sl (Nat.beq n 0) (sl (Nat.beq (x.length - n) 0) (some ((.sl 0 0 1 0), [⟨50, 4, [[(i y.n.x), (i y.n.y), (i y.n.z), (i y.b)]], true, false, 0⟩]))
   (some ((.sl 0 0 (1+(x.length - n)) 0),[⟨50,4,(app [[(i y.n.x),(i y.n.y),(i y.n.z),(i y.b)]] (bL tP (x.drop n))),true,false,0⟩])))
   (sl (Nat.beq (x.length - n) 0) (some ((.sl 0 0 ((0+n)+1) 0),[⟨50,4,bL tP (x.take n++[y]),true,false,0⟩]))
    (some ((.sl 0 0 (((0+n)+1)+(x.length - n)) 0),[⟨50,4,(app (bL tP (x.take n++[y])) (bL tP (x.drop n))),true,false,0⟩])))) (fun r=>r≠[]∧r.length≤x.length+1∧∀ p∈r,p=y∨p∈x):=by
  refine Rd.sl (fun q1=>Rd.sl (fun q2=>?_) (fun q2=>?_)) (fun q1=>Rd.sl (fun q2=>?_) (fun q2=>?_))
  ·have:=z0 q1;have:=z0 q2
   refine fin _ _ (by omega) ?_
   have:x=[]:=List.eq_nil_of_length_eq_zero (by omega)
   subst this
   rw[show n=0 by omega];rfl
  ·have:=z0 q1;subst this
   exact fin _ _ (by omega) rfl
  ·have:=z0 q2
   refine fin _ _ (by omega) ?_
   unfold Zc8
   rw[show x.drop n=[] from List.drop_eq_nil_of_le (by omega)]
  ·refine fin _ _ (by omega) ?_
   rw[Da7]
   unfold Zc8
   rw[List.append_assoc];rfl
 have same:∀ p:Pln,(p.n.x==y.n.x&&(p.n.y==y.n.y&&(p.n.z==y.n.z&&(p.b==y.b&&true))))=true→n < x.length→Rd (one (r1L tP)) (some (eL tP x,[])) (fun r=>r≠[]∧r.length≤x.length+1∧∀ p∈r,p=y∨p∈x):=fun p _ hn =>
  ⟨_,x,rfl,Ad6 tP x,List.ne_nil_of_length_pos (by omega),Nat.le_succ _,fun p hp=>Or.inr hp⟩
 unfold qb5
 simp only[n5,o7]
 rw[h1]
 simp only[Int.toNat_natCast,vd9 x n h3,wd0,lt,ld,b1,b2,e0,b3,bc2,l3,b4,hlo,p6]
 have main : Rd (one (r1L tP)) (sl (decide ((n : Int) < (x.length : Int))) (sl (inB (n : Int) x.length) (sl (((gL tP x n).n.x == y.n.x) && (((gL tP x n).n.y == y.n.y) && (((gL tP x n).n.z == y.n.z) && (((gL tP x n).b == y.b) && true)))) (some (eL tP x, []))
   (sl (Nat.beq n 0) (sl (Nat.beq (x.length - n) 0) (some ((.sl 0 0 1 0),[⟨50,4,[[(i y.n.x),(i y.n.y),(i y.n.z),(i y.b)]],true,false,0⟩]))
   (some ((.sl 0 0 (1+(x.length - n)) 0),[⟨50,4,(app [[(i y.n.x),(i y.n.y),(i y.n.z),(i y.b)]] (bL tP (x.drop n))),true,false,0⟩])))
   (sl (Nat.beq (x.length - n) 0) (some ((.sl 0 0 ((0+n)+1) 0),[⟨50,4,bL tP (x.take n++[y]),true,false,0⟩]))
    (some ((.sl 0 0 (((0+n)+1)+(x.length - n)) 0),[⟨50,4,(app (bL tP (x.take n++[y])) (bL tP (x.drop n))),true,false,0⟩]))))) none)
   (sl (Nat.beq n 0) (sl (Nat.beq (x.length - n) 0) (some ((.sl 0 0 1 0),[⟨50,4,[[(i y.n.x),(i y.n.y),(i y.n.z),(i y.b)]],true,false,0⟩]))
   (some ((.sl 0 0 (1+(x.length - n)) 0),[⟨50,4,(app [[(i y.n.x),(i y.n.y),(i y.n.z),(i y.b)]] (bL tP (x.drop n))),true,false,0⟩])))
   (sl (Nat.beq (x.length - n) 0) (some ((.sl 0 0 ((0+n)+1) 0),[⟨50,4,bL tP (x.take n++[y]),true,false,0⟩]))
    (some ((.sl 0 0 (((0+n)+1)+(x.length - n)) 0),[⟨50,4,(app (bL tP (x.take n++[y])) (bL tP (x.drop n))),true,false,0⟩]))))) (fun r=>r≠[]∧r.length≤x.length+1∧∀ p∈r,p=y∨p∈x):=by
  by_cases hn:n < x.length
  ·rw[btD (p4 hn),bt (g9 hn)]
   exact Rd.sl (fun q=>same _ q hn) fun _=>tail
  ·rw[bfD (Y2 hn)]
   exact tail
 rcases h2 with rfl | rfl
 ·exact main
 ·exact main
end Go.Ev.Ce
namespace Go.Ev.Ce
open Go Go.Ev Go.Ev.L Go.Proofs
theorem he9 (x:List Pln) (y:Pln) (hx:x.length≤1000000):ra1 x y=true:=(Sd0 x y hx).g
theorem ie0 (x:List Pln) (y:Pln) (hx:x.length≤1000000):I5 x y≠[]∧(I5 x y).length≤x.length+1∧∀ p∈I5 x y,p=y∨p∈x:=(Sd0 x y hx).p
structure Fc (ph:Nat) (out:List Pln) (m:Nat):Prop where
 h:(ph=0∧out=[])∨ph=1
 l:out.length≤m
theorem Fc.more {ph m m':Nat} {out:List Pln} (h:Fc ph out m) (hm:m≤m'):Fc ph out m':=⟨h.h,Nat.le_trans h.l hm⟩
theorem be9 (l : List V3) (hl : l.length ≤ 48) (a c : Nat) (ha : a < l.length) (hc : c < a) (h0 : Nat) (out : List Pln) (m : Nat) (hm : m ≤ 900000) (hf : Fc h0 out m) :
  ∃ t s,lp (va7 ⟨l,(a:Int),(c:Int)⟩) ⟨h0,0,out⟩=(t,s)∧(t=s.ph+1∧Fc s.ph s.da1 (m+100)):=by
 refine Da1 (step:=va7 ⟨l,(a:Int),(c:Int)⟩) (mk:=fun j (x:Nat×List Pln)=>(⟨x.1,(j:Int),x.2⟩:E6)) c (fun j x=>Fc x.1 x.2 (m+2*j)∧j≤48) (fun t s=>t=s.ph+1∧Fc s.ph s.da1 (m+100)) (by omega) (fun j x hj hx=>?_) (fun j x hj hx=>?_) 0 (h0,out) ⟨hf,by omega⟩
 ·obtain⟨h,o⟩:=x
  obtain⟨⟨hx,hx2⟩,_⟩:=hx
  have hn:=q8 hj (show c≤4611686018427387904 by omega)
  have hh:∀ p,ga3 p l=true:=fun p=>be8 p l (by omega)
  have hg1:∀ y,ra1 o y=true:=fun y=>he9 o y (by simp only at hx2;omega)
  have hp1:∀ y,I5 o y≠[]∧(I5 o y).length≤o.length+1:=fun y=>by have:=ie0 o y (by simp only at hx2;omega);exact⟨this.1,this.2.1⟩
  have hg2:∀ y z,ra1 (I5 o y) z=true:=fun y z=>he9 _ z (by have:=(hp1 y).2;simp only at hx2;omega)
  have hp2:∀ y z,(I5 (I5 o y) z).length≤o.length+2:=fun y z=>by
   have:=(ie0 (I5 o y) z (by have:=(hp1 y).2;simp only at hx2;omega)).2.1
   have:=(hp1 y).2
   omega
  simp only at hx hx2
  have stay:Fc h o (m+2*(j+1))∧j+1≤48:=⟨⟨hx,by omega⟩,by omega⟩
  have put1:∀ y,Fc 1 (I5 o y) (m+2*(j+1))∧j+1≤48:=fun y=>⟨⟨.inr rfl,by have:=(hp1 y).2;omega⟩,by omega⟩
  have put2:∀ y z,Fc 1 (I5 (I5 o y) z) (m+2*(j+1))∧j+1≤48:=fun y z=>⟨⟨.inr rfl,by have:=hp2 y z;omega⟩,by omega⟩
  rcases hx with⟨rfl,rfl⟩ | rfl
  ·show Nx (X2 Stp.next Stp.exit Stp.fail _ _) _ _
   simp only[X2,Kb1,Int.toNat_natCast,n5,I0,hh,hg1,hg2,hn]
   rw[btD (p4 hj),bt (g9 ha),bt (g9 (show c < l.length by omega)),bt (g9 (show j < l.length by omega))]
   simp only[p6]
   refine Nx.sl (fun _=>.nx ⟨(0,[]),rfl,stay⟩) fun _=>Nx.sl (fun _=>Nx.sl (fun _=>.nx ⟨(1,_),rfl,put2 _ _⟩) fun _=>.nx ⟨(1,_),rfl,put1 _⟩) fun _=>Nx.sl (fun _=>.nx ⟨(1,_),rfl,put1 _⟩) fun _=>.nx ⟨(0,[]),rfl,stay⟩
  ·show Nx (X3 Stp.next Stp.exit Stp.fail _ _) _ _
   simp only[X3,Kb1,Int.toNat_natCast,n5,I0,hh,hg1,hg2,hn]
   rw[btD (p4 hj),bt (g9 ha),bt (g9 (show c < l.length by omega)),bt (g9 (show j < l.length by omega))]
   simp only[p6]
   refine Nx.sl (fun _=>.nx ⟨(1,o),rfl,stay⟩) fun _=>Nx.sl (fun _=>Nx.sl (fun _=>.nx ⟨(1,_),rfl,put2 _ _⟩) fun _=>.nx ⟨(1,_),rfl,put1 _⟩) fun _=>Nx.sl (fun _=>.nx ⟨(1,_),rfl,put1 _⟩) fun _=>.nx ⟨(1,o),rfl,stay⟩
 ·obtain⟨h,o⟩:=x
  obtain⟨⟨hx,hx2⟩,h48⟩:=hx
  simp only at hx hx2
  rcases hx with⟨rfl,rfl⟩ | rfl
  ·refine⟨1,?_,rfl,⟨.inl ⟨rfl,rfl⟩,by show 0≤_;omega⟩⟩
   show X2 Stp.next Stp.exit Stp.fail _ _=_
   simp only[X2]
   rw[bfD (by omega)]
  ·refine⟨2,?_,rfl,⟨.inr rfl,by show o.length≤_;omega⟩⟩
   show X3 Stp.next Stp.exit Stp.fail _ _=_
   simp only[X3]
   rw[bfD (by omega)]
theorem ce0 (l : List V3) (hl : l.length ≤ 48) (a : Nat) (ha : a < l.length) (h0 : Nat) (out : List Pln) (m : Nat) (hm : m ≤ 800000) (hf : Fc h0 out m) :
  ∃ t s,lp (va8 ⟨(a:Int)⟩) ⟨h0,l,0,out⟩=(t,s)∧(t=s.ph+1∧Fc s.ph s.da1 (m+5000)∧s.f9=l):=by
 refine Da1 (step:=va8 ⟨(a:Int)⟩) (mk:=fun j (x:Nat×List Pln)=>(⟨x.1,l,(j:Int),x.2⟩:E7)) a (fun j x=>Fc x.1 x.2 (m+100*j)∧j≤48) (fun t s=>t=s.ph+1∧Fc s.ph s.da1 (m+5000)∧s.f9=l) (by omega) (fun j x hj hx=>?_) (fun j x hj hx=>?_) 0 (h0,out) ⟨hf,by omega⟩
 ·obtain⟨h,o⟩:=x
  obtain⟨hx,_⟩:=hx
  have hn:=q8 hj (show a≤4611686018427387904 by omega)
  simp only at hx
  obtain⟨t,s,e1,e2,e3⟩:=be9 l hl a j ha hj h o (m+100*j) (by omega) hx
  obtain⟨s1,s2,s3⟩:=s
  simp only at e2 e3
  have go:Fc s1 s3 (m+100*(j+1))∧j+1≤48:=⟨e3.more (by omega),by omega⟩
  rcases hx.h with⟨rfl,rfl⟩ | rfl
  ·show Nx (X4 Stp.next Stp.exit Stp.fail _ _) _ _
   simp only[X4,n5,o7,hn]
   rw[btD (p4 hj),e1,e2]
   rcases e3.h with⟨rfl,rfl⟩ | rfl
   ·exact .nx ⟨(0,[]),rfl,go⟩
   ·exact .nx ⟨(1,s3),rfl,go⟩
  ·show Nx (X5 Stp.next Stp.exit Stp.fail _ _) _ _
   simp only[X5,n5,o7,hn]
   rw[btD (p4 hj),e1,e2]
   rcases e3.h with⟨rfl,rfl⟩ | rfl
   ·exact .nx ⟨(0,[]),rfl,go⟩
   ·exact .nx ⟨(1,s3),rfl,go⟩
 ·obtain⟨h,o⟩:=x
  obtain⟨hx,h48⟩:=hx
  simp only at hx
  have h2:=hx.more (show m+100*j≤m+5000 by omega)
  rcases hx.h with⟨rfl,rfl⟩ | rfl
  ·refine⟨1,?_,rfl,h2,rfl⟩
   show X4 Stp.next Stp.exit Stp.fail _ _=_
   simp only[X4]
   rw[bfD (by omega)]
  ·refine⟨2,?_,rfl,h2,rfl⟩
   show X5 Stp.next Stp.exit Stp.fail _ _=_
   simp only[X5]
   rw[bfD (by omega)]
theorem ce1 (l : List V3) (hl : l.length ≤ 48) :
  ∃ t s,lp (Ja5 ⟨⟩) ⟨0,l,0,[]⟩=(t,s)∧(t=s.ph+1∧Fc s.ph s.da1 250000):=by
 refine Da1 (step:=Ja5 ⟨⟩) (mk:=fun j (x:Nat×List Pln)=>(⟨x.1,l,(j:Int),x.2⟩:H8)) l.length (fun j x=>Fc x.1 x.2 (5000*j)∧j≤48) (fun t s=>t=s.ph+1∧Fc s.ph s.da1 250000) (by omega) (fun j x hj hx=>?_) (fun j x hj hx=>?_) 0 (0,[]) ⟨⟨.inl ⟨rfl,rfl⟩,Nat.le_refl _⟩,by omega⟩
 ·obtain⟨h,o⟩:=x
  obtain⟨hx,_⟩:=hx
  have hn:=q8 hj (show l.length≤4611686018427387904 by omega)
  simp only at hx
  obtain⟨t,s,e1,e2,e3,e4⟩:=ce0 l hl j hj h o (5000*j) (by omega) hx
  obtain⟨s1,s2,s3,s4⟩:=s
  simp only at e2 e3 e4
  subst e4
  have go:Fc s1 s4 (5000*(j+1))∧j+1≤48:=⟨e3.more (by omega),by omega⟩
  rcases hx.h with⟨rfl,rfl⟩ | rfl
  ·show Nx (X6 Stp.next Stp.exit Stp.fail ⟨⟩ _) _ _
   simp only[X6,n5,o7,hn]
   rw[btD (p4 hj),e1,e2]
   rcases e3.h with⟨rfl,rfl⟩ | rfl
   ·exact .nx ⟨(0,[]),rfl,go⟩
   ·exact .nx ⟨(1,s4),rfl,go⟩
  ·show Nx (X7 Stp.next Stp.exit Stp.fail ⟨⟩ _) _ _
   simp only[X7,n5,o7,hn]
   rw[btD (p4 hj),e1,e2]
   rcases e3.h with⟨rfl,rfl⟩ | rfl
   ·exact .nx ⟨(0,[]),rfl,go⟩
   ·exact .nx ⟨(1,s4),rfl,go⟩
 ·obtain⟨h,o⟩:=x
  obtain⟨hx,h48⟩:=hx
  simp only at hx
  have h2:=hx.more (show 5000*j≤250000 by omega)
  rcases hx.h with⟨rfl,rfl⟩ | rfl
  ·refine⟨1,?_,rfl,h2⟩
   show X6 Stp.next Stp.exit Stp.fail ⟨⟩ _=_
   simp only[X6]
   rw[bfD (by omega)]
  ·refine⟨2,?_,rfl,h2⟩
   show X7 Stp.next Stp.exit Stp.fail ⟨⟩ _=_
   simp only[X7]
   rw[bfD (by omega)]
theorem ne8 (l:List Pln) (n:Int):(two (r1L tP) r1I).rd (.tup [eL tP l,i n],[])=some (l,n):=by
 have h:(r1L tP).rd [] (eL tP l)=some l:=by
  show Bool.rec (motive:=fun _=>Option (List Pln)) none (some (rt tP l)) (Bool.and (Nat.beq tP.es tP.es) (okE tP l))=_
  rw[n5,I0,Nat.beq_refl]
  rfl
 simp only[two,h]
 rfl
theorem nd5 (l:List V3) (hl:l.length≤48):Rd (two (r1L tP) r1I) (Sa1 l) (fun r=>r.1.length≤250000):=by
 obtain⟨t,s,e1,e2,e3⟩:=ce1 l hl
 unfold Sa1
 simp only[n5,o7,I0,Id2 l (show l.length≤1000000000 by omega),p6]
 refine Rd.sl (fun _=>⟨_,([],Fb6 l),rfl,rfl,Nat.zero_le _⟩) fun _=>?_
 rw[e1,e2]
 obtain⟨s1,s2,s3,s4⟩:=s
 simp only at e3 ⊢
 rcases e3.h with⟨rfl,rfl⟩ | rfl
 ·exact⟨_,([],0),rfl,rfl,Nat.zero_le _⟩
 ·exact⟨_,(s4,0),rfl,ne8 s4 0,e3.l⟩
theorem ce2 (l:List V3) (hl:l.length≤48):Fa4 l=true:=(nd5 l hl).g
theorem ce3 (l:List V3) (hl:l.length≤48):(kb1 l).1.length≤250000:=(nd5 l hl).p
def phV (out:List V3):Nat:=match out with
 | []=>0
 | _::_=>1
theorem ce4 (out:List V3) (x:V3):phV (out++[x])=1:=by cases out<;>rfl
theorem nd6 (l:List V3) (x1 x2 x3:Int):app (bL tV l) [[i x1,i x2,i x3]]=bL tV (l++[⟨x1,x2,x3⟩]):=Da7 tV l [⟨x1,x2,x3⟩]
theorem we6 {l:List V3} {m:Nat} (h:m < l.length):(((Nat.blt (0+m) (len (bL tV l)))&&(Nat.ble (0+3) (len (d9 (bL tV l) (0+m)))))&&(J4 [(CK.int .i64),(CK.int .i64),(CK.int .i64)] (d8 (d9 (bL tV l) (0+m)) 0)))=true:=by
 rw[Nat.zero_add,S5 tV h,J8,show Nat.blt m l.length=true from by rw[Nat.blt_eq];exact h]
 rfl
theorem we7 {l:List V3} {m:Nat} (h:m < l.length):(((Nat.blt (0+m) (len (bL tV l)))&&(Nat.ble (2+1) (len (d9 (bL tV l) (0+m)))))&&(J4 [(CK.int .i64)] (d8 (d9 (bL tV l) (0+m)) 2)))=true:=by
 rw[Nat.zero_add,S5 tV h,J8,show Nat.blt m l.length=true from by rw[Nat.blt_eq];exact h]
 rfl
theorem we8 {n:Nat} {l:List V3} (hn:l.length=n) (h:n≤1000000000):(Nat.beq n (len (bL tV l))&&Nat.ble ((n+1)*24) room)=true:=by
 subst hn
 rw[J8,Nat.beq_refl,Bool.true_and,Nat.ble_eq]
 unfold room
 omega
theorem ce5 (x : List Int) (N : Nat) (h4 : 4 ≤ N) (h8 : N ≤ 8) (j0 : Int) (hj0 : 0 ≤ j0 ∧ j0 ≤ 10) :
  ∃ idx out,lp (Da0 ⟨(N:Int)⟩) ⟨0,0,x,j0,0,[]⟩=(2,⟨1,(N:Int),x,idx,N,bL tV out⟩)∧out.length=N:=by
 have key:=Da1 (step:=Da0 ⟨(N:Int)⟩) (mk:=fun j (a:Int×List V3)=>(⟨phV a.2,(j:Int),x,a.1,a.2.length,bL tV a.2⟩:A3)) N
  (fun j a=>a.2.length=j∧0≤a.1∧a.1≤10+4*j∧j≤N) (fun t s=>t=2∧∃ idx out,s=⟨1,(N:Int),x,idx,N,bL tV out⟩∧out.length=N) (by omega) (fun j a hj ha=>?_) (fun j a hj ha=>?_) 0 (j0,[]) ⟨rfl,hj0.1,by omega,by omega⟩
 ·obtain⟨t,s,e1,rfl,idx,out,e2,e3⟩:=key
  exact⟨idx,out,by rw[← e2];exact e1,e3⟩
 ·obtain⟨at0,out⟩:=a
  obtain⟨ho,ha1,ha2,_⟩:=ha
  simp only at ho ha1 ha2
  have hn:=q8 hj (show N≤4611686018427387904 by omega)
  obtain⟨v1,j1,d1,_,_,c1,b1⟩:=sa5 17 x at0 ha1 (by omega) (by omega) (by omega)
  obtain⟨v2,j2,d2,_,_,c2,b2⟩:=sa5 17 x j1 (by omega) (by omega) (by omega) (by omega)
  obtain⟨v3,j3,d3,_,_,c3,b3⟩:=sa5 17 x j2 (by omega) (by omega) (by omega) (by omega)
  obtain⟨v4,j4,d4,_,_,c4,b4⟩:=sa5 6 x j3 (by omega) (by omega) (by omega) (by omega)
  have leaf : ∀ (E : Nat → Prop) (x1 x2 x3 : Int), Nx (.next (⟨1, ((j + 1 : Nat) : Int), x, j4, j + 1, bL tV (out ++ [⟨x1, x2, x3⟩])⟩ : A3)) E
    (fun s=>∃ a':Int×List V3,s=⟨phV a'.2,((j+1:Nat):Int),x,a'.1,a'.2.length,bL tV a'.2⟩∧a'.2.length=j+1∧0≤a'.1∧a'.1≤10+4*((j+1:Nat):Int)∧j+1≤N):=fun E x1 x2 x3=>by
   have hl:(out++[(⟨x1,x2,x3⟩:V3)]).length=j+1:=by simp[ho]
   exact .nx ⟨(j4,out++[⟨x1,x2,x3⟩]),by simp only[ce4,hl],hl,by show 0≤j4;omega,by show j4≤_;omega,by omega⟩
  cases out with
  | nil =>
   have hj0':j=0:=by simpa using ho.symm
   subst hj0'
   show Nx (ka9 Stp.next Stp.exit Stp.fail _ _) _ _
   simp only[ka9,n5,o7,d1,d2,d3,d4,hn]
   rw[btD (p4 hj)]
   have f1:decide (((0:Nat):Int) > 1)=false:=rfl
   have f2:decide (((0:Nat):Int) > 0)=false:=rfl
   have f3:decide (((0:Nat):Int) > 2)=false:=rfl
   have lf:∀ (E:Nat→Prop) (x1 x2 x3:Int),Nx (.next (⟨1,((0+1:Nat):Int),x,j4,1,[[i x1,i x2,i x3]]⟩:A3)) E _:=leaf
   simp only[f1,f2,f3,Aa0,Nat.beq_refl,Bool.and_true,p6]
   refine Nx.sl (fun _=>?_) (fun _=>?_)<;>refine Nx.sl (fun _=>?_) (fun _=>?_)
   all_goals first
    | exact lf _ _ _ _
    | (refine Nx.sl (fun _=>?_) (fun _=>?_)<;>exact lf _ _ _ _)
  | cons o os =>
   have h1:1≤j:=by simp only[List.length_cons] at ho;omega
   generalize hO:o::os=O at *
   have hph:phV O=1:=by subst hO;rfl
   have w1:W ((j:Int) - 1)=((j - 1:Nat):Int):=by rw[Da8 (by omega) (by omega)];omega
   have i1:inB ((j - 1:Nat):Int) j=true:=g9 (by omega)
   have r1:=we6 (l:=O) (m:=j - 1) (by omega)
   have r1':=we7 (l:=O) (m:=j - 1) (by omega)
   have rr:=we8 ho (by omega)
   have f2:∀ {inst:Decidable ((j:Int) > 0)},@decide ((j:Int) > 0) inst=true:=decide_eq_true (by omega)
   show Nx (sel (Nat.beq (phV O) 1) (I6 Stp.next Stp.exit Stp.fail _ _) _) _ _
   rw[hph]
   show Nx (I6 Stp.next Stp.exit Stp.fail _ _) _ _
   by_cases h2:2≤j
   ·have w2:W ((j:Int) - 2)=((j - 2:Nat):Int):=by rw[Da8 (by omega) (by omega)];omega
    have i2:inB ((j - 2:Nat):Int) j=true:=g9 (by omega)
    have r2:=we6 (l:=O) (m:=j - 2) (by omega)
    simp only[I6,n5,o7,d1,d2,d3,d4,hn,ho,w1,w2,i1,i2,Int.toNat_natCast,r1,r1',r2,rr,nd6]
    rw[btD (p4 hj)]
    simp only[Nat.beq_refl,Bool.and_true,p6]
    repeat' (first | exact leaf _ _ _ _ | refine Nx.sl (fun _=>?_) (fun _=>?_))
   ·have hj1:j=1:=by omega
    subst hj1
    simp only[I6,n5,o7,d1,d2,d3,d4,hn,ho,w1,i1,Int.toNat_natCast,r1,r1',rr,nd6]
    have f1:decide (((1:Nat):Int) > 1)=false:=rfl
    rw[btD (p4 hj)]
    simp only[f1,Aa0,Nat.beq_refl,Bool.and_true,p6]
    repeat' (first | exact leaf _ _ _ _ | refine Nx.sl (fun _=>?_) (fun _=>?_))
 ·obtain⟨at0,out⟩:=a
  obtain⟨ho,ha1,ha2,hjN⟩:=ha
  simp only at ho ha1 ha2
  have hj':j=N:=by omega
  subst hj'
  cases out with
  | nil=>simp only[List.length_nil] at ho;omega
  | cons o os =>
   refine⟨2,?_,rfl,at0,o::os,by rw[ho];rfl,ho⟩
   show I6 Stp.next Stp.exit Stp.fail _ _=_
   simp only[I6]
   rw[bfD (by omega)]
theorem Sd1 {l:List V3} {n:Nat} {r:List (List b7)} {P:List V3→Prop} (hn:n=l.length) (hr:r=bL tV l) (h:P l):Rd (one (r1L tV)) (some (.sl 0 0 n 0,[⟨36,3,r,true,false,0⟩])) P:=by
 subst hn hr
 refine⟨_,l,rfl,?_,h⟩
 show Bool.rec (motive:=fun _=>Option (List V3)) none (some (slR tV (bL tV l) 0 l.length)) (Bool.and true (okS tV (bL tV l) 0 l.length))=_
 rw[Cb0,Cb1]
 rfl
theorem Rc1 (x:List Int):Rd (one (r1L tV)) (Ja6 x) (fun r=>4≤r.length∧r.length≤8):=by
 obtain⟨v,j,e1,a1,b1,c1,d1⟩:=sa5 5 x 0 (by omega) (by omega) (by omega) (by omega)
 have hN:W (4+v)=(((4+v).toNat:Nat):Int):=by rw[Da8 (by omega) (by omega)];omega
 obtain⟨idx,out,e2,e3⟩:=ce5 x (4+v).toNat (by omega) (by omega) j (by omega)
 unfold Ja6
 simp only[n5,o7,e1,hN,e2]
 have h4:4≤(4+v).toNat:=by omega
 have h8:(4+v).toNat≤8:=by omega
 generalize (4+v).toNat=N at *
 have s1:lsL tV N (fun k=>d9 (bL tV out) (0+k))=out:=by rw[← e3];exact Cb0 tV out
 have s2:okL tV N (fun k=>d9 (bL tV out) (0+k))=true:=by rw[← e3];exact Cb1 tV out
 have gf:Na2 out=true:=Rd8 out (by omega)
 rw[s1,s2,gf]
 simp only[Nat.beq_refl,Bool.and_true,p6,show Nat.beq 2 1=false from rfl,Aa0]
 refine Rd.sl (fun _=>?_) fun _=>Sd1 e3.symm rfl ⟨by omega,by omega⟩
 have i0:inB 0 N=true:=g9 (j:=0) (by omega)
 have i1:inB 1 N=true:=g9 (j:=1) (by omega)
 have i2:inB 2 N=true:=g9 (j:=2) (by omega)
 have i3:inB 3 N=true:=g9 (j:=3) (by omega)
 have sp:∀ (v:V3) (x1 x2 x3:Int),J5 (tV.row v) 0 [i x1,i x2,i x3]=tV.row ⟨x1,x2,x3⟩:=fun _ _ _ _=>rfl
 have rl:∀ v:V3,Nat.ble (0+3) (len (tV.row v))=true:=fun _=>rfl
 have ck:∀ v:V3,J4 [(CK.int .i64),(CK.int .i64),(CK.int .i64)] (d8 (tV.row v) 0)=true:=fun _=>rfl
 have gr:∀ (l:List V3) (k:Nat),l.length=N→k < 4→d9 (bL tV l) k=tV.row (gL tV l k):=fun l k hl hk=>S5 tV (by omega)
 have bl:∀ (l:List V3) (k:Nat),l.length=N→k < 4→Nat.blt k (len (bL tV l))=true:=fun l k hl hk=>by rw[J8,Nat.blt_eq];omega
 have ls:∀ (l:List V3) (k:Nat) (v:V3),l.length=N→(l.set k v).length=N:=fun l k v hl=>by rw[List.length_set];exact hl
 rw[gr out 0 e3 (by omega),gr out 1 e3 (by omega)]
 simp only[sp,ob9]
 rw[gr _ 2 (ls out 1 _ e3) (by omega)]
 simp only[sp,ob9]
 rw[gr _ 3 (ls _ 2 _ (ls out 1 _ e3)) (by omega)]
 simp only[sp,ob9,rl,ck,i0,i1,i2,i3,bl out 0 e3 (by omega),bl out 1 e3 (by omega),bl _ 2 (ls out 1 _ e3) (by omega),bl _ 3 (ls _ 2 _ (ls out 1 _ e3)) (by omega),Bool.and_true,p6]
 exact Sd1 (by simp only[List.length_set];omega) rfl (by simp only[List.length_set];omega)
theorem Sd2 (x:List Int):Ja7 x=true:=(Rc1 x).g
theorem Sd3 (x:List Int):4≤(na6 x).length∧(na6 x).length≤8:=(Rc1 x).p
end Go.Ev.Ce
namespace Go.Ev.Ce
open Go Go.Ev Go.Ev.L Go.Proofs
theorem Sd4 {l:List Pln} {P:List Pln→Prop} (h:P l):Rd (one (r1L tP)) (some (eL tP l,[])) P:=⟨_,l,rfl,Ad6 tP l,h⟩
theorem Bd8 (x:List Int):Rd (one (r1L tP)) (eb6 x) (fun r=>r.length≤250000):=by
 obtain⟨v1,j1,e1,a1,b1,c1,d1⟩:=sa5 4 x 0 (by omega) (by omega) (by omega) (by omega)
 obtain⟨w1,w2,w3,j2,e2,p1,p2,p3,c2,d2⟩:=Zc7 6 x j1 (by omega) (by omega) (by omega) (by omega)
 obtain⟨v3,j3,e3,a3,b3,c3,d3⟩:=sa5 6 x j2 (by omega) (by omega) (by omega) (by omega)
 obtain⟨v4,j4,e4,a4,b4,c4,d4⟩:=sa5 6 x j3 (by omega) (by omega) (by omega) (by omega)
 obtain⟨v5,j5,e5,a5,b5,c5,d5⟩:=sa5 6 x j4 (by omega) (by omega) (by omega) (by omega)
 have hin:inB (if 7 < (x.length:Int) then 7 else (x.length:Int)) (x.length+1)=true:=by
  rw[rc4]
  apply decide_eq_true
  split<;>omega
 have hok:∀ n m,okL tI n (fun k=>(fun k=>tI.row (gL tI x k)) (m+k))=true:=fun n m=>lb2 tI (f:=fun k=>gL tI x (m+k)) fun _ _=>rfl
 unfold eb6
 simp only[n5,o7,I0,e1,e2,e3,e4,e5,he3,he4,hin,hok,Oa9,be6,Sd2,Nat.beq_refl,Bool.and_true,p6]
 generalize hL:lsL tI _ _=L
 generalize hB:Pd9 _ _=B
 have hB6:B.length=6:=by rw[← hB];rfl
 have hl6:len (bL tP B)=6:=by rw[J8,hB6]
 have ea:app [] (bL tP B)=bL tP B:=rfl
 have es:∀ q:Pln,slR tP (bL tP (B++[q])) 0 (0+6+1)=B++[q]:=fun q=>by
  have:=Cb0 tP (B++[q])
  rw[List.length_append,hB6] at this
  exact this
 have eo:∀ q:Pln,okS tP (bL tP (B++[q])) 0 (0+6+1)=true:=fun q=>by
  have:=Cb1 tP (B++[q])
  rw[List.length_append,hB6] at this
  exact this
 have gF:∀ q:Pln,Ea1 (B++[q])=true:=fun q=>Bd1 (by rw[List.length_append,hB6];exact (by decide:6+1≤1000000000))
 have q1:Nat.ble ((0+6)*32) room=true:=da3 (by omega)
 have q2:Nat.ble (((0+6)+1)*32) room=true:=da3 (by omega)
 have q3:Nat.beq (0+6) 6=true:=rfl
 have hp:=Sd3 L
 have gf:Fa4 (na6 L)=true:=ce2 _ (by omega)
 have pf:=ce3 (na6 L) (by omega)
 simp only[hl6,ea,bc2,es,eo,gF,q1,q2,q3,Bool.and_self,gf,p6,show Nat.beq 6 0=false from rfl,Aa0]
 have box:Rd (one (r1L tP)) (some (eL tP B,[])) (fun r=>r.length≤250000):=Sd4 (by rw[hB6];omega)
 have fcs:Rd (one (r1L tP)) (some (eL tP (kb1 (na6 L)).1,[])) (fun r=>r.length≤250000):=Sd4 pf
 exact Rd.sl (fun _=>Rd.sl (fun _=>wb0 (by rw[List.length_append,hB6];rfl) rfl (by rw[List.length_append,hB6];exact (by decide:6+1≤250000))) fun _=>Rd.sl (fun _=>Rd.sl (fun _=>fcs) fun _=>box) fun _=>box) fun _=>Rd.sl (fun _=>Rd.sl (fun _=>fcs) fun _=>box) fun _=>box
theorem Sd5 (x:List Int):vb6 x=true:=(Bd8 x).g
theorem wd1 (x:List Int):(F5 x).length≤250000:=(Bd8 x).p
theorem bc3 {l:List Pln} {k:Nat} (h:k < l.length):ldR tP (bL tP l) (0+k)=true:=by rw[Nat.zero_add];exact Uc5 tP h
theorem Kb2 {l:List Pln} {k:Nat} (h:k < l.length):rdR tP (bL tP l) (0+k)=gL tP l k:=by rw[Nat.zero_add];exact Uc4 tP h
theorem Sd6 {l:List Pln} {n:Nat} {r:List (List b7)} {P:List Pln→Prop} (hn:n≤l.length) (hr:r=bL tP l) (h:P (l.take n)):Rd (one (r1L tP)) (some (.sl 0 0 n 0,[⟨50,4,r,true,false,0⟩])) P:=by
 subst hr
 have e1:slR tP (bL tP l) 0 n=l.take n:=vc8 tP (by rw[List.length_take];omega) fun k hk=>by
  rw[Nat.zero_add,S5 tP (by omega)]
  congr 1
  simp[gL,List.getD_eq_getElem?_getD,List.getElem?_take,hk]
 have e2:okS tP (bL tP l) 0 n=true:=lb2 tP (f:=fun k=>gL tP l k) fun k hk=>by rw[Nat.zero_add,S5 tP (by omega)]
 refine⟨_,l.take n,rfl,?_,h⟩
 show Bool.rec (motive:=fun _=>Option (List Pln)) none (some (slR tP (bL tP l) 0 n)) (Bool.and true (okS tP (bL tP l) 0 n))=_
 rw[e1,e2]
 rfl
theorem Sd7 (k:Nat) (l:List Pln) (hk:k < l.length):∃ s:na0,lp (Ja9 ⟨(k:Int)⟩) ⟨l.length,bL tP l⟩=(1,s)∧∃ out:List Pln,s=⟨out.length,bL tP out⟩∧out.length≤l.length+49:=by
 have key:=Cb4 (step:=Ja9 ⟨(k:Int)⟩) (I:=fun m s=>∃ out:List Pln,s=⟨out.length,bL tP out⟩∧k < out.length∧(out.length≤49∨out=l)∧m=49 - out.length) (Q:=fun t s=>t=1∧∃ out:List Pln,s=⟨out.length,bL tP out⟩∧out.length≤l.length+49) (fun m s ⟨out,hs,hk,ho,hm⟩=>by
  subst hs
  simp only[Ja9,Oa3,Int.toNat_natCast,bc3 hk,Kb2 hk,g9 hk,p6,bc2]
  by_cases h:(out.length:Int)≤48
  ·rw[btD h,J8,Nat.beq_refl,da3 (by omega)]
   refine .inr ⟨_,49 - (out.length+1),by omega,rfl,out++[gL tP out k],by rw[List.length_append];rfl,by rw[List.length_append];omega,.inl (by rw[List.length_append];simp only[List.length_singleton];omega),by rw[List.length_append];rfl⟩
  ·rw[bfD h]
   exact .inl ⟨1,rfl,rfl,out,rfl,by rcases ho with ho | rfl<;>omega⟩) (49 - l.length) ⟨l.length,bL tP l⟩ (by omega) ⟨l,rfl,hk,.inr rfl,rfl⟩
 exact⟨_,Prod.ext key.1 rfl,key.2⟩
theorem ne9 (p:Pln) (v:V3):Rd (one r1P) (qb4 p v) (fun _=>True):=by
 have h1:=Int.emod_nonneg v.z (show (9:Int)≠0 by omega)
 have h2:=Int.emod_lt_of_pos v.z (show (0:Int) < 9 by omega)
 unfold qb4
 simp only[Dc0 _ (show (0:Int) < 9 by omega) (by omega),Dc0 _ (show (0:Int) < 5 by omega) (by omega),Bd3 _ (show (0:Int) < 9 by omega) (by omega),Bd3 _ (show (0:Int) < 5 by omega) (by omega)]
 have hin:inB (v.z % 9) 9=true:=by rw[rc4];exact decide_eq_true (by omega)
 have hck:∀ (x1 x2 x3 x4 x5 x6 x7 x8 x9:Int) (k:Nat),k < 9→((Nat.ble 1 (len (d9 [[(i x1)],[(i x2)],[(i x3)],[(i x4)],[(i x5)],[(i x6)],[(i x7)],[(i x8)],[(i x9)]] (0+k))))&&(J4 [(CK.int .i64)] (d9 [[(i x1)],[(i x2)],[(i x3)],[(i x4)],[(i x5)],[(i x6)],[(i x7)],[(i x8)],[(i x9)]] (0+k))))=true:=by
  intro x1 x2 x3 x4 x5 x6 x7 x8 x9 k hk
  match k,hk with
  | 0,_=>rfl
  | 1,_=>rfl
  | 2,_=>rfl
  | 3,_=>rfl
  | 4,_=>rfl
  | 5,_=>rfl
  | 6,_=>rfl
  | 7,_=>rfl
  | 8,_=>rfl
 rw[hin,hck _ _ _ _ _ _ _ _ _ _ (by omega)]
 simp only[p6]
 exact Rd.sl (fun _=>⟨_,_,rfl,rfl,trivial⟩) fun _=>Rd.sl (fun _=>⟨_,_,rfl,rfl,trivial⟩) fun _=>Rd.sl (fun _=>⟨_,_,rfl,rfl,trivial⟩) fun _=>Rd.sl (fun _=>⟨_,_,rfl,rfl,trivial⟩) fun _=>Rd.sl (fun _=>⟨_,_,rfl,rfl,trivial⟩) fun _=>⟨_,_,rfl,rfl,trivial⟩
theorem oe0 (p:Pln) (v:V3):ic0 p v=true:=(ne9 p v).g
theorem Sd8 (x:List Pln) (y:V3) (hx:x.length≤1000000):Rd (one (r1L tP)) (qb7 x y) (fun r=>r.length≤x.length+50):=by
 have ea:app [] (bL tP x)=bL tP x:=rfl
 have one0:Rd (one (r1L tP)) (some (.sl 0 0 1 0,[⟨50,4,[[(i 0),(i 0),(i 0),(i 0)]],true,false,0⟩])) (fun r=>r.length≤x.length+50):=wb0 (l:=[⟨⟨0,0,0⟩,0⟩]) rfl rfl (by simp only[List.length_singleton];omega)
 unfold qb7
 simp only[Oa9,ea,J8,Nat.zero_add]
 by_cases h0:x.length=0
 ·rw[show Nat.beq x.length 0=true from by rw[h0];rfl]
  exact one0
 ·have z0 : Nat.beq x.length 0 = false := by
   cases h:Nat.beq x.length 0 with
   | false=>rfl
   | true=>exact absurd (Nat.eq_of_beq_eq_true h) h0
  have zi:((x.length:Int)==0)=false:=by rw[beq_eq_false_iff_ne];omega
  have hk1:=Int.emod_nonneg y.y (show (x.length:Int)≠0 by omega)
  have hk2:=Int.emod_lt_of_pos y.y (show (0:Int) < (x.length:Int) by omega)
  rw[z0,zi,Bd3 y.y (show (0:Int) < (x.length:Int) by omega) (by omega),Dc0 y.y (show (0:Int) < (x.length:Int) by omega) (by omega),Dc0 y.x (show (0:Int) < 6 by omega) (by omega),Dc0 y.z (show (0:Int) < 9 by omega) (by omega)]
  obtain⟨k,hk⟩:=Int.eq_ofNat_of_zero_le hk1
  rw[hk] at hk2 ⊢
  have hkx:k < x.length:=by omega
  have i1:inB (k:Int) x.length=true:=g9 hkx
  have i2:inB (k:Int) (x.length+1)=true:=g9 (by omega)
  have w1:W ((k:Int)+1)=((k+1:Nat):Int):=q8 hkx (by omega)
  have i3:inB ((k+1:Nat):Int) (x.length+1)=true:=g9 (by omega)
  have hrow:d9 (bL tP x) k=tP.row (gL tP x k):=S5 tP hkx
  have hb:Nat.blt k x.length=true:=by rw[Nat.blt_eq];exact hkx
  have hld:ldR tP (bL tP x) k=true:=Uc5 tP hkx
  have hrd:rdR tP (bL tP x) k=gL tP x k:=Uc4 tP hkx
  have sp:∀ (v:Pln) (x1 x2 x3 x4:Int),J5 (tP.row v) 0 [i x1,i x2,i x3,i x4]=tP.row ⟨⟨x1,x2,x3⟩,x4⟩:=fun _ _ _ _ _=>rfl
  have sp3:∀ (v:Pln) (x4:Int),J5 (tP.row v) 3 [i x4]=tP.row ⟨v.n,x4⟩:=fun _ _=>rfl
  have rl:∀ v:Pln,Nat.ble 4 (len (tP.row v))=true:=fun _=>rfl
  have rl3:∀ v:Pln,Nat.ble (3+1) (len (tP.row v))=true:=fun _=>rfl
  have ck3:∀ v:Pln,J4 [(CK.int .i64)] (d8 (tP.row v) 3)=true:=fun _=>rfl
  have b0:Nat.ble (x.length*32) room=true:=da3 (by omega)
  have b1:Nat.ble ((x.length+1)*32) room=true:=da3 (by omega)
  obtain⟨s,l1,out,l2,l3⟩:=Sd7 k x hkx
  have cutL:D3 (d8 (bL tP x) (k+1)) (x.length - (k+1))=bL tP (x.drop (k+1)):=by
   have hl:(bL tP x).length=x.length:=by rw[← l9,J8]
   rw[D4,D5,List.take_of_length_le (by rw[List.length_drop,hl];omega)]
   unfold bL
   rw[m9,m9,List.map_drop]
  have cutT:D3 (bL tP x) (k - 0)=bL tP (x.take k):=by
   unfold bL
   rw[D4,m9,m9,List.map_take,Nat.sub_zero]
  have cutD:∀ n,d8 (bL tP x) n=bL tP (x.drop n):=fun n=>by
   unfold bL
   rw[D5,m9,m9,List.map_drop]
  simp only[Int.toNat_natCast,i1,i2,w1,i3,hrow,hb,hld,hrd,sp,sp3,rl,rl3,ck3,b0,b1,Nat.beq_refl,Bool.and_self,Bool.and_true,p6,Aa0,oe0,ob9,bc2,l1,l2,cutL]
  refine Rd.sl (fun _=>wb0 (by rw[List.length_set]) rfl (by rw[List.length_set];omega)) fun _=>Rd.sl (fun _=>?_) fun _=>Rd.sl (fun _=>wb0 (by rw[List.length_set]) rfl (by rw[List.length_set];omega)) fun _ =>
   Rd.sl (fun _=>wb0 (by rw[List.length_append];rfl) rfl (by rw[List.length_append];simp only[List.length_singleton];omega)) fun _=>Rd.sl (fun _=>wb0 (by rw[List.length_set]) rfl (by rw[List.length_set];omega)) fun _ =>
   Rd.sl (fun _=>wb0 rfl rfl (by omega)) fun _=>wb0 rfl rfl (by omega)
  rw[cutT,cutD,J8,Da7,Da7,List.length_drop,bt (by rw[Nat.ble_eq];omega)]
  refine Sd6 ?_ rfl ?_
  ·simp only[List.length_append,List.length_take,List.length_drop];omega
  ·rw[List.length_take];simp only[List.length_append,List.length_take,List.length_drop];omega
theorem ie1 (x:List Pln) (y:V3) (hx:x.length≤1000000):qb8 x y=true:=(Sd8 x y hx).g
theorem Sd9 (x:List Pln) (y:V3) (hx:x.length≤1000000):(ea6 x y).length≤x.length+50:=(Sd8 x y hx).p
theorem Td0 (x:List Pln):Rd (one (r1L tP)) (Sa2 x) (fun r=>r.length≤8):=by
 have hin:inB (if 8 < (x.length:Int) then 8 else (x.length:Int)) (x.length+1)=true:=by
  rw[rc4]
  apply decide_eq_true
  split<;>omega
 unfold Sa2
 rw[hin,p6]
 refine⟨_,lsL tP ((if 8 < (x.length:Int) then 8 else (x.length:Int)).toNat - 0) (fun k=>(fun k=>tP.row (gL tP x k)) (0+k)),rfl,?_,by show (lsL tP _ _).length≤8;rw[Uc3];split<;>omega⟩
 show Bool.rec (motive:=fun _=>Option (List Pln)) none (some _) (Bool.and (Nat.beq 4 4) (okL tP _ _))=_
 rw[lb2 tP (f:=fun k=>gL tP x (0+k)) fun _ _=>rfl]
 rfl
theorem we9 (x:List Pln):Fb9 x=true:=(Td0 x).g
theorem xe0 (x:List Pln):(Sa3 x).length≤8:=(Td0 x).p
end Go.Ev.Ce
section
namespace Go.Ev.Ce
open Go Go.Ev Go.Ev.L Go.Proofs
set_option maxRecDepth 100000
structure Oa4 where
 la8:Int
 la9:Int
 ma0:Int
 gb0:Int
 l6:List Pt
noncomputable def Gb1:List (Nat×Sum):=[(102,kb0)]
theorem pc6:l0 prog G Gb1:=⟨tb7,trivial⟩
structure pa5 where
 Cd6:List Pt
 is8:Int
 l6:List Pt
 G7:Int
 G8:Int
 G9:Int
 H4:Int
structure L2 where
 is4:Int
 is9:Int
noncomputable def ic3 (p:pa5) (s:L2):St:=⟨(.unk::(.unk::((.ptr 1 0 0 0)::(.unk::((i s.is4)::(.unk::(.unk::((eL tX p.Cd6)::((i p.is8)::((i s.is9)::(ra 12 []))))))))))),[⟨0,1,[[(eL tX p.l6)]],true,false,0⟩,⟨0,4,[[(i p.G7),(i p.G8),(i p.G9),(i p.H4)]],true,false,0⟩]⟩
noncomputable def ga5 {α:Type} (k:L2→α) (e:Nat→α) (z:α) (p:pa5) (s:L2):α:=let t1:=(ma7 (⟨(⟨p.G7,p.G8,p.G9⟩:V3),p.H4⟩:Pln) (gL tX p.Cd6 s.is9.toNat));(sl (decide (s.is9 < p.is8)) (sl (inB s.is9 (List.length p.Cd6)) (sl (t1==0) (k ⟨(W (s.is4+1)),(W (s.is9+1))⟩) (k ⟨s.is4,(W (s.is9+1))⟩)) z) (e 1))
noncomputable def la3 (p:pa5) (s:L2):Stp L2:=ga5 .next .exit .fail p s
noncomputable def Va6:Lo pa5 L2:=⟨En Gb1,1,fe4,[1,1,0,1,4,4],[2,4,7,8,9],.p,[⟨((.s (.o .unk))::((.s (.o .unk))::((.s (.o (.ptr 1 0 0 0)))::((.s (.o .unk))::((.s (.o (.int .i64)))::((.s (.o .unk))::((.s (.o .unk))::((.s (.c 4 (nL tX)))::((.s (.o (.int .i64)))::((.s (.o (.int .i64)))::(ru2 12 []))))))))))),[⟨0,1,true,(some [[(.c 4 (nL tX))]])⟩,⟨0,4,true,(some [[(.o (.int .i64)),(.o (.int .i64)),(.o (.int .i64)),(.o (.int .i64))]])⟩],fun a H=>(⟨(rL tX (slT a 7)),(toI (slT a 8)),(rL tX (slT (rwT (elT H 0) 0) 0)),(toI (slT (rwT (elT H 1) 0) 0)),(toI (slT (rwT (elT H 1) 0) 1)),(toI (slT (rwT (elT H 1) 0) 2)),(toI (slT (rwT (elT H 1) 0) 3))⟩,⟨(toI (slT a 4)),(toI (slT a 9))⟩)⟩],la3,[(some 0,fun p s=>⟨(.unk::(.unk::((.ptr 1 0 0 0)::(.unk::((i s.is4)::(.unk::(.unk::((eL tX p.Cd6)::((i p.is8)::((i s.is9)::((b (decide (s.is9 < p.is8)))::(ra 11 [])))))))))))),[⟨0,1,[[(eL tX p.l6)]],true,false,0⟩,⟨0,4,[[(i p.G7),(i p.G8),(i p.G9),(i p.H4)]],true,false,0⟩]⟩)],ic3⟩
theorem ic4:Va6.Ok:=Lo.ok [] (by kernel_rfl) .nil rfl (.cons (fun a H=>by kernel_rfl) .nil) fun p s=>(.of @ga5 (fun F _ _ _ _ _=>by unfold ga5;(repeat' apply n7 (f:=F))<;>rfl) (by kernel_rfl))
structure ra2 where
 alt:Nat
 bs0:Bool
 l6:List Pt
noncomputable def ra3 {α:Type} (kk:ra2→α) (x:Oa4):α:=let t1:=(lp (la3 (⟨(rt tX x.l6),(↑(List.length x.l6):Int),(rt tX x.l6),x.la8,x.la9,x.ma0,x.gb0⟩:pa5)) (⟨0,0⟩:L2));(sl ((cnE tX x.l6)&&((cnE tX x.l6)&&true)) (sl (Nat.beq t1.1 1) (kk ⟨1,(decide (t1.2.is4 < 3)),(rt tX x.l6)⟩) (kk ⟨0,false,[]⟩)) (kk ⟨0,false,[]⟩))
noncomputable def ha8 (x:Oa4):ra2:=ra3 (fun r=>r) x
noncomputable def eb8 (x:Oa4) (r:ra2):DT (b7×List b8):=(.ite (Nat.beq r.alt 1) (.ret ((b r.bs0),[⟨0,1,[[(eL tX r.l6)]],true,false,0⟩])) .fail)
theorem Kc8 {α β:Type} (F:α→β) (kk:ra2→α) (x:Oa4):F (ra3 kk x)=ra3 (fun r=>F (kk r)) x:=by unfold ra3;(repeat' apply n7 (f:=F))<;>rfl
noncomputable def nb8:Sum:=bb3 ⟨[(.agg [(.o (.int .i64)),(.o (.int .i64)),(.o (.int .i64)),(.o (.int .i64))]),(.s (.o (.ptr 0 0 0 0)))],[⟨0,1,true,(some [[(.c 4 (nL tX))]])⟩],fun a H=>(⟨(toI (slT (cellsOf (slT a 0)) 0)),(toI (slT (cellsOf (slT a 0)) 1)),(toI (slT (cellsOf (slT a 0)) 2)),(toI (slT (cellsOf (slT a 0)) 3)),(rL tX (slT (rwT (elT H 0) 0) 0))⟩,())⟩ (fun x=>eb8 x (ha8 x))
theorem Gb2:i6 prog G 101 nb8:=P6 (enc:=fun x=>⟨[(.agg [(i x.la8),(i x.la9),(i x.ma0),(i x.gb0)]),(.ptr 0 0 0 0)],[⟨0,1,[[(eL tX x.l6)]],true,false,0⟩]⟩) (fun a H=>by kernel_rfl) (bd Ce1 pc6) fun x=>za4 (.s .p (.s .p (.s (.s .p (.b (.u Va6.ls))) .p))) [Va6.pr] (by kernel_rfl) (.cons ic4 .nil) (Eq.trans (b:=ra3 (fun r=>(eb8 x r).run) x) (by kernel_rfl) (Kc8 (fun r=>(eb8 x r).run) (fun r=>r) x).symm)
structure Q7 where
 ns0:Nat
 eh0:List (List b7)
 r7:List Pt
noncomputable def wa0:List (Nat×Sum):=[(101,nb8)]
theorem Ya9:l0 prog G wa0:=⟨Gb2,trivial⟩
structure G3 where
 ns0:Nat
 is7:Int
 eh0:List (List b7)
structure o5 where
 is8:Int
 r7:List Pt
noncomputable def Va7 (p:G3) (s:o5):St:=⟨((.sl 0 0 p.ns0 0)::((.fn 101 [(.ptr 1 0 0 0)])::(ra 5 ((i p.is7)::((i s.is8)::(ra 10 [])))))),[⟨50,4,p.eh0,true,false,0⟩,⟨0,1,[[(eL tX s.r7)]],true,false,0⟩]⟩
noncomputable def B8 {α:Type} (k:o5→α) (e:Nat→α) (z:α) (p:G3) (s:o5):α:=let t1:=(ha8 ⟨(rdR tP p.eh0 (0+s.is8.toNat)).n.x,(rdR tP p.eh0 (0+s.is8.toNat)).n.y,(rdR tP p.eh0 (0+s.is8.toNat)).n.z,(rdR tP p.eh0 (0+s.is8.toNat)).b,(rt tX s.r7)⟩);(sl (decide (s.is8 < p.is7)) (sl (inB s.is8 p.ns0) (sl (ldR tP p.eh0 (0+s.is8.toNat)) (sl ((cnE tX s.r7)&&true) (sl (Nat.beq t1.alt 1) (sl t1.bs0 (e 1) (k ⟨(W (s.is8+1)),t1.l6⟩)) z) z) z) z) (e 2))
noncomputable def E2 (p:G3) (s:o5):Stp o5:=B8 .next .exit .fail p s
noncomputable def Z8:Lo G3 o5:=⟨En wa0,2,zd8,[1,0,1,4,4],[0,1,7,8],.p,[⟨((.s (.o (.sl 0 0 (some 0) none)))::((.fn 101 [(.o (.ptr 1 0 0 0))])::(ru2 5 ((.s (.o (.int .i64)))::((.s (.o (.int .i64)))::(ru2 10 [])))))),[⟨50,4,true,none⟩,⟨0,1,true,(some [[(.c 4 (nL tX))]])⟩],fun a H=>(⟨(slN (slT a 0)),(toI (slT a 7)),(elT H 0)⟩,⟨(toI (slT a 8)),(rL tX (slT (rwT (elT H 1) 0) 0))⟩)⟩],E2,[(none,fun p s=>let t1:=(ha8 ⟨(rdR tP p.eh0 (0+s.is8.toNat)).n.x,(rdR tP p.eh0 (0+s.is8.toNat)).n.y,(rdR tP p.eh0 (0+s.is8.toNat)).n.z,(rdR tP p.eh0 (0+s.is8.toNat)).b,(rt tX s.r7)⟩);⟨[(i s.is8)],[⟨50,4,p.eh0,true,false,0⟩,⟨0,1,[[(eL tX t1.l6)]],true,false,0⟩]⟩),(some 0,fun p s=>⟨((.sl 0 0 p.ns0 0)::((.fn 101 [(.ptr 1 0 0 0)])::(ra 5 ((i p.is7)::((i s.is8)::((b (decide (s.is8 < p.is7)))::(ra 9 []))))))),[⟨50,4,p.eh0,true,false,0⟩,⟨0,1,[[(eL tX s.r7)]],true,false,0⟩]⟩)],Va7⟩
theorem Va8:Z8.Ok:=Lo.ok [] (by kernel_rfl) .nil rfl (.cons (fun a H=>by kernel_rfl) .nil) fun p s=>(.of @B8 (fun F _ _ _ _ _=>by unfold B8;(repeat' apply n7 (f:=F))<;>rfl) (by kernel_rfl))
structure Q8 where
 alt:Nat
 is0:Int
 r7:List Pt
noncomputable def C8 {α:Type} (kk:Q8→α) (x:Q7):α:=let t1:=(lp (E2 (⟨x.ns0,(↑x.ns0:Int),x.eh0⟩:G3)) (⟨0,(rt tX x.r7)⟩:o5));let t2:=(ha8 ⟨(rdR tP x.eh0 (0+t1.2.is8.toNat)).n.x,(rdR tP x.eh0 (0+t1.2.is8.toNat)).n.y,(rdR tP x.eh0 (0+t1.2.is8.toNat)).n.z,(rdR tP x.eh0 (0+t1.2.is8.toNat)).b,(rt tX t1.2.r7)⟩);(sl ((cnE tX x.r7)&&true) (sl (Nat.beq t1.1 1) (kk ⟨1,t1.2.is8,t2.l6⟩) (sl (Nat.beq t1.1 2) (kk ⟨1,(-1),t1.2.r7⟩) (kk ⟨0,0,[]⟩))) (kk ⟨0,0,[]⟩))
noncomputable def Q9 (x:Q7):Q8:=C8 (fun r=>r) x
noncomputable def ca6 (x:Q7) (r:Q8):DT (b7×List b8):=(.ite (Nat.beq r.alt 1) (.ret ((i r.is0),[⟨50,4,x.eh0,true,false,0⟩,⟨0,1,[[(eL tX r.r7)]],true,false,0⟩])) .fail)
theorem ib0 {α β:Type} (F:α→β) (kk:Q8→α) (x:Q7):F (C8 kk x)=C8 (fun r=>F (kk r)) x:=by unfold C8;(repeat' apply n7 (f:=F))<;>rfl
noncomputable def ya7:Sum:=bb3 ⟨[(.s (.o (.sl 0 0 (some 0) none))),(.fn 101 [(.o (.ptr 1 0 0 0))])],[⟨50,4,true,none⟩,⟨0,1,true,(some [[(.c 4 (nL tX))]])⟩],fun a H=>(⟨(slN (slT a 0)),(elT H 0),(rL tX (slT (rwT (elT H 1) 0) 0))⟩,())⟩ (fun x=>ca6 x (Q9 x))
theorem eb9:i6 prog G 163 ya7:=P6 (enc:=fun x=>⟨[(.sl 0 0 x.ns0 0),(.fn 101 [(.ptr 1 0 0 0)])],[⟨50,4,x.eh0,true,false,0⟩,⟨0,1,[[(eL tX x.r7)]],true,false,0⟩]⟩) (fun a H=>by kernel_rfl) (bd le8 Ya9) fun x=>za4 (.s .p (.s (.s .p (.b (.u Z8.ls))) .p)) [Z8.pr] (by kernel_rfl) (.cons Va8 .nil) (Eq.trans (b:=C8 (fun r=>(ca6 x r).run) x) (by kernel_rfl) (ib0 (fun r=>(ca6 x r).run) (fun r=>r) x).symm)
structure R2 where
 ns0:Nat
 eh0:List (List b7)
 r7:List Pt
noncomputable def wa1:List (Nat×Sum):=[(163,ya7),(101,nb8)]
theorem Za0:l0 prog G wa1:=⟨eb9,Gb2,trivial⟩
structure G4 where
 ns0:Nat
structure p8 where
 is5:Int
 is6:Int
 eh0:List (List b7)
 r7:List Pt
noncomputable def Va9 (p:G4) (s:p8):St:=⟨((.sl 0 0 p.ns0 0)::((.fn 101 [(.ptr 1 0 0 0)])::(ra 3 ((i s.is5)::((i s.is6)::(ra 35 [])))))),[⟨50,4,s.eh0,true,false,0⟩,⟨0,1,[[(eL tX s.r7)]],true,false,0⟩]⟩
noncomputable def B9 {α:Type} (k:p8→α) (e:Nat→α) (z:α) (p:G4) (s:p8):α:=let t1:=(ha8 ⟨(rdR tP s.eh0 (0+s.is6.toNat)).n.x,(rdR tP s.eh0 (0+s.is6.toNat)).n.y,(rdR tP s.eh0 (0+s.is6.toNat)).n.z,(rdR tP s.eh0 (0+s.is6.toNat)).b,(rt tX s.r7)⟩);(sl (decide (s.is6 < (↑p.ns0:Int))) (sl (inB s.is6 p.ns0) (sl (ldR tP s.eh0 (0+s.is6.toNat)) (sl ((cnE tX s.r7)&&true) (sl (Nat.beq t1.alt 1) (sl (!t1.bs0) (sl (inB s.is5 p.ns0) (sl ((Nat.blt (0+s.is5.toNat) (len s.eh0))&&(Nat.ble (0+4) (len (d9 s.eh0 (0+s.is5.toNat))))) (k ⟨(W (s.is5+1)),(W (s.is6+1)),(setAt s.eh0 (0+s.is5.toNat) (J5 (d9 s.eh0 (0+s.is5.toNat)) 0 [(i (rdR tP s.eh0 (0+s.is6.toNat)).n.x),(i (rdR tP s.eh0 (0+s.is6.toNat)).n.y),(i (rdR tP s.eh0 (0+s.is6.toNat)).n.z),(i (rdR tP s.eh0 (0+s.is6.toNat)).b)])),t1.l6⟩) z) z) (k ⟨s.is5,(W (s.is6+1)),s.eh0,t1.l6⟩)) z) z) z) z) (e 1))
noncomputable def A0 (p:G4) (s:p8):Stp p8:=B9 .next .exit .fail p s
noncomputable def Z9:Lo G4 p8:=⟨En wa1,2,se1,[1,1,1,0,1,4,4],[0,1,5,6],.p,[⟨((.s (.o (.sl 0 0 (some 0) none)))::((.fn 101 [(.o (.ptr 1 0 0 0))])::(ru2 3 ((.s (.o (.int .i64)))::((.s (.o (.int .i64)))::(ru2 35 [])))))),[⟨50,4,true,none⟩,⟨0,1,true,(some [[(.c 4 (nL tX))]])⟩],fun a H=>(⟨(slN (slT a 0))⟩,⟨(toI (slT a 5)),(toI (slT a 6)),(elT H 0),(rL tX (slT (rwT (elT H 1) 0) 0))⟩)⟩],A0,[(some 0,fun p s=>⟨((.sl 0 0 p.ns0 0)::((.fn 101 [(.ptr 1 0 0 0)])::(ra 3 ((i s.is5)::((i s.is6)::(ra 9 ((i s.is6)::((.sl 0 0 p.ns0 0)::((i (↑p.ns0:Int))::((b (decide (s.is6 < (↑p.ns0:Int))))::(ra 22 []))))))))))),[⟨50,4,s.eh0,true,false,0⟩,⟨0,1,[[(eL tX s.r7)]],true,false,0⟩]⟩)],Va9⟩
theorem Wa0:Z9.Ok:=Lo.ok [] (by kernel_rfl) .nil rfl (.cons (fun a H=>by kernel_rfl) .nil) fun p s=>(.of @B9 (fun F _ _ _ _ _=>by unfold B9;(repeat' apply n7 (f:=F))<;>rfl) (by kernel_rfl))
structure R3 where
 alt:Nat
 ns0:Nat
 eh0:List (List b7)
 r7:List Pt
noncomputable def C9 {α:Type} (kk:R3→α) (x:R2):α:=let t1:=(Q9 ⟨x.ns0,x.eh0,(rt tX x.r7)⟩);let t2:=(lp (A0 (⟨x.ns0⟩:G4)) (⟨t1.is0,(W (t1.is0+1)),x.eh0,(rt tX t1.r7)⟩:p8));(sl ((cnE tX x.r7)&&true) (sl (Nat.beq t1.alt 1) (sl (t1.is0==(-1)) (kk ⟨1,x.ns0,x.eh0,t1.r7⟩) (sl ((cnE tX t1.r7)&&true) (sl (Nat.beq t2.1 1) (sl (inB t2.2.is5 (x.ns0+1)) (sl (inB t2.2.is5 (x.ns0+1)) (kk ⟨1,(t2.2.is5.toNat - 0),(app (D3 t2.2.eh0 (0+t2.2.is5.toNat)) (app (List.replicate (x.ns0 - t2.2.is5.toNat) [(i 0),(i 0),(i 0),(i 0)]) (d8 t2.2.eh0 ((0+t2.2.is5.toNat)+(x.ns0 - t2.2.is5.toNat))))),t2.2.r7⟩) (kk ⟨0,0,[],[]⟩)) (kk ⟨0,0,[],[]⟩)) (kk ⟨0,0,[],[]⟩)) (kk ⟨0,0,[],[]⟩))) (kk ⟨0,0,[],[]⟩)) (kk ⟨0,0,[],[]⟩))
noncomputable def R4 (x:R2):R3:=C9 (fun r=>r) x
noncomputable def ca7 (x:R2) (r:R3):DT (b7×List b8):=(.ite (Nat.beq r.alt 1) (.ret ((.sl 0 0 r.ns0 0),[⟨50,4,r.eh0,true,false,0⟩,⟨0,1,[[(eL tX r.r7)]],true,false,0⟩])) .fail)
theorem ib1 {α β:Type} (F:α→β) (kk:R3→α) (x:R2):F (C9 kk x)=C9 (fun r=>F (kk r)) x:=by unfold C9;(repeat' apply n7 (f:=F))<;>rfl
noncomputable def ya8:Sum:=bb3 ⟨[(.s (.o (.sl 0 0 (some 0) none))),(.fn 101 [(.o (.ptr 1 0 0 0))])],[⟨50,4,true,none⟩,⟨0,1,true,(some [[(.c 4 (nL tX))]])⟩],fun a H=>(⟨(slN (slT a 0)),(elT H 0),(rL tX (slT (rwT (elT H 1) 0) 0))⟩,())⟩ (fun x=>ca7 x (R4 x))
theorem fb0:i6 prog G 99 ya8:=P6 (enc:=fun x=>⟨[(.sl 0 0 x.ns0 0),(.fn 101 [(.ptr 1 0 0 0)])],[⟨50,4,x.eh0,true,false,0⟩,⟨0,1,[[(eL tX x.r7)]],true,false,0⟩]⟩) (fun a H=>by kernel_rfl) (bd b99 Za0) fun x=>za4 (.s .p (.s .p (.s .p (.s (.s .p (.b (.u Z9.ls))) .p)))) [Z9.pr] (by kernel_rfl) (.cons Wa0 .nil) (Eq.trans (b:=C9 (fun r=>(ca7 x r).run) x) (by kernel_rfl) (ib1 (fun r=>(ca7 x r).run) (fun r=>r) x).symm)
structure aa0 where
 ns0:Nat
 eh0:List (List b7)
noncomputable def la4:List (Nat×Sum):=[]
theorem nb9:l0 prog G la4:=trivial
structure A5 where
 ns0:Nat
 os4:Nat
 ns4:Nat
structure o9 where
 is3:Int
 is5:Int
 eh0:List (List b7)
noncomputable def ib2 (p:A5) (s:o9):St:=⟨((.sl 0 0 p.ns0 0)::(.unk::(.unk::((i s.is3)::((.sl 0 p.os4 p.ns4 0)::((i s.is5)::(ra 55 []))))))),[⟨50,4,s.eh0,true,false,0⟩]⟩
noncomputable def H6 {α:Type} (k:o9→α) (e:Nat→α) (z:α) (p:A5) (s:o9):α:=(sl (decide (s.is5 < (↑p.ns4:Int))) (sl (inB s.is5 p.ns4) (sl (ldR tP s.eh0 (p.os4+s.is5.toNat)) (sl (inB (W (s.is5 - 1)) p.ns4) (sl (ldR tP s.eh0 (p.os4+(W (s.is5 - 1)).toNat)) (sl (!(((rdR tP s.eh0 (p.os4+s.is5.toNat)).n.x==(rdR tP s.eh0 (p.os4+(W (s.is5 - 1)).toNat)).n.x)&&(((rdR tP s.eh0 (p.os4+s.is5.toNat)).n.y==(rdR tP s.eh0 (p.os4+(W (s.is5 - 1)).toNat)).n.y)&&(((rdR tP s.eh0 (p.os4+s.is5.toNat)).n.z==(rdR tP s.eh0 (p.os4+(W (s.is5 - 1)).toNat)).n.z)&&(((rdR tP s.eh0 (p.os4+s.is5.toNat)).b==(rdR tP s.eh0 (p.os4+(W (s.is5 - 1)).toNat)).b)&&true))))) (sl (inB s.is5 p.ns4) (sl (ldR tP s.eh0 (p.os4+s.is5.toNat)) (sl (inB s.is3 p.ns0) (sl ((Nat.blt (0+s.is3.toNat) (len s.eh0))&&(Nat.ble (0+4) (len (d9 s.eh0 (0+s.is3.toNat))))) (k ⟨(W (s.is3+1)),(W (s.is5+1)),(setAt s.eh0 (0+s.is3.toNat) (J5 (d9 s.eh0 (0+s.is3.toNat)) 0 [(i (rdR tP s.eh0 (p.os4+s.is5.toNat)).n.x),(i (rdR tP s.eh0 (p.os4+s.is5.toNat)).n.y),(i (rdR tP s.eh0 (p.os4+s.is5.toNat)).n.z),(i (rdR tP s.eh0 (p.os4+s.is5.toNat)).b)]))⟩) z) z) z) z) (k ⟨s.is3,(W (s.is5+1)),s.eh0⟩)) z) z) z) z) (e 1))
noncomputable def p7 (p:A5) (s:o9):Stp o9:=H6 .next .exit .fail p s
noncomputable def ha9:Lo A5 o9:=⟨En la4,1,Od8,[1,1,0,1,4,4,1,0,4,1,2,1,0,1,4,4],[0,3,4,5],.p,[⟨((.s (.o (.sl 0 0 (some 0) none)))::((.s (.o .unk))::((.s (.o .unk))::((.s (.o (.int .i64)))::((.s (.o (.sl 0 0 none none)))::((.s (.o (.int .i64)))::(ru2 55 []))))))),[⟨50,4,true,none⟩],fun a H=>(⟨(slN (slT a 0)),(slO (slT a 4)),(slN (slT a 4))⟩,⟨(toI (slT a 3)),(toI (slT a 5)),(elT H 0)⟩)⟩],p7,[(some 2,fun p s=>⟨((.sl 0 0 p.ns0 0)::(.unk::(.unk::((i s.is3)::((.sl 0 p.os4 p.ns4 0)::((i s.is5)::(ra 23 ((i s.is5)::((.sl 0 p.os4 p.ns4 0)::((i (↑p.ns4:Int))::((b (decide (s.is5 < (↑p.ns4:Int))))::(ra 28 [])))))))))))),[⟨50,4,s.eh0,true,false,0⟩]⟩)],ib2⟩
theorem ib3:ha9.Ok:=Lo.ok [] (by kernel_rfl) .nil rfl (.cons (fun a H=>by kernel_rfl) .nil) fun p s=>(.of @H6 (fun F _ _ _ _ _=>by unfold H6;(repeat' apply n7 (f:=F))<;>rfl) (by kernel_rfl))
structure K0 where
 ns0:Nat
 eh0:List (List b7)
structure q7 where
 is3:Int
noncomputable def ib4 (p:K0) (s:q7):St:=⟨((.sl 0 0 p.ns0 0)::(.unk::(.unk::((i s.is3)::(ra 57 []))))),[⟨50,4,p.eh0,true,false,0⟩]⟩
noncomputable def H7 {α:Type} (k:q7→α) (e:Nat→α) (z:α) (p:K0) (s:q7):α:=let t1:=(lp (p7 (⟨p.ns0,(0+s.is3.toNat),(p.ns0 - s.is3.toNat)⟩:A5)) (⟨s.is3,1,p.eh0⟩:o9));(sl (decide (s.is3 < (↑p.ns0:Int))) (sl (inB s.is3 p.ns0) (sl (ldR tP p.eh0 (0+s.is3.toNat)) (sl (inB (W (s.is3 - 1)) p.ns0) (sl (ldR tP p.eh0 (0+(W (s.is3 - 1)).toNat)) (sl (((rdR tP p.eh0 (0+s.is3.toNat)).n.x==(rdR tP p.eh0 (0+(W (s.is3 - 1)).toNat)).n.x)&&(((rdR tP p.eh0 (0+s.is3.toNat)).n.y==(rdR tP p.eh0 (0+(W (s.is3 - 1)).toNat)).n.y)&&(((rdR tP p.eh0 (0+s.is3.toNat)).n.z==(rdR tP p.eh0 (0+(W (s.is3 - 1)).toNat)).n.z)&&(((rdR tP p.eh0 (0+s.is3.toNat)).b==(rdR tP p.eh0 (0+(W (s.is3 - 1)).toNat)).b)&&true)))) (sl (inB s.is3 (p.ns0+1)) (sl (Nat.beq t1.1 1) (sl (inB t1.2.is3 (p.ns0+1)) (sl (inB t1.2.is3 (p.ns0+1)) (e 1) z) z) z) z) (k ⟨(W (s.is3+1))⟩)) z) z) z) z) (e 2))
noncomputable def I9 (p:K0) (s:q7):Stp q7:=H7 .next .exit .fail p s
noncomputable def ia0:Lo K0 q7:=⟨En la4,1,Od8,[1,1,0,1,4,4],[0,3],(.s .p (.s (.b (.s .p (.c (.s .p (.s (.s .p (.b (.u ha9.ls))) .p)) .p))) .p)),[⟨((.s (.o (.sl 0 0 (some 0) none)))::((.s (.o .unk))::((.s (.o .unk))::((.s (.o (.int .i64)))::(ru2 57 []))))),[⟨50,4,true,none⟩],fun a H=>(⟨(slN (slT a 0)),(elT H 0)⟩,⟨(toI (slT a 3))⟩)⟩],I9,[(none,fun p s=>let t1:=(lp (p7 (⟨p.ns0,(0+s.is3.toNat),(p.ns0 - s.is3.toNat)⟩:A5)) (⟨s.is3,1,p.eh0⟩:o9));⟨[(.sl 0 0 (t1.2.is3.toNat - 0) 0)],[⟨50,4,(app (D3 t1.2.eh0 (0+t1.2.is3.toNat)) (app (List.replicate (p.ns0 - t1.2.is3.toNat) [(i 0),(i 0),(i 0),(i 0)]) (d8 t1.2.eh0 ((0+t1.2.is3.toNat)+(p.ns0 - t1.2.is3.toNat))))),true,false,0⟩]⟩),(some 0,fun p s=>⟨((.sl 0 0 p.ns0 0)::(.unk::(.unk::((i s.is3)::(ra 6 ((i s.is3)::((.sl 0 0 p.ns0 0)::((i (↑p.ns0:Int))::((b (decide (s.is3 < (↑p.ns0:Int))))::(ra 47 [])))))))))),[⟨50,4,p.eh0,true,false,0⟩]⟩)],ib4⟩
theorem ib5:ia0.Ok:=Lo.ok [ha9.pr] (by kernel_rfl) (.cons ib3 .nil) rfl (.cons (fun a H=>by kernel_rfl) .nil) fun p s=>(.of @H7 (fun F _ _ _ _ _=>by unfold H7;(repeat' apply n7 (f:=F))<;>rfl) (by kernel_rfl))
structure aa1 where
 alt:Nat
 ns0:Nat
 eh0:List (List b7)
noncomputable def I7 {α:Type} (kk:aa1→α) (x:aa0):α:=let t1:=(lp (I9 (⟨x.ns0,x.eh0⟩:K0)) (⟨1⟩:q7));let t2:=(lp (p7 (⟨x.ns0,(0+t1.2.is3.toNat),(x.ns0 - t1.2.is3.toNat)⟩:A5)) (⟨t1.2.is3,1,x.eh0⟩:o9));(sl (decide ((↑x.ns0:Int) < 2)) (kk ⟨1,x.ns0,x.eh0⟩) (sl (Nat.beq t1.1 1) (kk ⟨1,(t2.2.is3.toNat - 0),(app (D3 t2.2.eh0 (0+t2.2.is3.toNat)) (app (List.replicate (x.ns0 - t2.2.is3.toNat) [(i 0),(i 0),(i 0),(i 0)]) (d8 t2.2.eh0 ((0+t2.2.is3.toNat)+(x.ns0 - t2.2.is3.toNat)))))⟩) (sl (Nat.beq t1.1 2) (kk ⟨1,x.ns0,x.eh0⟩) (kk ⟨0,0,[]⟩))))
noncomputable def aa2 (x:aa0):aa1:=I7 (fun r=>r) x
noncomputable def la5 (x:aa0) (r:aa1):DT (b7×List b8):=(.ite (Nat.beq r.alt 1) (.ret ((.sl 0 0 r.ns0 0),[⟨50,4,r.eh0,true,false,0⟩])) .fail)
theorem wb1 {α β:Type} (F:α→β) (kk:aa1→α) (x:aa0):F (I7 kk x)=I7 (fun r=>F (kk r)) x:=by unfold I7;(repeat' apply n7 (f:=F))<;>rfl
noncomputable def Ka0:Sum:=bb3 ⟨[(.s (.o (.sl 0 0 (some 0) none)))],[⟨50,4,true,none⟩],fun a H=>(⟨(slN (slT a 0)),(elT H 0)⟩,())⟩ (fun x=>la5 x (aa2 x))
theorem qb9:i6 prog G 105 Ka0:=P6 (enc:=fun x=>⟨[(.sl 0 0 x.ns0 0)],[⟨50,4,x.eh0,true,false,0⟩]⟩) (fun a H=>by kernel_rfl) (bd Ce4 nb9) fun x=>za4 (.s .p (.s .p (.s (.s .p (.b (.u ia0.ls))) .p))) [ia0.pr] (by kernel_rfl) (.cons ib5 .nil) (Eq.trans (b:=I7 (fun r=>(la5 x r).run) x) (by kernel_rfl) (wb1 (fun r=>(la5 x r).run) (fun r=>r) x).symm)
noncomputable def Dc2:List (Nat×Sum):=[]
theorem pc7:l0 prog G Dc2:=trivial
noncomputable def Ca2 (x:Int) (y:Int):Option (b7×List b8):=(sl (decide (x < y)) (some ((i (-1)),[])) (sl (decide (x > y)) (some ((i 1),[])) (some ((i 0),[]))))
noncomputable def ia1 (x:Int) (y:Int):Int:=J9 (one r1I) (Ca2 x y)
noncomputable def ia2 (x:Int) (y:Int):Bool:=okO (one r1I) (Ca2 x y)
noncomputable def Nb8:Sum:=ia7 cI cI (fun x y=>.guard (ia2 x y) (.ret ((one r1I).enc (ia1 x y),[])))
theorem Dc3:i6 prog G 179 Nb8:=bb2 (bd Fe3 pc7) (one r1I) (o:=Ca2) fun x y=>s5 (by kernel_rfl)
noncomputable def ic5:List (Nat×Sum):=[(179,Nb8)]
theorem bc4:l0 prog G ic5:=⟨Dc3,trivial⟩
noncomputable def pa6 (x:Pln) (y:Pln):Option (b7×List b8):=let t1:=(ia1 x.n.x y.n.x);let t2:=(ia1 x.n.y y.n.y);let t3:=(ia1 x.n.z y.n.z);let t4:=(ia1 x.b y.b);(sl (ia2 x.n.x y.n.x) (sl (t1==0) (sl (ia2 x.n.y y.n.y) (sl (t2==0) (sl (ia2 x.n.z y.n.z) (sl (t3==0) (sl (ia2 x.b y.b) (sl (t4==0) (some ((i t4),[])) (some ((i t4),[]))) none) (some ((i t3),[]))) none) (some ((i t2),[]))) none) (some ((i t1),[]))) none)
noncomputable def Da2 (x:Pln) (y:Pln):Int:=J9 (one r1I) (pa6 x y)
noncomputable def Da3 (x:Pln) (y:Pln):Bool:=okO (one r1I) (pa6 x y)
noncomputable def Wa1:Sum:=ia7 (O8 tP) (O8 tP) (fun x y=>.guard (Da3 x y) (.ret ((one r1I).enc (Da2 x y),[])))
theorem ic6:i6 prog G 104 Wa1:=bb2 (bd Ce3 bc4) (one r1I) (o:=pa6) fun x y=>s5 (by kernel_rfl)
noncomputable def nd7:List (Nat×Sum):=[(164,db4)]
theorem Zc9:l0 prog G nd7:=⟨xb4,trivial⟩
noncomputable def fb1 (x:V3):Option (b7×List b8):=let t1:=(ka3 24 [x.x,x.y,x.z]);(sl (ka4 24 [x.x,x.y,x.z]) (some ((b t1),[])) none)
noncomputable def wb2 (x:V3):Bool:=J9 (one r1B) (fb1 x)
noncomputable def wb3 (x:V3):Bool:=okO (one r1B) (fb1 x)
noncomputable def Dc4:Sum:=ea8 (O8 tV) (fun x=>.guard (wb3 x) (.ret ((one r1B).enc (wb2 x),[])))
theorem nd8:i6 prog G 107 Dc4:=za3 (bd Ce5 Zc9) (one r1B) (o:=fb1) fun x=>s5 (by kernel_rfl)
noncomputable def nd9:List (Nat×Sum):=[(87,xa8),(107,Dc4),(108,Na9)]
theorem ad1:l0 prog G nd9:=⟨Ba1,nd8,db3,trivial⟩
noncomputable def fb2 (x:List Pln) (y:V3):Option (b7×List b8):=let t1:=(Z0 [(rt tP x)]);let t2:=(wb2 y);let t3:=(T3 (rt tP x) (⟨y.x,y.y,y.z,1⟩:Pt));(sl ((okE tP x)&&true) (sl (Z1 [(rt tP x)]) (sl t1 (sl (wb3 y) (sl t2 (sl (okE tP x) (sl (T4 (rt tP x) (⟨y.x,y.y,y.z,1⟩:Pt)) (some ((b t3),[])) none) none) (some ((b false),[]))) none) (some ((b false),[]))) none) none)
noncomputable def fb3 (x:List Pln) (y:V3):Bool:=J9 (one r1B) (fb2 x y)
noncomputable def fb4 (x:List Pln) (y:V3):Bool:=okO (one r1B) (fb2 x y)
noncomputable def Dc5:Sum:=ia7 (W6 tP) (O8 tV) (fun x y=>.guard (fb4 x y) (.ret ((one r1B).enc (fb3 x y),[])))
theorem od0:i6 prog G 28 Dc5:=bb2 (bd b28 ad1) (one r1B) (o:=fb2) fun x y=>s5 (by kernel_rfl)
noncomputable def Kc9:List (Nat×Sum):=[(87,xa8),(88,Jb6),(92,Ea2)]
theorem Dc6:l0 prog G Kc9:=⟨Ba1,Rb6,Wa7,trivial⟩
noncomputable def Ka1 (x:List Pln) (y:List Pln):Option (b7×List b8):=let t1:=(Z0 [(rt tP x),(rt tP y)]);let t2:=(Ma6 [(rt tP x),(rt tP y)]);let t3:=(ca3 (rt tP t2));(sl ((okE tP x)&&((okE tP y)&&true)) (sl (Z1 [(rt tP x),(rt tP y)]) (sl (!t1) (some ((b true),[])) (sl ((okE tP x)&&((okE tP y)&&true)) (sl (Ma7 [(rt tP x),(rt tP y)]) (sl (okE tP t2) (sl (ca4 (rt tP t2)) (some ((b (!t3)),[])) none) none) none) none)) none) none)
noncomputable def na7 (x:List Pln) (y:List Pln):Bool:=J9 (one r1B) (Ka1 x y)
noncomputable def na8 (x:List Pln) (y:List Pln):Bool:=okO (one r1B) (Ka1 x y)
noncomputable def wb4:Sum:=ia7 (W6 tP) (W6 tP) (fun x y=>.guard (na8 x y) (.ret ((one r1B).enc (na7 x y),[])))
theorem Nb9:i6 prog G 31 wb4:=bb2 (bd b31 Dc6) (one r1B) (o:=Ka1) fun x y=>s5 (by kernel_rfl)
structure Da4 where
 la8:Int
 la9:Int
 ma0:Int
 gb0:Int
 b9:List Pln
noncomputable def ic7:List (Nat×Sum):=[(108,Na9)]
theorem bc5:l0 prog G ic7:=⟨db3,trivial⟩
structure pa7 where
 alt:Nat
 bs0:Bool
noncomputable def ea7 {α:Type} (kk:pa7→α) (x:Da4):α:=let t1:=(T3 (rt tP x.b9) (⟨x.la8,x.la9,x.ma0,x.gb0⟩:Pt));(sl (okE tP x.b9) (sl (T4 (rt tP x.b9) (⟨x.la8,x.la9,x.ma0,x.gb0⟩:Pt)) (kk ⟨1,(!t1)⟩) (kk ⟨0,false⟩)) (kk ⟨0,false⟩))
noncomputable def Da5 (x:Da4):pa7:=ea7 (fun r=>r) x
noncomputable def Na3 (x:Da4) (r:pa7):DT (b7×List b8):=(.ite (Nat.beq r.alt 1) (.ret ((b r.bs0),[⟨0,1,[[(eL tP x.b9)]],true,false,0⟩])) .fail)
theorem pc8 {α β:Type} (F:α→β) (kk:pa7→α) (x:Da4):F (ea7 kk x)=ea7 (fun r=>F (kk r)) x:=by unfold ea7;(repeat' apply n7 (f:=F))<;>rfl
noncomputable def xb7:Sum:=bb3 ⟨[(.agg [(.o (.int .i64)),(.o (.int .i64)),(.o (.int .i64)),(.o (.int .i64))]),(.s (.o (.ptr 0 0 0 0)))],[⟨0,1,true,(some [[(.c 4 (nL tP))]])⟩],fun a H=>(⟨(toI (slT (cellsOf (slT a 0)) 0)),(toI (slT (cellsOf (slT a 0)) 1)),(toI (slT (cellsOf (slT a 0)) 2)),(toI (slT (cellsOf (slT a 0)) 3)),(rL tP (slT (rwT (elT H 0) 0) 0))⟩,())⟩ (fun x=>Na3 x (Da5 x))
theorem ic8:i6 prog G 114 xb7:=P6 (enc:=fun x=>⟨[(.agg [(i x.la8),(i x.la9),(i x.ma0),(i x.gb0)]),(.ptr 0 0 0 0)],[⟨0,1,[[(eL tP x.b9)]],true,false,0⟩]⟩) (fun a H=>by kernel_rfl) (bd De0 bc5) fun x=>s5 (Eq.trans (b:=ea7 (fun r=>(Na3 x r).run) x) (by kernel_rfl) (pc8 (fun r=>(Na3 x r).run) (fun r=>r) x).symm)
structure R5 where
 A9:List Pt
 b9:List Pln
noncomputable def wa2:List (Nat×Sum):=[(114,xb7)]
theorem Za1:l0 prog G wa2:=⟨ic8,trivial⟩
structure G5 where
 A9:List Pt
 is7:Int
structure o6 where
 is8:Int
 b9:List Pln
noncomputable def Wa2 (p:G5) (s:o6):St:=⟨((eL tX p.A9)::((.fn 114 [(.ptr 0 0 0 0)])::(ra 5 ((i p.is7)::((i s.is8)::(ra 10 [])))))),[⟨0,1,[[(eL tP s.b9)]],true,false,0⟩]⟩
noncomputable def C0 {α:Type} (k:o6→α) (e:Nat→α) (z:α) (p:G5) (s:o6):α:=let t1:=(Da5 ⟨(gL tX p.A9 s.is8.toNat).px,(gL tX p.A9 s.is8.toNat).py,(gL tX p.A9 s.is8.toNat).pz,(gL tX p.A9 s.is8.toNat).pw,(rt tP s.b9)⟩);(sl (decide (s.is8 < p.is7)) (sl (inB s.is8 (List.length p.A9)) (sl ((cnE tP s.b9)&&true) (sl (Nat.beq t1.alt 1) (sl t1.bs0 (e 1) (k ⟨(W (s.is8+1)),(rt tP s.b9)⟩)) z) z) z) (e 2))
noncomputable def E3 (p:G5) (s:o6):Stp o6:=C0 .next .exit .fail p s
noncomputable def aa3:Lo G5 o6:=⟨En wa2,1,Pd1,[1,0,1,4,4],[0,1,7,8],.p,[⟨((.s (.c 4 (nL tX)))::((.fn 114 [(.o (.ptr 0 0 0 0))])::(ru2 5 ((.s (.o (.int .i64)))::((.s (.o (.int .i64)))::(ru2 10 [])))))),[⟨0,1,true,(some [[(.c 4 (nL tP))]])⟩],fun a H=>(⟨(rL tX (slT a 0)),(toI (slT a 7))⟩,⟨(toI (slT a 8)),(rL tP (slT (rwT (elT H 0) 0) 0))⟩)⟩],E3,[(none,fun p s=>⟨[(i s.is8)],[⟨0,1,[[(eL tP (rt tP s.b9))]],true,false,0⟩]⟩),(some 0,fun p s=>⟨((eL tX p.A9)::((.fn 114 [(.ptr 0 0 0 0)])::(ra 5 ((i p.is7)::((i s.is8)::((b (decide (s.is8 < p.is7)))::(ra 9 []))))))),[⟨0,1,[[(eL tP s.b9)]],true,false,0⟩]⟩)],Wa2⟩
theorem Wa3:aa3.Ok:=Lo.ok [] (by kernel_rfl) .nil rfl (.cons (fun a H=>by kernel_rfl) .nil) fun p s=>(.of @C0 (fun F _ _ _ _ _=>by unfold C0;(repeat' apply n7 (f:=F))<;>rfl) (by kernel_rfl))
structure R6 where
 alt:Nat
 is0:Int
 b9:List Pln
noncomputable def D0 {α:Type} (kk:R6→α) (x:R5):α:=let t1:=(lp (E3 (⟨(rt tX x.A9),(↑(List.length x.A9):Int)⟩:G5)) (⟨0,(rt tP x.b9)⟩:o6));(sl ((cnE tX x.A9)&&((cnE tP x.b9)&&true)) (sl (Nat.beq t1.1 1) (kk ⟨1,t1.2.is8,(rt tP t1.2.b9)⟩) (sl (Nat.beq t1.1 2) (kk ⟨1,(-1),t1.2.b9⟩) (kk ⟨0,0,[]⟩))) (kk ⟨0,0,[]⟩))
noncomputable def ea1 (x:R5):R6:=D0 (fun r=>r) x
noncomputable def ca8 (x:R5) (r:R6):DT (b7×List b8):=(.ite (Nat.beq r.alt 1) (.ret ((i r.is0),[⟨0,1,[[(eL tP r.b9)]],true,false,0⟩])) .fail)
theorem ib6 {α β:Type} (F:α→β) (kk:R6→α) (x:R5):F (D0 kk x)=D0 (fun r=>F (kk r)) x:=by unfold D0;(repeat' apply n7 (f:=F))<;>rfl
noncomputable def ya9:Sum:=bb3 ⟨[(.s (.c 4 (nL tX))),(.fn 114 [(.o (.ptr 0 0 0 0))])],[⟨0,1,true,(some [[(.c 4 (nL tP))]])⟩],fun a H=>(⟨(rL tX (slT a 0)),(rL tP (slT (rwT (elT H 0) 0) 0))⟩,())⟩ (fun x=>ca8 x (ea1 x))
theorem fb5:i6 prog G 185 ya9:=P6 (enc:=fun x=>⟨[(eL tX x.A9),(.fn 114 [(.ptr 0 0 0 0)])],[⟨0,1,[[(eL tP x.b9)]],true,false,0⟩]⟩) (fun a H=>by kernel_rfl) (bd ve5 Za1) fun x=>za4 (.s .p (.s (.s .p (.b (.u aa3.ls))) .p)) [aa3.pr] (by kernel_rfl) (.cons Wa3 .nil) (Eq.trans (b:=D0 (fun r=>(ca8 x r).run) x) (by kernel_rfl) (ib6 (fun r=>(ca8 x r).run) (fun r=>r) x).symm)
structure L3 where
 A9:List Pt
 b9:List Pln
noncomputable def Sa5:List (Nat×Sum):=[(185,ya9)]
theorem Na4:l0 prog G Sa5:=⟨fb5,trivial⟩
structure L4 where
 alt:Nat
 bs0:Bool
 b9:List Pln
noncomputable def A1 {α:Type} (kk:L4→α) (x:L3):α:=let t1:=(ea1 ⟨(rt tX x.A9),(rt tP x.b9)⟩);(sl ((cnE tX x.A9)&&((cnE tP x.b9)&&true)) (sl (Nat.beq t1.alt 1) (kk ⟨1,(decide (t1.is0≥0)),t1.b9⟩) (kk ⟨0,false,[]⟩)) (kk ⟨0,false,[]⟩))
noncomputable def X8 (x:L3):L4:=A1 (fun r=>r) x
noncomputable def V6 (x:L3) (r:L4):DT (b7×List b8):=(.ite (Nat.beq r.alt 1) (.ret ((b r.bs0),[⟨0,1,[[(eL tP r.b9)]],true,false,0⟩])) .fail)
theorem Wa4 {α β:Type} (F:α→β) (kk:L4→α) (x:L3):F (A1 kk x)=A1 (fun r=>F (kk r)) x:=by unfold A1;(repeat' apply n7 (f:=F))<;>rfl
noncomputable def pa8:Sum:=bb3 ⟨[(.s (.c 4 (nL tX))),(.fn 114 [(.o (.ptr 0 0 0 0))])],[⟨0,1,true,(some [[(.c 4 (nL tP))]])⟩],fun a H=>(⟨(rL tX (slT a 0)),(rL tP (slT (rwT (elT H 0) 0) 0))⟩,())⟩ (fun x=>V6 x (X8 x))
theorem Sa6:i6 prog G 113 pa8:=P6 (enc:=fun x=>⟨[(eL tX x.A9),(.fn 114 [(.ptr 0 0 0 0)])],[⟨0,1,[[(eL tP x.b9)]],true,false,0⟩]⟩) (fun a H=>by kernel_rfl) (bd ve4 Na4) fun x=>s5 (Eq.trans (b:=A1 (fun r=>(V6 x r).run) x) (by kernel_rfl) (Wa4 (fun r=>(V6 x r).run) (fun r=>r) x).symm)
noncomputable def Dc7:List (Nat×Sum):=[(20,Ra2),(87,xa8),(18,Ba4),(113,pa8)]
theorem pc9:l0 prog G Dc7:=⟨Ya4,Ba1,Ia7,Sa6,trivial⟩
noncomputable def Ca3 (x:List Pln) (y:List Pln):Option (b7×List b8):=let t1:=(ma8 (rt tP x));let t2:=(Z0 [(rt tP y)]);let t3:=(aa9 (rt tP x));let t4:=(X8 ⟨(rt tX t3),(rt tP y)⟩);(sl (okE tP x) (sl (ma9 (rt tP x)) (sl t1 (sl ((okE tP y)&&true) (sl (Z1 [(rt tP y)]) (sl t2 (sl (okE tP x) (sl (ba0 (rt tP x)) (sl ((cnE tX t3)&&((cnE tP y)&&true)) (sl (Nat.beq t4.alt 1) (some ((b (!t4.bs0)),[])) none) none) none) none) (some ((b false),[]))) none) none) (some ((b false),[]))) none) none)
noncomputable def ia3 (x:List Pln) (y:List Pln):Bool:=J9 (one r1B) (Ca3 x y)
noncomputable def ia4 (x:List Pln) (y:List Pln):Bool:=okO (one r1B) (Ca3 x y)
noncomputable def ob0:Sum:=ia7 (W6 tP) (W6 tP) (fun x y=>.guard (ia4 x y) (.ret ((one r1B).enc (ia3 x y),[])))
theorem Gb3:i6 prog G 33 ob0:=bb2 (bd b33 pc9) (one r1B) (o:=Ca3) fun x y=>s5 (by kernel_rfl)
noncomputable def od1:List (Nat×Sum):=[]
theorem ad2:l0 prog G od1:=trivial
structure wb5 where
 e8:Int
 M6:Int
 M7:Int
 M8:Int
 M9:Int
 N0:Int
noncomputable def fb6 {α:Type} (kk:wb5→α) (x:V3) (y:V3):α:=(kk ⟨y.x,(W (0 - x.x)),y.y,(W (0 - x.y)),y.z,(W (0 - x.z))⟩)
noncomputable def Dc8 (x:V3) (y:V3):wb5:=fb6 (fun r=>r) x y
noncomputable def Gb4 (r:wb5):DT (b7×List b8):=.ret ((.sl 0 0 6 0),[⟨50,4,[[(i 1),(i 0),(i 0),(i r.e8)],[(i (-1)),(i 0),(i 0),(i r.M6)],[(i 0),(i 1),(i 0),(i r.M7)],[(i 0),(i (-1)),(i 0),(i r.M8)],[(i 0),(i 0),(i 1),(i r.M9)],[(i 0),(i 0),(i (-1)),(i r.N0)]],true,false,0⟩])
theorem wd2 {α β:Type} (F:α→β) (kk:wb5→α) (x:V3) (y:V3):F (fb6 kk x y)=fb6 (fun r=>F (kk r)) x y:=by unfold fb6;(repeat' apply n7 (f:=F))<;>rfl
noncomputable def Dc9:Sum:=ia7 (O8 tV) (O8 tV) (fun x y=>Gb4 (Dc8 x y))
theorem od2:i6 prog G 111 Dc9:=xa2 (bd ve3 ad2) fun x y=>s5 (Eq.trans (b:=fb6 (fun r=>(Gb4 r).run) x y) (by kernel_rfl) (wd2 (fun r=>(Gb4 r).run) (fun r=>r) x y).symm)
noncomputable def Lc0:List (Nat×Sum):=[(111,Dc9)]
theorem Ec0:l0 prog G Lc0:=⟨od2,trivial⟩
structure Za2 where
 e8:Int
 M6:Int
 M7:Int
 M8:Int
 M9:Int
 N0:Int
noncomputable def Ka2 {α:Type} (kk:Za2→α)  : α:=let t1:=(Dc8 (⟨0,0,0⟩:V3) (⟨1,1,1⟩:V3));(kk ⟨t1.e8,t1.M6,t1.M7,t1.M8,t1.M9,t1.N0⟩)
noncomputable def wb6  : Za2:=Ka2 (fun r=>r)
noncomputable def ob1 (r:Za2):DT (b7×List b8):=.ret ((.sl 0 0 6 0),[⟨50,4,[[(i 1),(i 0),(i 0),(i r.e8)],[(i (-1)),(i 0),(i 0),(i r.M6)],[(i 0),(i 1),(i 0),(i r.M7)],[(i 0),(i (-1)),(i 0),(i r.M8)],[(i 0),(i 0),(i 1),(i r.M9)],[(i 0),(i 0),(i (-1)),(i r.N0)]],true,false,0⟩])
theorem ad3 {α β:Type} (F:α→β) (kk:Za2→α)  : F (Ka2 kk )=Ka2 (fun r=>F (kk r))  :=by unfold Ka2;(repeat' apply n7 (f:=F))<;>rfl
noncomputable def bc6:Sum:=fd0  (ob1 (wb6 ))
theorem Lc1:i6 prog G 81 bc6:=yd1 (bd b81 Ec0) (s5 (Eq.trans (b:=Ka2 (fun r=>(ob1 r).run) ) (by kernel_rfl) (ad3 (fun r=>(ob1 r).run) (fun r=>r) ).symm))
end Go.Ev.Ce
end
namespace Go.Ev.Ce
open Go Go.Ev Go.Ev.L Go.Proofs
theorem Td1 (v:V3):wb2 v=inV v∧wb3 v=true:=by
 have h3:[v.x,v.y,v.z].length≤1000000000:=by simp
 have:fb1 v=some (b (inV v),[]):=by
  unfold fb1 inV
  simp only[gc6 24 _ (by omega) h3,gc7 24 _ (by omega) h3,p6]
  simp only[List.all_cons,List.all_nil,Bool.and_true]
 unfold wb2 wb3
 rw[this]
 exact⟨rfl,rfl⟩
noncomputable def has (c:List Pln) (v:V3):Bool:=(chk c==0)&&(inV v&&inn c ⟨v.x,v.y,v.z,1⟩)
theorem Td2 {c:List Pln} (hc:c.length≤1000000000) (v:V3):fb2 c v=some (b (has c v),[]):=by
 unfold fb2 has
 simp only[n5,I0,Zb8 c hc,Zb9 c hc,(Td1 v).1,(Td1 v).2,zc7 c _ hc,zc8 c _ hc]
 cases chk c==0 with
 | false=>rfl
 | true=>cases inV v<;>rfl
theorem xe1 {c:List Pln} (hc:c.length≤1000000000) (v:V3):fb3 c v=has c v:=by unfold fb3;rw[Td2 hc];rfl
theorem xe2 {c:List Pln} (hc:c.length≤1000000000) (v:V3):fb4 c v=true:=by unfold fb4;rw[Td2 hc];rfl
theorem od3 {a c:List Pln} (ha:(chk a==0)=true) (hc:(chk c==0)=true):Bds (a++c++ws)∧(a++c++ws).length≤200:=by
 rw[beq_iff_eq,kd8] at ha hc
 refine⟨fun p hp=>?_,by rw[List.length_append,List.length_append,show ws.length=6 from rfl];omega⟩
 rcases List.mem_append.1 hp with hp | hp
 ·rcases List.mem_append.1 hp with hp | hp
  ·exact Xc6 (ha.2 p hp)
  ·exact Xc6 (hc.2 p hp)
 ·exact he1 p hp
noncomputable def apart (a c:List Pln):Bool:=!((chk a==0)&&(chk c==0))||!ld5 (a++c++ws)
theorem od4 {a c:List Pln} (ha:a.length≤100000000) (hc:c.length≤100000000):Ka1 a c=some (b (apart a c),[]):=by
 have hn:[a,c].length≤1000000000:=by simp
 have hl:∀ x∈[a,c],x.length≤1000000000:=by
  intro x hx
  simp only[List.mem_cons,List.not_mem_nil,or_false] at hx
  rcases hx with rfl | rfl<;>omega
 have hf:[a,c].flatten=a++c:=by simp
 have hfl:[a,c].flatten.length≤1000000000:=by rw[hf,List.length_append];omega
 unfold Ka1 apart
 simp only[n5,I0,ld3 _ hn hl,ld4 _ hn hl,we0 _ hn hfl,we1 _ hn hfl,hf,List.all_cons,List.all_nil,Bool.and_true]
 cases h1:chk a==0 with
 | false=>rfl
 | true =>
  cases h2:chk c==0 with
  | false=>rfl
  | true =>
   obtain⟨q1,q2⟩:=od3 h1 h2
   rw[Qd9 _ q1 q2,Rd0 _ q1 q2]
   rfl
theorem ad4 {a c:List Pln} (ha:a.length≤100000000) (hc:c.length≤100000000):na7 a c=apart a c:=by unfold na7;rw[od4 ha hc];rfl
theorem ad5 {a c:List Pln} (ha:a.length≤100000000) (hc:c.length≤100000000):na8 a c=true:=by unfold na8;rw[od4 ha hc];rfl
noncomputable def od5 (a c:List Pln):Bool:=ful a&&((chk c==0)&&(pts a).all (inn c))
theorem wd3 (x:Pt) (c:List Pln) (hc:c.length≤1000000000):Da5 ⟨x.px,x.py,x.pz,x.pw,c⟩=⟨1,!inn c x⟩:=by
 unfold Da5 ea7
 simp only[n5,I0,p6]
 show sl (T4 c x) (pa7.mk 1 (!T3 c x)) _=_
 rw[zc7 c x hc,zc8 c x hc]
 rfl
theorem Rc2 {a c:List Pln} (ha:a.length≤1000000000) (hc:c.length≤1000000000):Ca3 a c=some (b (od5 a c),[]):=by
 have hX:=rc8 a
 have h:=jb7 (step:=E3 ⟨pts a,((pts a).length:Int)⟩) (mk:=fun j=>(⟨(j:Int),c⟩:o6)) (c:=fun x=>!inn c x) (u:=1) (fin:=2) tX (pts a) (by omega)
  (fun j hj=>by
   simp only[E3,C0,Int.toNat_natCast,n5,o7,wd3 _ _ hc,q8 hj (show (pts a).length≤4611686018427387904 by omega)]
   rw[btD (p4 hj),bt (g9 hj)]
   rfl)
  (by simp only[E3,C0];rw[bfD (Y2 (Nat.lt_irrefl _))]) 0 (Nat.zero_le _)
 rw[List.drop_zero] at h
 have e:((pts a).any fun x=>!inn c x)=!(pts a).all (inn c):=by rw[List.not_all_eq_any_not]
 unfold Ca3 X8 A1 ea1 D0 od5
 simp only[n5,o7,I0,Ac8 ha,Ac9 ha,Zb8 c hc,Zb9 c hc,Fb2 ha,Fb3 ha]
 rw[show (⟨0,c⟩:o6)=⟨((0:Nat):Int),c⟩ from rfl,h,e]
 cases ful a with
 | false=>rfl
 | true =>
  cases chk c==0 with
  | false=>rfl
  | true =>
   cases (pts a).all (inn c) with
   | true=>rfl
   | false =>
    simp only[Bool.not_false,if_true,Nat.zero_add]
    show some (b (!(decide ((((pts a).findIdx fun x=>!inn c x:Nat):Int)≥0))),[])=_
    rw[show decide ((((pts a).findIdx fun x=>!inn c x:Nat):Int)≥0)=true from decide_eq_true (by omega)]
    rfl
theorem Ec1 {a c:List Pln} (ha:a.length≤1000000000) (hc:c.length≤1000000000):ia3 a c=od5 a c:=by unfold ia3;rw[Rc2 ha hc];rfl
theorem Ec2 {a c:List Pln} (ha:a.length≤1000000000) (hc:c.length≤1000000000):ia4 a c=true:=by unfold ia4;rw[Rc2 ha hc];rfl
end Go.Ev.Ce
namespace Go.Ev.L
open Go Go.Ev Go.Sort Go.Proofs
section
variable {α:Type} [Inhabited α] {P:Program} {G:Nat→List Value} {g:FuncId} {S:Sum} {t:Ty α} {enc:α→List Value} {cf:α→α→Int}
theorem ce6 (hc : i6 P G g S) (hS : ∀ x y, (S [.agg (t.row x), .agg (t.row y)] []).run = some (i (cf x y), [])) (hG : ∀ n, G n = []) (he : ∀ x, t.row x = (enc x).map .v) (k blk off size : Nat) (w : World) :
  CmpLays P g #[] enc k cf blk off size w:=by
 intro m os dk _ x y
 generalize sortWorldK enc k w blk off m dk os=w0
 have hrow:∀ (z:α),X9 (fun _=>⟨0,0,0⟩) [] (fun _ _=>False) w0 (.agg (t.row z)) (.agg (enc z).toArray):=fun z=>by
  refine .agg _ _ (by rw[he];simp) fun i u u' hu hu'=>?_
  rw[he,List.getElem?_map] at hu
  have hu':(enc z)[i]?=some u':=by simpa using hu'
  rw[hu'] at hu
  injection hu with hu
  subst hu
  exact .v _
 obtain⟨_,h⟩:=hc _ _ _ _ (hS x y) (fun k=>w0.heap.size≤k) (fun _=>⟨0,0,0⟩) (fun _ _=>False) w0 [.agg (enc x).toArray,.agg (enc y).toArray]
  ⟨fun id b hb=>by simp at hb,fun id id' b b' hb=>by simp at hb,fun b o hf=>hf.elim,fun k hk=>hk⟩ rfl
  (fun i u u' hu hu'=>by
   match i,hu,hu' with
   | 0,hu,hu'=>cases hu;cases hu';exact .val (hrow x)
   | 1,hu,hu'=>cases hu;cases hu';exact .val (hrow y))
  (fun n c v hv=>by rw[hG] at hv;simp at hv)
 refine h.mono fun e w' ⟨r',h1,ρ',F',h2,h3,h4⟩=>?_
 have h5:=aa7 h4
 subst h5
 refine⟨h1,w'.drawn - w0.drawn,w'.heap.extract w0.heap.size w'.heap.size,?_⟩
 have hd:=h2.ext.drawn
 have hs:=h2.ext.size
 have hheap:w'.heap=w0.heap++w'.heap.extract w0.heap.size w'.heap.size:=by
  apply Array.ext_getElem?
  intro j
  rcases Nat.lt_or_ge j w0.heap.size with hj | hj
  ·rw[Array.getElem?_append_left hj,h2.ext.block j hj (by omega)]
  ·rw[Array.getElem?_append_right hj,Array.getElem?_extract]
   have e:w0.heap.size+(j - w0.heap.size)=j:=by omega
   rw[e]
   split
   ·rfl
   ·rw[Array.getElem?_eq_none (by omega)]
 obtain⟨hp,tp,dr,os',out⟩:=w'
 have e1:=h2.ext.os;have e2:=h2.ext.tape;have e3:=h2.ext.output
 simp only at e1 e2 e3 hd hheap
 subst e1 e2 e3
 unfold grow World.drewN
 simp only
 congr 1
 omega
noncomputable def Td3 (t:Ty α) (g:Nat) (et:Nat) (srt:List α→List α):Sum:=fun args blks=>match args,blks with
 | [.sl 0 0 n 0,.fn g' []],[⟨et',es',el,true,false,0⟩] =>
  Bool.rec (motive:=fun _=>DT (b7×List b8)) .fail (.guard (Bool.and (Nat.ble n room) (Bool.and (Nat.ble n (len el)) (okS t el 0 n))) (.ret (.v (.tuple #[]),[⟨et',es',app (bL t (srt (slR t el 0 n))) (d8 el n),true,false,0⟩])))
   (Bool.and (Nat.beq g' g) (Bool.and (Nat.beq et' et) (Nat.beq es' t.es)))
 | _,_=>.fail
theorem bc7 (l:List α) (j:Nat) (h:j < l.length):l.toArray[j]! = l[j]:=by
 rw[getElem!_pos l.toArray j (by simpa using h)]
 simp
theorem ce7 {f : FuncId} {et : Nat} {srt : List α → List α} (hcall : Ab4 P f) (hes : 0 < t.es) (he : ∀ x, t.row x = (enc x).map .v) (hx : ∀ r, t.ok r = true → r = t.row (t.rd r)) (h1 : ∀ x, ∀ v ∈ enc x, v.oneCell' = true)
  (hlen:∀ l,(srt l).length=l.length) (hcl:∀ blk off size w,CmpLays P g #[] enc t.es cf blk off size w)
  (hcon:∀ (blk cap:Nat) (d:Array α) (w:World),(∀ off size,CmpLays P g #[] enc t.es cf blk off size w)→HoldsK enc t.es w blk 0 d→blk < w.heap.size→d.size < 4611686018427387904 →
   Calls P f #[.slice (some ⟨blk,0,none⟩) d.size cap,.func (.func g) #[] #[]] w fun e w'=>e=.returned (.tuple #[])∧∃ n os,w'=sortWorldK enc t.es w blk 0 n (srt d.toList).toArray os) :
  i6 P G f (Td3 t g et srt):=by
 intro args blks r out hr W ρ F w args' hH hl hargs hG
 refine⟨hcall,?_⟩
 unfold Td3 at hr
 split at hr
 case h_2=>cases hr
 rename_i n g' et' es' el
 cases hb0:Bool.and (Nat.beq g' g) (Bool.and (Nat.beq et' et) (Nat.beq es' t.es)) with
 | false=>rw[hb0] at hr;cases hr
 | true =>
 rw[hb0] at hr
 rw[Bool.and_eq_true,Bool.and_eq_true] at hb0
 have q1:=Nat.eq_of_beq_eq_true hb0.1;have q2:=Nat.eq_of_beq_eq_true hb0.2.1;have q3:=Nat.eq_of_beq_eq_true hb0.2.2
 subst q1 q2 q3
 obtain⟨hg0,hr⟩:=DT.run_guard_some hr
 rw[Bool.and_eq_true,Bool.and_eq_true] at hg0
 have hroom:n≤room:=Nat.le_of_ble_eq_true hg0.1
 have hn:=Nat.le_of_ble_eq_true hg0.2.1
 rw[l9] at hn
 have hok:=hg0.2.2
 injection hr with hr;injection hr with p1 p2;subst p1 p2
 match args',hl with
 | [v0,v1],_ =>
 obtain⟨a,cap,b,rfl,hb,hd,_,hncap,hspot,hcap,hq⟩:=za2 (hargs 0 _ _ rfl rfl)
 obtain⟨vs1,rfl,hvs1,_⟩:=rb6 (hargs 1 _ _ rfl rfl)
 have hvs1:vs1=#[]:=Array.eq_empty_of_size_eq_zero (by simpa using hvs1.symm)
 subst hvs1
 rw[Za5] at *
 have hb:b=⟨et',t.es,el,true,false,0⟩:=by simpa using hb.symm
 subst hb
 obtain⟨ha,hsz,hne⟩:=hq rfl
 have ha:a=⟨(ρ 0).blk,(ρ 0).off+0*t.es,none⟩:=ha.resolve_left fun h=>by omega
 obtain⟨cc,tt,fr,hB⟩:=hH.blk 0 _ rfl rfl
 obtain⟨hfr,hW,hoff,hsize,hnF,het⟩:=hB.own rfl
 subst hfr
 rw[hoff,Nat.zero_mul,Nat.add_zero] at ha
 subst ha
 generalize hbk:(ρ 0).blk=blk at *
 -- the rows as data
 have hrow:∀ j,j < n→d9 el j=(enc (gL t (slR t el 0 n) j)).map .v:=fun j hj=>by
  have h2:t.ok (d9 el (0+j))=true:=List.all_eq_true.1 hok j (by simpa using hj)
  rw[Nat.zero_add] at h2
  rw[← he,slR,yd4 t _ hj,Nat.zero_add]
  exact hx _ h2
 have hld:(slR t el 0 n).length=n:=Uc3 ..
 have hk:∀ x,(enc x).length=t.es:=fun x=>by have:=t.h0 x;rw[l9,he] at this;simpa using this
 have hlt:blk < w.heap.size:=by
  have:=hB.obj
  rcases Nat.lt_or_ge blk w.heap.size with h | h
  ·exact h
  ·rw[hbk,Array.getElem?_eq_none h] at this;cases this
 have hobj:w.heap[blk]?=some (.cells cc tt (0,0)):=by rw[← hbk];exact hB.obj
 have hgd:∀ (l:List α) (j:Nat) (h:j < l.length),gL t l j=l[j]:=fun l j h=>by simp[gL,List.getD_eq_getElem?_getD,List.getElem?_eq_getElem h]
 have hdm:∀ q,q < n*t.es→q / t.es < n∧q % t.es < t.es∧(q / t.es)*t.es+q % t.es=q:=fun q hq=>⟨Nat.div_lt_of_lt_mul (by rw[Nat.mul_comm];exact hq),Nat.mod_lt _ hes,Nat.div_add_mod' q t.es⟩
 have hrowAt:∀ j,j < el.length→el[j]?=some (d9 el j):=fun j hj=>by
  unfold d9;rw[A2,List.getElem?_eq_getElem hj]
 have hH0:HoldsK enc t.es w blk 0 (slR t el 0 n).toArray:=by
  intro q hq
  have hq:q < n*t.es:=by rw[size_flatK] at hq;simpa [hld] using hq
  obtain⟨e1,e2,e3⟩:=hdm q hq
  rw[get_flatK _ _ _ _ (by simpa [hld] using hq),bc7 _ _ (by rw[hld];exact e1),← hgd _ _ (by rw[hld];exact e1)]
  have hcx:(d9 el (q / t.es))[q % t.es]?=some (.v ((enc (gL t (slR t el 0 n) (q / t.es)))[q % t.es]!)):=by
   rw[hrow _ e1,List.getElem?_map,List.getElem?_eq_getElem (by rw[hk];exact e2),getElem!_pos _ _ (by rw[hk];exact e2)]
   rfl
  obtain⟨x',h5,h6⟩:=hB.cell (q / t.es) _ (q % t.es) _ (hrowAt _ (by omega)) hcx
  have h6:x'=(enc (gL t (slR t el 0 n) (q / t.es)))[q % t.es]! :=by cases h6;rfl
  subst h6
  rw[hoff] at h5
  simp only[e3,Nat.zero_add] at h5
  constructor
  ·simp only[World.cell?,hobj,Nat.zero_add]
   simpa using h5
  ·simp[World.frozen?,hobj]
 have hds:(slR t el 0 n).toArray.size=n:=by simpa using hld
 have hmax:n < 4611686018427387904:=by unfold room at hroom;omega
 have hcalls:=hcon blk cap (slR t el 0 n).toArray w (fun off size=>hcl blk off size w) hH0 hlt (by rw[hds];exact hmax)
 rw[hds] at hcalls
 refine hcalls.mono fun e w' ⟨h5,m,os,h6⟩=>⟨_,h5,ρ,F,?_⟩
 generalize hsd:srt (slR t el 0 n)=sd at *
 have hsl:sd.length=n:=by rw[← hsd,hlen,hld]
 have h6:w'=grow (mapBlock (Sort.ahead w m) blk (putCells id 0 (flatK enc t.es sd.toArray))) os:=h6
 have hw'size:w'.heap.size=w.heap.size+os.size:=by rw[h6];simp[mapBlock]
 have hold:∀ k,k < w.heap.size→k≠blk→w'.heap[k]?=w.heap[k]?:=fun k h7 h8=>by
  rw[h6]
  simp only[grow,mapBlock]
  rw[Array.getElem?_append_left (by simpa using h7),Array.getElem?_modify]
  simp[Ne.symm h8]
 have hnew:w'.heap[blk]?=some (.cells (putCells id 0 (flatK enc t.es sd.toArray) cc) tt (0,0)):=by
  rw[h6]
  simp only[grow,mapBlock]
  rw[Array.getElem?_append_left (by simpa using hlt),Array.getElem?_modify]
  simp[hobj,onCells]
 have hcells:∀ b o,F b o→w'.cell? ⟨b,o,none⟩=w.cell? ⟨b,o,none⟩:=fun b o hf=>by
  have h7:b≠blk:=fun h8=>hnF o (h8 ▸ hf)
  have:=rb3 (hH.frz b o hf)
  simp only[World.cell?,hold b this h7]
 have hpc:∀ q,q < cc.size→(putCells id 0 (flatK enc t.es sd.toArray) cc)[q]?=if q < n*t.es then some ((enc sd.toArray[q / t.es]!)[q % t.es]!) else cc[q]?:=fun q hq=>by
  simp only[putCells,Array.getElem?_mapIdx,Array.getElem?_eq_getElem hq,Option.map_some,size_flatK,Nat.zero_le,true_and,Nat.zero_add,Nat.sub_zero,id]
  have:sd.toArray.size=n:=by simpa using hsl
  rw[this]
  split
  ·next h7=>rw[get_flatK _ _ _ _ (by rw[this];exact h7)]
  ·rfl
 have hel:(app (bL t sd) (d8 el n)).length=el.length:=by
  rw[D1,List.length_append,← l9 (bL t sd),J8,hsl,D5,List.length_drop]
  omega
 have hnrow:∀ (j:Nat) r,(app (bL t sd) (d8 el n))[j]?=some r→(j < n∧r=t.row (gL t sd j))∨(n≤j∧el[j]?=some r):=fun j r hr=>by
  have hlb:(bL t sd).length=n:=by rw[← l9,J8,hsl]
  rw[D1] at hr
  rcases Nat.lt_or_ge j n with h7 | h7
  ·rw[List.getElem?_append_left (by omega)] at hr
   left
   refine⟨h7,?_⟩
   unfold bL at hr
   rw[m9,List.getElem?_map,List.getElem?_eq_getElem (by omega)] at hr
   injection hr with hr
   rw[← hr,hgd sd j (by omega)]
  ·rw[List.getElem?_append_right (by omega),hlb,D5,List.getElem?_drop] at hr
   right
   exact⟨h7,by rw[← hr];congr 1;omega⟩
 have hcs:el.length*t.es≤cc.size:=by have:=hB.len;rw[hsize] at this;exact this
 refine⟨⟨⟨?_,?_,?_,by omega,fun k h7 h8=>hold k h7 fun h9=>h8 (h9 ▸ hW),hcells,?_⟩,fun id b hb=>?_,fun _ _ h=>h,fun _ _ h=>.inl h,fun id b' hb' hn'=>?_⟩,⟨fun id b hb hd'=>?_,fun id id' b b' hb hb' h7 h8 h9 h10=>?_,fun b o hf=>by rw[hcells b o hf];exact hH.frz b o hf,fun k hk'=>hH.new k (by omega)⟩,.ofv _⟩
 ·rw[h6];rfl
 ·rw[h6];rfl
 ·rw[h6];rfl
 ·rw[h6];exact Nat.le_add_right _ _
 ·match id,hb with
  | 0,hb =>
   cases hb
   exact⟨_,rfl,rfl,Nat.le_refl _,fun _=>⟨rfl,rfl,by simp only[hel];exact Nat.le_refl _⟩⟩
 ·match id,hb' with
  | 0,hb'=>cases hb';exact absurd rfl (hn' ⟨et',t.es,el,true,false,0⟩ rfl)
 ·match id,hb with
  | 0,hb =>
   cases hb
   refine⟨_,tt,(0,0),by rw[hbk];exact hnew,?_,?_,?_,?_,fun _=>⟨rfl,by rw[hbk];exact hW,hoff,?_,by rw[hbk];exact hnF,het⟩,fun h=>by cases h⟩
   ·rw[hoff,hsize];simp[putCells]
   ·simp only[hel];exact hB.len
   ·intro j r hr
    rcases hnrow j r hr with⟨_,h8⟩ | ⟨_,h8⟩
    ·rw[h8,← l9];exact t.h0 _
    ·exact hB.rows j r h8
   ·intro j r c x hr hc
    rw[hoff,Nat.zero_add]
    rcases hnrow j r hr with⟨h7,h8⟩ | ⟨h7,h8⟩
    ·subst h8
     have hclt:c < t.es:=by
      have:=(List.getElem?_eq_some_iff.1 hc).1
      rw[← l9,t.h0] at this
      exact this
     have hq:j*t.es+c < n*t.es:=by
      have:=Nat.mul_le_mul_right t.es (show j+1≤n from h7)
      rw[Nat.add_mul,Nat.one_mul] at this
      omega
     have hqn:n*t.es≤el.length*t.es:=Nat.mul_le_mul_right _ hn
     have e1:(j*t.es+c) / t.es=j:=by rw[Nat.mul_comm,Nat.mul_add_div hes,Nat.div_eq_of_lt hclt,Nat.add_zero]
     have e2:(j*t.es+c) % t.es=c:=by rw[Nat.mul_comm,Nat.mul_add_mod,Nat.mod_eq_of_lt hclt]
     rw[he,List.getElem?_map,List.getElem?_eq_getElem (by rw[hk];exact hclt)] at hc
     injection hc with hc
     subst hc
     refine⟨(enc (gL t sd j))[c]'(by rw[hk];exact hclt),?_,.v _ (h1 _ _ (List.getElem_mem _))⟩
     rw[hpc _ (Nat.lt_of_lt_of_le hq (Nat.le_trans hqn hcs)),if_pos hq,e1,e2,bc7 _ _ (by omega),hgd sd j (by omega),getElem!_pos _ _ (by rw[hk];exact hclt)]
    ·obtain⟨x',h9,h10⟩:=hB.cell j r c x h8 hc
     rw[hoff,Nat.zero_add] at h9
     have hq:¬ j*t.es+c < n*t.es:=by
      have:=Nat.mul_le_mul_right t.es h7
      omega
     have hlt':j*t.es+c < cc.size:=(Array.getElem?_eq_some_iff.1 h9).1
     exact⟨x',by rw[hpc _ hlt',if_neg hq];exact h9,h10.adv (fun _ _ h=>h) hcells⟩
   ·rw[hsize];simp[putCells]
 ·match id,hb,id',hb' with
  | 0,hb,0,hb'=>exact absurd rfl h10
end
end Go.Ev.L
namespace Go.Proofs
open Go.Shelf
set_option maxRecDepth 100000 in
def Ce.sortLay_ren:Go.Shelf.Ren:=⟨fun | 6=>103 | 15=>178 | 14=>177 | 28=>230 | 29=>231 | 20=>222 | 21=>223 | 22=>224 | 23=>225 | 24=>226 | 25=>227 | 26=>228 | 27=>229 | 46=>240 | 47=>241 | 48=>242 | 49=>243 | 50=>244 | 57=>254 | n=>n,fun | 22=>25 | 24=>50 | 25=>119 | 3=>3 | 39=>185 | 0=>0 | 53=>213 | 55=>215 | 4=>4 | 46=>207 | 45=>206 | 50=>72 | 5=>5 | 9=>9 | 66=>219 | 70=>223 | 76=>231 | 77=>232 | n=>n,fun | n=>n⟩
set_option maxRecDepth 100000 in
theorem Ce.sortLay:Go.Proofs.SlLaysF0.n6 Tryz.prog Ce.sortLay_ren:={
 mixed:=by kernel_rfl
 f6:=⟨Tryz.f103.name,by decide,Tryz.func103.trans (congrArg some (by kernel_rfl))⟩
 f14:=⟨Tryz.f177.name,by decide,Tryz.func177.trans (congrArg some (by kernel_rfl))⟩
 f15:=Tryz.func178.trans (congrArg some (by kernel_rfl))
 f20:=⟨Tryz.f222.name,by decide,Tryz.func222.trans (congrArg some (by kernel_rfl))⟩
 f21:=⟨Tryz.f223.name,by decide,Tryz.func223.trans (congrArg some (by kernel_rfl))⟩
 f22:=⟨Tryz.f224.name,by decide,Tryz.func224.trans (congrArg some (by kernel_rfl))⟩
 f23:=⟨Tryz.f225.name,by decide,Tryz.func225.trans (congrArg some (by kernel_rfl))⟩
 f24:=⟨Tryz.f226.name,by decide,Tryz.func226.trans (congrArg some (by kernel_rfl))⟩
 f25:=⟨Tryz.f227.name,by decide,Tryz.func227.trans (congrArg some (by kernel_rfl))⟩
 f26:=⟨Tryz.f228.name,by decide,Tryz.func228.trans (congrArg some (by kernel_rfl))⟩
 f27:=⟨Tryz.f229.name,by decide,Tryz.func229.trans (congrArg some (by kernel_rfl))⟩
 f28:=Tryz.func230.trans (congrArg some (by kernel_rfl))
 f29:=Tryz.func231.trans (congrArg some (by kernel_rfl))
 f46:=⟨Tryz.f240.name,by decide,Tryz.func240.trans (congrArg some (by kernel_rfl))⟩
 f47:=Tryz.func241.trans (congrArg some (by kernel_rfl))
 f48:=Tryz.func242.trans (congrArg some (by kernel_rfl))
 f49:=⟨Tryz.f243.name,by decide,Tryz.func243.trans (congrArg some (by kernel_rfl))⟩
 f50:=⟨Tryz.f244.name,by decide,Tryz.func244.trans (congrArg some (by kernel_rfl))⟩
 f57:=⟨Tryz.f254.name,by decide,Tryz.func254.trans (congrArg some (by kernel_rfl))⟩
 t0:=Tryz.underlying0
 a0:=Tryz.isAgg0
 z0:=Tryz.sizeOf0
 v0:=Tryz.zeroValue0
 t3:=Tryz.underlying3
 a3:=Tryz.isAgg3
 z3:=Tryz.sizeOf3
 v3:=Tryz.zeroValue3
 t4:=Tryz.underlying4
 a4:=Tryz.isAgg4
 z4:=Tryz.sizeOf4
 v4:=Tryz.zeroValue4
 t5:=Tryz.underlying5
 a5:=Tryz.isAgg5
 z5:=Tryz.sizeOf5
 v5:=Tryz.zeroValue5
 t9:=Tryz.underlying9
 a9:=Tryz.isAgg9
 z9:=Tryz.sizeOf9
 v9:=Tryz.zeroValue9
 t22:=Tryz.underlying25
 a22:=Tryz.isAgg25
 z22:=Tryz.sizeOf25
 v22:=Tryz.zeroValue25
 t25:=Tryz.underlying119
 a25:=Tryz.isAgg119
 z25:=Tryz.sizeOf119
 v25:=Tryz.zeroValue119
 t39:=Tryz.underlying185
 a39:=Tryz.isAgg185
 z39:=Tryz.sizeOf185
 v39:=Tryz.zeroValue185
 t45:=Tryz.underlying206
 a45:=Tryz.isAgg206
 z45:=Tryz.sizeOf206
 v45:=Tryz.zeroValue206
 t46:=Tryz.underlying207
 a46:=Tryz.isAgg207
 z46:=Tryz.sizeOf207
 v46:=Tryz.zeroValue207
 t50:=Tryz.underlying72
 a50:=Tryz.isAgg72
 z50:=Tryz.sizeOf72
 v50:=Tryz.zeroValue72
 t53:=Tryz.underlying213
 a53:=Tryz.isAgg213
 z53:=Tryz.sizeOf213
 v53:=Tryz.zeroValue213
 t55:=Tryz.underlying215
 a55:=Tryz.isAgg215
 z55:=Tryz.sizeOf215
 v55:=Tryz.zeroValue215
 t66:=Tryz.underlying219
 a66:=Tryz.isAgg219
 z66:=Tryz.sizeOf219
 v66:=Tryz.zeroValue219
 t70:=Tryz.underlying223
 a70:=Tryz.isAgg223
 z70:=Tryz.sizeOf223
 v70:=Tryz.zeroValue223
 t76:=Tryz.underlying231
 a76:=Tryz.isAgg231
 z76:=Tryz.sizeOf231
 v76:=Tryz.zeroValue231
 t77:=Tryz.underlying232
 a77:=Tryz.isAgg232
 z77:=Tryz.sizeOf232
 v77:=Tryz.zeroValue232 }
end Go.Proofs
namespace Go.Ev.Ce
open Go Go.Ev Go.Ev.L Go.Proofs Go.Sort
def bc8 (x y:Int):Int:=if x < y then -1 else if x > y then 1 else 0
def ob2 (x y:Pln):Int :=
 if bc8 x.n.x y.n.x=0 then if bc8 x.n.y y.n.y=0 then if bc8 x.n.z y.n.z=0 then bc8 x.b y.b else bc8 x.n.z y.n.z else bc8 x.n.y y.n.y else bc8 x.n.x y.n.x
theorem rc9 (x y:Int):bc8 x y < 0↔x < y:=by unfold bc8;split<;>(try split)<;>omega
theorem ad6 (x y:Int):bc8 x y=0↔x=y:=by unfold bc8;split<;>(try split)<;>omega
def LtP (x y:Pln):Prop:=x.n.x < y.n.x∨x.n.x=y.n.x∧(x.n.y < y.n.y∨x.n.y=y.n.y∧(x.n.z < y.n.z∨x.n.z=y.n.z∧x.b < y.b))
instance (x y:Pln):Decidable (LtP x y):=by unfold LtP;exact inferInstance
theorem ce8 (x y:Pln):ob2 x y < 0↔LtP x y:=by
 have h1:=rc9 x.n.x y.n.x;have h2:=ad6 x.n.x y.n.x
 have h3:=rc9 x.n.y y.n.y;have h4:=ad6 x.n.y y.n.y
 have h5:=rc9 x.n.z y.n.z;have h6:=ad6 x.n.z y.n.z
 have h7:=rc9 x.b y.b
 unfold ob2 LtP
 split
 ·split
  ·split<;>omega
  ·omega
 ·omega
theorem ab1 (x y:Pln):ltOf ob2 x y=decide (LtP x y):=by
 unfold ltOf
 rw[decide_eq_decide]
 exact ce8 x y
theorem xe3:SWO (ltOf ob2) where
 irrefl x:=by rw[ab1];simp[LtP]
 trans x y z h1 h2:=by rw[ab1,decide_eq_true_eq] at *;unfold LtP at *;omega
 ntrans x y z h1 h2:=by rw[ab1,decide_eq_false_iff_not] at *;unfold LtP at *;omega
theorem xe4 (x y:Pln) (h1:ltOf ob2 x y=false) (h2:ltOf ob2 y x=false):x=y:=by
 rw[ab1,decide_eq_false_iff_not] at *
 unfold LtP at *
 obtain⟨⟨a,b,c⟩,d⟩:=x;obtain⟨⟨a',b',c'⟩,d'⟩:=y
 simp only at *
 have:a=a'∧b=b'∧c=c'∧d=d':=by omega
 obtain⟨rfl,rfl,rfl,rfl⟩:=this
 rfl
theorem od6 (x y:Int):Ca2 x y=some (i (bc8 x y),[]):=by
 unfold Ca2 bc8
 simp only[bb1,decide_eq_true_eq]
 split<;>(try split)<;>rfl
theorem ce9 (x y:Int):ia1 x y=bc8 x y:=by unfold ia1;rw[od6];rfl
theorem de0 (x y:Int):ia2 x y=true:=by unfold ia2;rw[od6];rfl
theorem Ec3 (x y:Pln):pa6 x y=some (i (ob2 x y),[]):=by
 unfold pa6 ob2
 simp only[ce9,de0,bb1,beq_iff_eq,if_true]
 repeat' (first | rfl | split)
theorem xe5 (x y:Pln):Da2 x y=ob2 x y:=by unfold Da2;rw[Ec3];rfl
theorem xe6 (x y:Pln):Da3 x y=true:=by unfold Da3;rw[Ec3];rfl
theorem xe7 (x y:Pln):(Wa1 [.agg (tP.row x),.agg (tP.row y)] []).run=some (i (ob2 x y),[]):=by
 have:(Wa1 [.agg (tP.row x),.agg (tP.row y)] []).run=sel (Da3 x y) (some (i (Da2 x y),[])) none:=by kernel_rfl
 rw[this,xe6,xe5]
def fc0 (p:Pln):List Value:=[.int .i64 p.n.x,.int .i64 p.n.y,.int .i64 p.n.z,.int .i64 p.b]
instance:Inhabited Pln:=⟨⟨⟨0,0,0⟩,0⟩⟩
def xb8 (l:List Pln):List Pln:=l.mergeSort fun x y=>!ltOf ob2 y x
theorem Rc3 (l:List Pln):(xb8 l).length=l.length:=List.length_mergeSort l
noncomputable def Fa5:Sum:=Td3 tP 104 50 xb8
theorem Td4:Ce.sortLay_ren.f 6=103:=by kernel_rfl
theorem Rc4:Ce.sortLay_ren.t 24=50:=by kernel_rfl
set_option maxRecDepth 100000 in
theorem ob3:i6 prog G 103 Fa5:=by
 refine ce7 (enc:=fc0) (cf:=ob2) ⟨_,Tryz.func103,by kernel_rfl,of_decide_eq_true (by kernel_rfl)⟩ (by decide) (fun _=>rfl) (fun r h=>Ea6 (n:=4) h) (fun x v hv=>?_) Rc3
  (fun blk off size w=>ce6 ic6 xe7 (fun _=>rfl) (fun _=>rfl) _ _ _ _ _) (fun blk cap d w hcl hH hb hs=>?_)
 ·simp[fc0] at hv
  rcases hv with rfl | rfl | rfl | rfl<;>rfl
 ·have eg:∀ args w,(callFunc 104 args).run Tryz.prog w=.ok (.enter 104 args) w:=enters_of Tryz.func104 (by kernel_rfl) rfl
  have:=AnyQ.slices_SortFunc Ce.sortLay 4 (by rw[Rc4];exact Tryz.isAgg50) (by rw[Rc4];exact Tryz.sizeOf50) fc0 (fun _=>rfl) (fun x v hv=>by simp[fc0] at hv;rcases hv with rfl | rfl | rfl | rfl<;>rfl) ob2 xe3 104 #[] blk 0 cap d w eg (hcl 0 d.size) hH hb hs
  rw[Td4] at this
  refine this.mono fun e w' ⟨h1,d',n,os,h2,h3,h4⟩=>⟨h1,n,os,?_⟩
  have h5:=sorted_unique_holds xe3 xe4 d d' h2 h3
  rw[h4]
  show _=sortWorldK fc0 4 w blk 0 n (d.toList.mergeSort fun x y=>!ltOf ob2 y x).toArray os
  rw[← h5]
end Go.Ev.Ce
section
namespace Go.Ev.Ce
open Go Go.Ev Go.Ev.L Go.Proofs
set_option maxRecDepth 100000
noncomputable def yb5:List (Nat×Sum):=[]
theorem wb7:l0 prog G yb5:=trivial
structure ga6 where
 alt:Nat
 ns0:Nat
 eh0:List (List b7)
noncomputable def M2 {α:Type} (kk:ga6→α) (x:Pln×List Pln):α:=(sl (Nat.beq (len (k8 (fun k=>(tP).row (gL tP (x.1::x.2) k)) (List.range (List.length x.2+1)))) 0) (kk ⟨1,0,[]⟩) (sl (Nat.beq 0 0&&Nat.ble ((0+(len (k8 (fun k=>(tP).row (gL tP (x.1::x.2) k)) (List.range (List.length x.2+1)))))*32) room) (kk ⟨1,(0+(len (k8 (fun k=>(tP).row (gL tP (x.1::x.2) k)) (List.range (List.length x.2+1))))),(app [] (k8 (fun k=>(tP).row (gL tP (x.1::x.2) k)) (List.range (List.length x.2+1))))⟩) (kk ⟨0,0,[]⟩)))
noncomputable def ga7 (x:Pln×List Pln):ga6:=M2 (fun r=>r) x
noncomputable def sa1 (r:ga6):DT (b7×List b8):=(.ite (Nat.beq r.alt 1) (.ret ((.sl 0 0 r.ns0 0),[⟨50,4,r.eh0,true,false,0⟩])) .fail)
theorem Gb5 {α β:Type} (F:α→β) (kk:ga6→α) (x:Pln×List Pln):F (M2 kk x)=M2 (fun r=>F (kk r)) x:=by unfold M2;(repeat' apply n7 (f:=F))<;>rfl
noncomputable def Sa7:Sum:=ea8 (qe6 tP) (fun x=>sa1 (ga7 x))
theorem yb6:i6 prog G 100 Sa7:=Vb7 (bd Ce0 wb7) fun x=>s5 (Eq.trans (b:=M2 (fun r=>(sa1 r).run) x) (by kernel_rfl) (Gb5 (fun r=>(sa1 r).run) (fun r=>r) x).symm)
noncomputable def ad7:List (Nat×Sum):=[(20,Ra2),(18,Ba4),(100,Sa7),(99,ya8),(103,Fa5),(105,Ka0)]
theorem Lc2:l0 prog G ad7:=⟨Ya4,Ia7,yb6,fb0,ob3,qb9,trivial⟩
noncomputable def Sa8 (x:Pln×List Pln):Option (b7×List b8):=let t1:=(ma8 (rt tP (x.1::x.2)));let t2:=(aa9 (rt tP (x.1::x.2)));let t3:=(ga7 (hC tP (fun k=>(tP).row (gL tP (x.1::x.2) k)),tC tP (List.length x.2) (fun k=>(tP).row (gL tP (x.1::x.2) k))));let t4:=(R4 ⟨t3.ns0,t3.eh0,(rt tX t2)⟩);let t5:=(aa2 ⟨t4.ns0,(app (bL tP (xb8 (slR tP t4.eh0 0 t4.ns0))) (d8 t4.eh0 t4.ns0))⟩);(sl (okE tP (x.1::x.2)) (sl (ma9 (rt tP (x.1::x.2))) (sl (!t1) (some ((.v (.slice none 0 0)),[])) (sl (okE tP (x.1::x.2)) (sl (ba0 (rt tP (x.1::x.2))) (sl (okL tP (List.length x.2+1) (fun k=>(tP).row (gL tP (x.1::x.2) k))) (sl (Nat.beq t3.alt 1) (sl ((cnE tX t2)&&true) (sl (Nat.beq t4.alt 1) (sl (Bool.and (Nat.ble t4.ns0 room) (Bool.and (Nat.ble t4.ns0 (len t4.eh0)) (okS tP t4.eh0 0 t4.ns0))) (sl (Nat.beq t5.alt 1) (some ((.sl 0 0 t5.ns0 0),[⟨50,4,t5.eh0,true,false,0⟩])) none) none) none) none) none) none) none) none)) none) none)
noncomputable def Gb6 (x:Pln×List Pln):List Pln:=J9 (one (r1L tP)) (Sa8 x)
noncomputable def Gb7 (x:Pln×List Pln):Bool:=okO (one (r1L tP)) (Sa8 x)
noncomputable def mc1:Sum:=ea8 (qe6 tP) (fun x=>.guard (Gb7 x) (.ret ((one (r1L tP)).enc (Gb6 x),[])))
theorem ad8:i6 prog G 25 mc1:=za3 (bd b25 Lc2) (one (r1L tP)) (o:=Sa8) fun x=>s5 (by kernel_rfl)
noncomputable def qc0:List (Nat×Sum):=[(81,bc6),(18,Ba4),(17,qb6),(25,mc1),(26,Cc8),(20,Ra2),(28,Dc5),(22,Yb9),(31,wb4),(33,ob0),(15,ub3)]
theorem ic9:l0 prog G qc0:=⟨Lc1,Ia7,ac8,ad8,md7,Ya4,od0,Ic8,Nb9,Gb3,Nb3,trivial⟩
noncomputable def wa3  : Option (b7×List b8):=let t1:=wb6;let t2:=(aa9 [(⟨(⟨1,0,0⟩:V3),t1.e8⟩:Pln),(⟨(⟨(-1),0,0⟩:V3),t1.M6⟩:Pln),(⟨(⟨0,1,0⟩:V3),t1.M7⟩:Pln),(⟨(⟨0,(-1),0⟩:V3),t1.M8⟩:Pln),(⟨(⟨0,0,1⟩:V3),t1.M9⟩:Pln),(⟨(⟨0,0,(-1)⟩:V3),t1.N0⟩:Pln)]);let t3:=(aa9 [(⟨(⟨(-1),0,0⟩:V3),0⟩:Pln),(⟨(⟨0,(-1),0⟩:V3),0⟩:Pln),(⟨(⟨0,0,(-1)⟩:V3),0⟩:Pln),(⟨(⟨2,3,4⟩:V3),1⟩:Pln)]);let t4:=(la1 (rt tX t2) [(⟨1,1,1,1⟩:Pt),(⟨1,1,0,1⟩:Pt),(⟨1,0,1,1⟩:Pt),(⟨1,0,0,1⟩:Pt),(⟨0,1,1,1⟩:Pt),(⟨0,1,0,1⟩:Pt),(⟨0,0,1,1⟩:Pt),(⟨0,0,0,1⟩:Pt)]);let t5:=(la1 (rt tX t3) [(⟨0,0,0,1⟩:Pt),(⟨0,0,1,4⟩:Pt),(⟨0,1,0,3⟩:Pt),(⟨1,0,0,2⟩:Pt)]);let t6:=(Gb6 ((⟨(⟨1,0,0⟩:V3),t1.e8⟩:Pln),[(⟨(⟨(-1),0,0⟩:V3),t1.M6⟩:Pln),(⟨(⟨0,1,0⟩:V3),t1.M7⟩:Pln),(⟨(⟨0,(-1),0⟩:V3),t1.M8⟩:Pln),(⟨(⟨0,0,1⟩:V3),t1.M9⟩:Pln),(⟨(⟨0,0,(-1)⟩:V3),t1.N0⟩:Pln),(⟨(⟨1,0,0⟩:V3),t1.e8⟩:Pln),(⟨(⟨1,1,1⟩:V3),3⟩:Pln),(⟨(⟨1,0,0⟩:V3),7⟩:Pln)]));let t7:=(vb8 (rt tP t6) [(⟨(⟨(-1),0,0⟩:V3),t1.M6⟩:Pln),(⟨(⟨0,(-1),0⟩:V3),t1.M8⟩:Pln),(⟨(⟨0,0,(-1)⟩:V3),t1.N0⟩:Pln),(⟨(⟨0,0,1⟩:V3),t1.M9⟩:Pln),(⟨(⟨0,1,0⟩:V3),t1.M7⟩:Pln),(⟨(⟨1,0,0⟩:V3),t1.e8⟩:Pln)]);let t8:=(ma8 []);let t9:=(ma8 [(⟨(⟨1,0,0⟩:V3),t1.e8⟩:Pln),(⟨(⟨(-1),0,0⟩:V3),t1.M6⟩:Pln),(⟨(⟨0,1,0⟩:V3),t1.M7⟩:Pln),(⟨(⟨0,(-1),0⟩:V3),t1.M8⟩:Pln),(⟨(⟨0,0,1⟩:V3),t1.M9⟩:Pln),(⟨(⟨0,0,(-1)⟩:V3),t1.N0⟩:Pln),(⟨(⟨(-1),0,0⟩:V3),(-1)⟩:Pln)]);let t10:=(fb3 [(⟨(⟨1,0,0⟩:V3),t1.e8⟩:Pln),(⟨(⟨(-1),0,0⟩:V3),t1.M6⟩:Pln),(⟨(⟨0,1,0⟩:V3),t1.M7⟩:Pln),(⟨(⟨0,(-1),0⟩:V3),t1.M8⟩:Pln),(⟨(⟨0,0,1⟩:V3),t1.M9⟩:Pln),(⟨(⟨0,0,(-1)⟩:V3),t1.N0⟩:Pln)] (⟨1,0,0⟩:V3));let t11:=(fb3 [(⟨(⟨1,0,0⟩:V3),t1.e8⟩:Pln),(⟨(⟨(-1),0,0⟩:V3),t1.M6⟩:Pln),(⟨(⟨0,1,0⟩:V3),t1.M7⟩:Pln),(⟨(⟨0,(-1),0⟩:V3),t1.M8⟩:Pln),(⟨(⟨0,0,1⟩:V3),t1.M9⟩:Pln),(⟨(⟨0,0,(-1)⟩:V3),t1.N0⟩:Pln)] (⟨2,0,0⟩:V3));let t12:=(Ya5 [(⟨(⟨(-1),0,0⟩:V3),0⟩:Pln),(⟨(⟨0,(-1),0⟩:V3),0⟩:Pln),(⟨(⟨0,0,(-1)⟩:V3),0⟩:Pln),(⟨(⟨2,3,4⟩:V3),1⟩:Pln)]);let t13:=(na7 [(⟨(⟨1,0,0⟩:V3),t1.e8⟩:Pln),(⟨(⟨(-1),0,0⟩:V3),t1.M6⟩:Pln),(⟨(⟨0,1,0⟩:V3),t1.M7⟩:Pln),(⟨(⟨0,(-1),0⟩:V3),t1.M8⟩:Pln),(⟨(⟨0,0,1⟩:V3),t1.M9⟩:Pln),(⟨(⟨0,0,(-1)⟩:V3),t1.N0⟩:Pln)] [(⟨(⟨(-1),0,0⟩:V3),(-1)⟩:Pln)]);let t14:=(na7 [(⟨(⟨1,0,0⟩:V3),t1.e8⟩:Pln),(⟨(⟨(-1),0,0⟩:V3),t1.M6⟩:Pln),(⟨(⟨0,1,0⟩:V3),t1.M7⟩:Pln),(⟨(⟨0,(-1),0⟩:V3),t1.M8⟩:Pln),(⟨(⟨0,0,1⟩:V3),t1.M9⟩:Pln),(⟨(⟨0,0,(-1)⟩:V3),t1.N0⟩:Pln)] [(⟨(⟨(-1),(-1),0⟩:V3),(-1)⟩:Pln)]);let t15:=(ia3 [(⟨(⟨1,0,0⟩:V3),t1.e8⟩:Pln),(⟨(⟨(-1),0,0⟩:V3),t1.M6⟩:Pln),(⟨(⟨0,1,0⟩:V3),t1.M7⟩:Pln),(⟨(⟨0,(-1),0⟩:V3),t1.M8⟩:Pln),(⟨(⟨0,0,1⟩:V3),t1.M9⟩:Pln),(⟨(⟨0,0,(-1)⟩:V3),t1.N0⟩:Pln)] [(⟨(⟨1,1,1⟩:V3),3⟩:Pln)]);let t16:=(ia3 [(⟨(⟨1,0,0⟩:V3),t1.e8⟩:Pln),(⟨(⟨(-1),0,0⟩:V3),t1.M6⟩:Pln),(⟨(⟨0,1,0⟩:V3),t1.M7⟩:Pln),(⟨(⟨0,(-1),0⟩:V3),t1.M8⟩:Pln),(⟨(⟨0,0,1⟩:V3),t1.M9⟩:Pln),(⟨(⟨0,0,(-1)⟩:V3),t1.N0⟩:Pln)] [(⟨(⟨1,1,1⟩:V3),2⟩:Pln)]);let t17:=(Ia1 [(⟨(⟨0,0,0⟩:V3),0⟩:Pln)]);(sl (ba0 [(⟨(⟨1,0,0⟩:V3),t1.e8⟩:Pln),(⟨(⟨(-1),0,0⟩:V3),t1.M6⟩:Pln),(⟨(⟨0,1,0⟩:V3),t1.M7⟩:Pln),(⟨(⟨0,(-1),0⟩:V3),t1.M8⟩:Pln),(⟨(⟨0,0,1⟩:V3),t1.M9⟩:Pln),(⟨(⟨0,0,(-1)⟩:V3),t1.N0⟩:Pln)]) (sl (ba0 [(⟨(⟨(-1),0,0⟩:V3),0⟩:Pln),(⟨(⟨0,(-1),0⟩:V3),0⟩:Pln),(⟨(⟨0,0,(-1)⟩:V3),0⟩:Pln),(⟨(⟨2,3,4⟩:V3),1⟩:Pln)]) (sl (okE tX t2) (sl (la2 (rt tX t2) [(⟨1,1,1,1⟩:Pt),(⟨1,1,0,1⟩:Pt),(⟨1,0,1,1⟩:Pt),(⟨1,0,0,1⟩:Pt),(⟨0,1,1,1⟩:Pt),(⟨0,1,0,1⟩:Pt),(⟨0,0,1,1⟩:Pt),(⟨0,0,0,1⟩:Pt)]) (sl (!t4) (some ((b false),[])) (sl (okE tX t3) (sl (la2 (rt tX t3) [(⟨0,0,0,1⟩:Pt),(⟨0,0,1,4⟩:Pt),(⟨0,1,0,3⟩:Pt),(⟨1,0,0,2⟩:Pt)]) (sl (!t5) (some ((b false),[])) (sl (Gb7 ((⟨(⟨1,0,0⟩:V3),t1.e8⟩:Pln),[(⟨(⟨(-1),0,0⟩:V3),t1.M6⟩:Pln),(⟨(⟨0,1,0⟩:V3),t1.M7⟩:Pln),(⟨(⟨0,(-1),0⟩:V3),t1.M8⟩:Pln),(⟨(⟨0,0,1⟩:V3),t1.M9⟩:Pln),(⟨(⟨0,0,(-1)⟩:V3),t1.N0⟩:Pln),(⟨(⟨1,0,0⟩:V3),t1.e8⟩:Pln),(⟨(⟨1,1,1⟩:V3),3⟩:Pln),(⟨(⟨1,0,0⟩:V3),7⟩:Pln)])) (sl (okE tP t6) (sl (vb9 (rt tP t6) [(⟨(⟨(-1),0,0⟩:V3),t1.M6⟩:Pln),(⟨(⟨0,(-1),0⟩:V3),t1.M8⟩:Pln),(⟨(⟨0,0,(-1)⟩:V3),t1.N0⟩:Pln),(⟨(⟨0,0,1⟩:V3),t1.M9⟩:Pln),(⟨(⟨0,1,0⟩:V3),t1.M7⟩:Pln),(⟨(⟨1,0,0⟩:V3),t1.e8⟩:Pln)]) (sl (!t7) (some ((b false),[])) (sl (ma9 []) (sl (!t8) (some ((b false),[])) (sl (ma9 [(⟨(⟨1,0,0⟩:V3),t1.e8⟩:Pln),(⟨(⟨(-1),0,0⟩:V3),t1.M6⟩:Pln),(⟨(⟨0,1,0⟩:V3),t1.M7⟩:Pln),(⟨(⟨0,(-1),0⟩:V3),t1.M8⟩:Pln),(⟨(⟨0,0,1⟩:V3),t1.M9⟩:Pln),(⟨(⟨0,0,(-1)⟩:V3),t1.N0⟩:Pln),(⟨(⟨(-1),0,0⟩:V3),(-1)⟩:Pln)]) (sl t9 (some ((b false),[])) (sl (fb4 [(⟨(⟨1,0,0⟩:V3),t1.e8⟩:Pln),(⟨(⟨(-1),0,0⟩:V3),t1.M6⟩:Pln),(⟨(⟨0,1,0⟩:V3),t1.M7⟩:Pln),(⟨(⟨0,(-1),0⟩:V3),t1.M8⟩:Pln),(⟨(⟨0,0,1⟩:V3),t1.M9⟩:Pln),(⟨(⟨0,0,(-1)⟩:V3),t1.N0⟩:Pln)] (⟨1,0,0⟩:V3)) (sl (!t10) (some ((b false),[])) (sl (fb4 [(⟨(⟨1,0,0⟩:V3),t1.e8⟩:Pln),(⟨(⟨(-1),0,0⟩:V3),t1.M6⟩:Pln),(⟨(⟨0,1,0⟩:V3),t1.M7⟩:Pln),(⟨(⟨0,(-1),0⟩:V3),t1.M8⟩:Pln),(⟨(⟨0,0,1⟩:V3),t1.M9⟩:Pln),(⟨(⟨0,0,(-1)⟩:V3),t1.N0⟩:Pln)] (⟨2,0,0⟩:V3)) (sl t11 (some ((b false),[])) (sl (Ya6 [(⟨(⟨(-1),0,0⟩:V3),0⟩:Pln),(⟨(⟨0,(-1),0⟩:V3),0⟩:Pln),(⟨(⟨0,0,(-1)⟩:V3),0⟩:Pln),(⟨(⟨2,3,4⟩:V3),1⟩:Pln)]) (sl (!((t12.1.x==0)&&((t12.1.y==0)&&((t12.1.z==0)&&true)))) (some ((b false),[])) (sl (!((t12.2.1.x==1)&&((t12.2.1.y==1)&&((t12.2.1.z==1)&&true)))) (some ((b false),[])) (sl (!t12.2.2) (some ((b false),[])) (sl (na8 [(⟨(⟨1,0,0⟩:V3),t1.e8⟩:Pln),(⟨(⟨(-1),0,0⟩:V3),t1.M6⟩:Pln),(⟨(⟨0,1,0⟩:V3),t1.M7⟩:Pln),(⟨(⟨0,(-1),0⟩:V3),t1.M8⟩:Pln),(⟨(⟨0,0,1⟩:V3),t1.M9⟩:Pln),(⟨(⟨0,0,(-1)⟩:V3),t1.N0⟩:Pln)] [(⟨(⟨(-1),0,0⟩:V3),(-1)⟩:Pln)]) (sl t13 (sl (na8 [(⟨(⟨1,0,0⟩:V3),t1.e8⟩:Pln),(⟨(⟨(-1),0,0⟩:V3),t1.M6⟩:Pln),(⟨(⟨0,1,0⟩:V3),t1.M7⟩:Pln),(⟨(⟨0,(-1),0⟩:V3),t1.M8⟩:Pln),(⟨(⟨0,0,1⟩:V3),t1.M9⟩:Pln),(⟨(⟨0,0,(-1)⟩:V3),t1.N0⟩:Pln)] [(⟨(⟨(-1),(-1),0⟩:V3),(-1)⟩:Pln)]) (sl (!t14) (sl (ia4 [(⟨(⟨1,0,0⟩:V3),t1.e8⟩:Pln),(⟨(⟨(-1),0,0⟩:V3),t1.M6⟩:Pln),(⟨(⟨0,1,0⟩:V3),t1.M7⟩:Pln),(⟨(⟨0,(-1),0⟩:V3),t1.M8⟩:Pln),(⟨(⟨0,0,1⟩:V3),t1.M9⟩:Pln),(⟨(⟨0,0,(-1)⟩:V3),t1.N0⟩:Pln)] [(⟨(⟨1,1,1⟩:V3),3⟩:Pln)]) (sl t15 (sl (ia4 [(⟨(⟨1,0,0⟩:V3),t1.e8⟩:Pln),(⟨(⟨(-1),0,0⟩:V3),t1.M6⟩:Pln),(⟨(⟨0,1,0⟩:V3),t1.M7⟩:Pln),(⟨(⟨0,(-1),0⟩:V3),t1.M8⟩:Pln),(⟨(⟨0,0,1⟩:V3),t1.M9⟩:Pln),(⟨(⟨0,0,(-1)⟩:V3),t1.N0⟩:Pln)] [(⟨(⟨1,1,1⟩:V3),2⟩:Pln)]) (sl (!t16) (sl (Ia2 [(⟨(⟨0,0,0⟩:V3),0⟩:Pln)]) (some ((b (t17==12)),[])) none) (some ((b false),[]))) none) (some ((b false),[]))) none) (some ((b false),[]))) none) (some ((b false),[]))) none)))) none)) none)) none)) none)) none)) none) none) none)) none) none)) none) none) none) none)
noncomputable def Ka3  : Bool:=J9 (one r1B) wa3
noncomputable def Ka4  : Bool:=okO (one r1B) wa3
noncomputable def Gb8:Sum:=fd0  (.guard Ka4 (.ret ((one r1B).enc Ka3,[])))
theorem qc1:i6 prog G 13 Gb8:=ye6 (bd b13 ic9) (one r1B) (o:=wa3) (s5 (by kernel_rfl))
end Go.Ev.Ce
end
section
namespace Go.Ev.Ce
open Go Go.Ev Go.Ev.L Go.Proofs
set_option maxRecDepth 100000
structure ie2 where
 c9:List Pln
 i7:Int
 c8:Int
 i8:Int
 e8:Int
structure ie3 where
 is5:Int
noncomputable def ad9:List (Nat×Sum):=[(16,Pa7),(91,Jb5),(93,Qb9)]
theorem Lc3:l0 prog G ad9:=⟨Xa4,Qb8,kc7,trivial⟩
noncomputable def Sa9 (x:List Pln) (y:List Pln):Option (b7×List b8):=let t1:=(ma4 (rt tP x));let t2:=(ma4 (rt tP y));let t3:=(xa4 []);let t4:=(ta8 (rt tP t3));let t5:=(xa4 (slR tP (app [] (k8 (fun k=>(tP).row (gL tP y k)) (List.range (List.length y)))) 0 (0+(len (k8 (fun k=>(tP).row (gL tP y k)) (List.range (List.length y)))))));let t6:=(ta8 (rt tP t5));let t7:=(xa4 (slR tP (app [] (k8 (fun k=>(tP).row (gL tP x k)) (List.range (List.length x)))) 0 (0+(len (k8 (fun k=>(tP).row (gL tP x k)) (List.range (List.length x)))))));let t8:=(ta8 (rt tP t7));let t9:=(xa4 (slR tP (app (app [] (k8 (fun k=>(tP).row (gL tP x k)) (List.range (List.length x)))) (k8 (fun k=>(tP).row (gL tP y k)) (List.range (List.length y)))) 0 ((0+(len (k8 (fun k=>(tP).row (gL tP x k)) (List.range (List.length x)))))+(len (k8 (fun k=>(tP).row (gL tP y k)) (List.range (List.length y)))))));let t10:=(ta8 (rt tP t9));(sl (okE tP x) (sl (ma5 (rt tP x)) (sl (t1 != 0) (some ((b true),[])) (sl (okE tP y) (sl (ma5 (rt tP y)) (sl (t2 != 0) (some ((b true),[])) (sl (Nat.beq (len (k8 (fun k=>(tP).row (gL tP x k)) (List.range (List.length x)))) 0) (sl (Nat.beq (len (k8 (fun k=>(tP).row (gL tP y k)) (List.range (List.length y)))) 0) (sl (xa5 []) (sl (okE tP t3) (sl (ta9 (rt tP t3)) (some ((b (!t4)),[])) none) none) none) (sl (Nat.beq 0 0&&Nat.ble ((0+(len (k8 (fun k=>(tP).row (gL tP y k)) (List.range (List.length y)))))*32) room) (sl (okS tP (app [] (k8 (fun k=>(tP).row (gL tP y k)) (List.range (List.length y)))) 0 (0+(len (k8 (fun k=>(tP).row (gL tP y k)) (List.range (List.length y)))))) (sl (xa5 (slR tP (app [] (k8 (fun k=>(tP).row (gL tP y k)) (List.range (List.length y)))) 0 (0+(len (k8 (fun k=>(tP).row (gL tP y k)) (List.range (List.length y))))))) (sl (okE tP t5) (sl (ta9 (rt tP t5)) (some ((b (!t6)),[])) none) none) none) none) none)) (sl (Nat.beq 0 0&&Nat.ble ((0+(len (k8 (fun k=>(tP).row (gL tP x k)) (List.range (List.length x)))))*32) room) (sl (Nat.beq (len (k8 (fun k=>(tP).row (gL tP y k)) (List.range (List.length y)))) 0) (sl (okS tP (app [] (k8 (fun k=>(tP).row (gL tP x k)) (List.range (List.length x)))) 0 (0+(len (k8 (fun k=>(tP).row (gL tP x k)) (List.range (List.length x)))))) (sl (xa5 (slR tP (app [] (k8 (fun k=>(tP).row (gL tP x k)) (List.range (List.length x)))) 0 (0+(len (k8 (fun k=>(tP).row (gL tP x k)) (List.range (List.length x))))))) (sl (okE tP t7) (sl (ta9 (rt tP t7)) (some ((b (!t8)),[])) none) none) none) none) (sl (Nat.beq (0+(len (k8 (fun k=>(tP).row (gL tP x k)) (List.range (List.length x))))) (len (app [] (k8 (fun k=>(tP).row (gL tP x k)) (List.range (List.length x)))))&&Nat.ble (((0+(len (k8 (fun k=>(tP).row (gL tP x k)) (List.range (List.length x)))))+(len (k8 (fun k=>(tP).row (gL tP y k)) (List.range (List.length y)))))*32) room) (sl (okS tP (app (app [] (k8 (fun k=>(tP).row (gL tP x k)) (List.range (List.length x)))) (k8 (fun k=>(tP).row (gL tP y k)) (List.range (List.length y)))) 0 ((0+(len (k8 (fun k=>(tP).row (gL tP x k)) (List.range (List.length x)))))+(len (k8 (fun k=>(tP).row (gL tP y k)) (List.range (List.length y)))))) (sl (xa5 (slR tP (app (app [] (k8 (fun k=>(tP).row (gL tP x k)) (List.range (List.length x)))) (k8 (fun k=>(tP).row (gL tP y k)) (List.range (List.length y)))) 0 ((0+(len (k8 (fun k=>(tP).row (gL tP x k)) (List.range (List.length x)))))+(len (k8 (fun k=>(tP).row (gL tP y k)) (List.range (List.length y))))))) (sl (okE tP t9) (sl (ta9 (rt tP t9)) (some ((b (!t10)),[])) none) none) none) none) none)) none))) none) none)) none) none)
noncomputable def Ta0 (x:List Pln) (y:List Pln):Bool:=J9 (one r1B) (Sa9 x y)
noncomputable def Ta1 (x:List Pln) (y:List Pln):Bool:=okO (one r1B) (Sa9 x y)
noncomputable def mc2:Sum:=ia7 (W6 tP) (W6 tP) (fun x y=>.guard (Ta1 x y) (.ret ((one r1B).enc (Ta0 x y),[])))
theorem bd0:i6 prog G 32 mc2:=bb2 (bd b32 Lc3) (one r1B) (o:=Sa9) fun x y=>s5 (by kernel_rfl)
noncomputable def Ob0:List (Nat×Sum):=[(21,Rb0),(16,Pa7),(19,Yb0),(110,xc6)]
theorem Ec4:l0 prog G Ob0:=⟨kc8,Xa4,Gc9,Pc5,trivial⟩
structure wa4 where
 rb0:List Pln
 Ob3:List Pt
structure O6 where
 is6:Int
noncomputable def qc2 (p:wa4) (s:O6):St:=⟨(.unk::((eL tP p.rb0)::(ra 3 ((eL tX p.Ob3)::((i s.is6)::(ra 23 [])))))),[]⟩
noncomputable def la6 {α:Type} (k:O6→α) (e:Nat→α) (z:α) (p:wa4) (s:O6):α:=let t1:=(cb5 (rt tP p.rb0) (gL tX p.Ob3 s.is6.toNat));(sl (decide (s.is6 < (↑(List.length p.Ob3):Int))) (sl (inB s.is6 (List.length p.Ob3)) (sl (okE tP p.rb0) (sl (cb6 (rt tP p.rb0) (gL tX p.Ob3 s.is6.toNat)) (sl (!t1) (e 1) (k ⟨(W (s.is6+1))⟩)) z) z) z) (e 2))
noncomputable def pa9 (p:wa4) (s:O6):Stp O6:=la6 .next .exit .fail p s
noncomputable def fb7:Lo wa4 O6:=⟨En Ob0,0,re8,[1,1,1,0,1,4,4],[1,5,6],.p,[⟨((.s (.o .unk))::((.s (.c 4 (nL tP)))::(ru2 3 ((.s (.c 4 (nL tX)))::((.s (.o (.int .i64)))::(ru2 23 [])))))),[],fun a H=>(⟨(rL tP (slT a 1)),(rL tX (slT a 5))⟩,⟨(toI (slT a 6))⟩)⟩],pa9,[(none,fun p s=>⟨[(b false)],[]⟩),(some 0,fun p s=>⟨(.unk::((eL tP p.rb0)::(ra 3 ((eL tX p.Ob3)::((i s.is6)::(ra 10 ((i s.is6)::((eL tX p.Ob3)::((i (↑(List.length p.Ob3):Int))::((b (decide (s.is6 < (↑(List.length p.Ob3):Int))))::(ra 9 []))))))))))),[]⟩)],qc2⟩
theorem qc3:fb7.Ok:=Lo.ok [] (by kernel_rfl) .nil rfl (.cons (fun a H=>by kernel_rfl) .nil) fun p s=>(.of @la6 (fun F _ _ _ _ _=>by unfold la6;(repeat' apply n7 (f:=F))<;>rfl) (by kernel_rfl))
noncomputable def Ka5 (x:List Pln) (y:List Pln):Option (b7×List b8):=let t1:=(Ma0 (rt tP x));let t2:=(ma4 (rt tP y));let t3:=(Xa5 (rt tP x));let t4:=(lp (pa9 (⟨(rt tP y),(rt tX t3)⟩:wa4)) (⟨0⟩:O6));(sl (okE tP x) (sl (Ea1 (rt tP x)) (sl (!t1) (some ((b false),[])) (sl (okE tP y) (sl (ma5 (rt tP y)) (sl (t2 != 0) (some ((b false),[])) (sl (okE tP x) (sl (Xa6 (rt tP x)) (sl ((cnE tP y)&&((cnE tX t3)&&true)) (sl (Nat.beq t4.1 1) (some ((b false),[])) (sl (Nat.beq t4.1 2) (some ((b true),[])) none)) none) none) none)) none) none)) none) none)
noncomputable def Ka6 (x:List Pln) (y:List Pln):Bool:=J9 (one r1B) (Ka5 x y)
noncomputable def Ka7 (x:List Pln) (y:List Pln):Bool:=okO (one r1B) (Ka5 x y)
noncomputable def bc9:Sum:=ia7 (W6 tP) (W6 tP) (fun x y=>.guard (Ka7 x y) (.ret ((one r1B).enc (Ka6 x y),[])))
theorem Lc4:i6 prog G 34 bc9:=bb2 (bd b34 Ec4) (one r1B) (o:=Ka5) fun x y=>za4 (.s .p (.s .p (.s .p (.s (.s .p (.b (.u fb7.ls))) .p)))) [fb7.pr] (by kernel_rfl) (.cons qc3 .nil) (by kernel_rfl)
end Go.Ev.Ce
end
namespace Go.Ev.Ce
open Go Go.Ev Go.Ev.L Go.Proofs
theorem de1 (l:List Pln) {n:Nat} (h:n=l.length):okS tP (bL tP l) 0 n=true:=by subst h;exact Cb1 tP l
theorem de2 (l:List Pln) {n:Nat} (h:n=l.length):slR tP (bL tP l) 0 n=l:=by subst h;exact Cb0 tP l
theorem Rc5 {a c:List Pln} (ha:a.length≤100000000) (hc:c.length≤100000000):Sa9 a c=some (b (apart a c),[]):=by
 have ha':a.length≤1000000000:=by omega
 have hc':c.length≤1000000000:=by omega
 unfold Sa9 apart
 simp only[Oa9,n5,I0,Fb0 _ ha',Fb1 _ ha',Fb0 _ hc',Fb1 _ hc',p6]
 have hz:∀ l:List Pln,(chk l != 0)=!(chk l==0):=fun _=>rfl
 rw[hz,hz]
 cases h1:chk a==0 with
 | false=>rfl
 | true =>
  cases h2:chk c==0 with
  | false=>rfl
  | true =>
   obtain⟨q1,q2⟩:=od3 h1 h2
   have e1:app [] (bL tP a)=bL tP a:=rfl
   have e1':app [] (bL tP c)=bL tP c:=rfl
   have e2:app (bL tP a) (bL tP c)=bL tP (a++c):=Da7 tP a c
   have n1:0+len (bL tP a)=a.length:=by rw[J8];omega
   have n2:0+len (bL tP c)=c.length:=by rw[J8];omega
   have n3:a.length+len (bL tP c)=(a++c).length:=by rw[J8,List.length_append]
   have hl:(a++c).length≤1000000000:=by rw[List.length_append];omega
   have hn:([]:List Pln).length≤1000000000:=by simp
   simp only[Bool.not_true,Aa0,Bool.and_true,Bool.true_and,Bool.false_or,Ad7,n1,n2,n3,e1,e1',e2,Cb1,Cb0,de1 _ rfl,de2 _ rfl,Qc3 _ hl,Qc4 _ hl,Qc3 _ ha',Qc4 _ ha',Qc3 _ hc',Qc4 _ hc',Qc3 _ hn,Qc4 _ hn,p6]
   cases a with
   | nil =>
    cases c with
    | nil =>
     simp only[List.isEmpty_nil,p6]
     rw[Ac6 ([]++ws) q1 q2,Ac7 ([]++ws) q1 q2];rfl
    | cons p c =>
     simp only[List.isEmpty_nil,List.isEmpty_cons,p6,Aa0]
     rw[show Nat.ble ((p::c).length*32) room=true from da3 (by omega)]
     rw[Ac6 (p::c++ws) q1 q2,Ac7 (p::c++ws) q1 q2];rfl
   | cons q a =>
    simp only[List.isEmpty_cons,Aa0]
    rw[show Nat.ble ((q::a).length*32) room=true from da3 (by omega)]
    cases c with
    | nil =>
     simp only[List.isEmpty_nil,p6]
     rw[List.append_nil] at q1 q2
     rw[Ac6 _ q1 q2,Ac7 _ q1 q2]
     simp only[List.append_nil]
     rfl
    | cons p c =>
     simp only[List.isEmpty_cons,Aa0]
     rw[show Nat.ble ((q::a++p::c).length*32) room=true from da3 (by omega)]
     rw[show Nat.beq (q::a).length (len (bL tP (q::a)))=true by rw[J8,Nat.beq_refl]]
     rw[Ac6 _ q1 q2,Ac7 _ q1 q2];rfl
theorem od7 {a c:List Pln} (ha:a.length≤100000000) (hc:c.length≤100000000):Ta0 a c=apart a c:=by unfold Ta0;rw[Rc5 ha hc];rfl
theorem od8 {a c:List Pln} (ha:a.length≤100000000) (hc:c.length≤100000000):Ta1 a c=true:=by unfold Ta1;rw[Rc5 ha hc];rfl
theorem Ec5 {a c:List Pln} (ha:a.length≤1000000000) (hc:c.length≤1000000000):Ka5 a c=some (b (od5 a c),[]):=by
 have hX:=rc8 a
 have h:=bb4 (step:=pa9 ⟨c,pts a⟩) (mk:=fun j=>(⟨(j:Int)⟩:O6)) (c:=fun x=>!inn c x) (u:=1) (fin:=2) tX (pts a) (by omega)
  (fun j hj=>by
   simp only[pa9,la6,Int.toNat_natCast,n5,I0,ve8 _ _ hc,ve9 _ _ hc,q8 hj (show (pts a).length≤4611686018427387904 by omega)]
   rw[btD (p4 hj),bt (g9 hj)]
   rfl)
  (by simp only[pa9,la6];rw[bfD (Y2 (Nat.lt_irrefl _))]) 0 (Nat.zero_le _)
 rw[List.drop_zero] at h
 have e:((pts a).any fun x=>!inn c x)=!(pts a).all (inn c):=by rw[List.not_all_eq_any_not]
 have hz:∀ l:List Pln,(chk l != 0)=!(chk l==0):=fun _=>rfl
 unfold Ka5 od5
 simp only[n5,I0,o7,ae7 ha,Bd1 ha,Fb0 c hc,Fb1 c hc,Hd6 ha,Hd7 ha,hz]
 rw[show (⟨0⟩:O6)=⟨((0:Nat):Int)⟩ from rfl,h,e]
 cases ful a with
 | false=>rfl
 | true =>
  cases chk c==0 with
  | false=>rfl
  | true=>cases (pts a).all (inn c)<;>rfl
theorem Rc6 {a c:List Pln} (ha:a.length≤1000000000) (hc:c.length≤1000000000):Ka6 a c=od5 a c:=by unfold Ka6;rw[Ec5 ha hc];rfl
theorem Rc7 {a c:List Pln} (ha:a.length≤1000000000) (hc:c.length≤1000000000):Ka7 a c=true:=by unfold Ka7;rw[Ec5 ha hc];rfl
end Go.Ev.Ce
