/- Own work: a part of the proof. -/
import Derived.Test.YtlccibobknidjaaGreatEvD7
import Derived.Test.YtlccibobknidjaaGreatEvD4
import Derived.Shelf.SlSortCmp.WholeK
import Derived.Test.YtlccibobknidjaaGreatEvSp2
import Derived.KernelRfl
set_option linter.unusedVariables false
set_option linter.unusedSimpArgs false
set_option linter.unnecessarySimpa false
set_option linter.unusedSectionVars false
namespace Go.Ev.Ce
open Go Go.Ev Go.Ev.L Go.Proofs
theorem Id4 {Q:Pt→Prop} (r:List Pln) (p q:Pln):∀ (l:List Pln) (out:List Pt),(∀ s∈l,(mpt p q s).2=true→inn r (mpt p q s).1=true→Q (mpt p q s).1)→(∀ x∈out,Q x)→∀ x∈gb0 r p q l out,Q x
 | [],out,_,h=>h
 | s::l,out,hs,h=>Id4 r p q l (Da3 r p q out s) (fun t ht=>hs t (List.mem_cons_of_mem _ ht)) fun x hx=>by
  unfold Da3 at hx
  split at hx
  ·rename_i hc
   rw[Bool.and_eq_true,Bool.and_eq_true] at hc
   rcases List.mem_append.1 hx with hx | hx
   ·exact h x hx
   ·rw[List.mem_singleton] at hx
    subst hx
    exact hs s List.mem_cons_self hc.1 hc.2.2
  ·exact h x hx
theorem Id5 {Q:Pt→Prop} (r:List Pln) (p:Pln):∀ (l:List Pln) (out:List Pt),(∀ q∈l,∀ s∈l,(mpt p q s).2=true→inn r (mpt p q s).1=true→Q (mpt p q s).1)→(∀ x∈out,Q x)→∀ x∈Ta4 r p l out,Q x
 | [],out,_,h=>h
 | q::l,out,hs,h=>Id5 r p l _ (fun a ha t ht=>hs a (List.mem_cons_of_mem _ ha) t (List.mem_cons_of_mem _ ht)) (Id4 r p q l out (fun t ht=>hs q List.mem_cons_self t (List.mem_cons_of_mem _ ht)) h)
theorem Id6 {Q:Pt→Prop} (r:List Pln):∀ (l:List Pln) (out:List Pt),(∀ p∈l,∀ q∈l,∀ s∈l,(mpt p q s).2=true→inn r (mpt p q s).1=true→Q (mpt p q s).1)→(∀ x∈out,Q x)→∀ x∈rc5 r l out,Q x
 | [],out,_,h=>h
 | p::l,out,hs,h=>Id6 r l _ (fun a ha c hc t ht=>hs a (List.mem_cons_of_mem _ ha) c (List.mem_cons_of_mem _ hc) t (List.mem_cons_of_mem _ ht)) (Id5 r p l out (fun c hc t ht=>hs p List.mem_cons_self c (List.mem_cons_of_mem _ hc) t (List.mem_cons_of_mem _ ht)) h)
theorem Xd5 {Q:Pt→Prop} {r:List Pln} (hs:∀ p∈r,∀ q∈r,∀ s∈r,(mpt p q s).2=true→inn r (mpt p q s).1=true→Q (mpt p q s).1):∀ x∈cor r,Q x :=
 Id6 r r [] hs fun x hx=>by cases hx
structure Okx (x:Pt):Prop where
 w1:0 < x.pw
 w2:x.pw≤600000000000
 c1:Sm 300000000000000 x.px
 c2:Sm 300000000000000 x.py
 c3:Sm 300000000000000 x.pz
theorem ac4 {r:List Pln} (hb:Bds r):∀ x∈cor r,Okx x:=Xd5 fun p hp q hq s hs h _=>by
 obtain⟨h1,h2,h3,h4,h5⟩:=Rd6 (hb p hp) (hb q hq) (hb s hs) h
 exact⟨h1,h5,h2,h3,h4⟩
theorem De2 {c:List Pln}:∀ x∈pts c,Okx x:=by
 unfold pts
 cases h:chk c==0 with
 | false=>intro x hx;cases hx
 | true=>exact ac4 (wb8 h).1
theorem sc5 (c:List Pln):(pts c).length≤8000000:=by
 unfold pts
 cases h:chk c==0 with
 | false=>exact Nat.zero_le _
 | true=>exact td7 _ (wb8 h).1 (wb8 h).2
theorem Id7 {x y:Int} (hy:0 < y):Int.tmod x y+y*Int.tdiv x y=x∧-y < Int.tmod x y∧Int.tmod x y < y:=by
 refine⟨Int.tmod_add_mul_tdiv x y,?_,Int.tmod_lt_of_pos x hy⟩
 have:=Int.lt_tmod_of_pos x hy
 omega
theorem Xd6 {x y q r:Int} (hy:0 < y) (h:r+y*q=x) (h1:0≤r) (h2:r < y):x / y=q:=((Int.ediv_emod_unique hy).2 ⟨h,h1,h2⟩).1
theorem De3 {x y:Int} (hx:Sm 300000000000000 x) (hy:0 < y):Sm 300000000000000 (Int.tdiv x y):=K5 hx hy
theorem Id8 {x y:Int} (hx:Sm 300000000000000 x) (hy:0 < y):Ta1 x y=some (i (x / y),[]):=by
 have hz:(y==0)=false:=by rw[beq_eq_false_iff_ne];omega
 obtain⟨h1,h2,h3⟩:=Id7 (x:=x) hy
 have hb:=De3 hx hy
 unfold Ta1
 rw[bf hz,bf hz,Da2 (hb.mono (by omega))]
 by_cases h:Int.tmod x y < 0
 ·rw[btD h,Xd6 hy (q:=Int.tdiv x y - 1) (r:=Int.tmod x y+y) (by rw[Int.mul_sub];omega) (by omega) (by omega),Ia1 (by have:=hb.1;omega) (by have:=hb.2;omega)]
 ·rw[bfD h,Xd6 hy h1 (by omega) h3]
theorem ac5 {x y:Int} (hx:Sm 300000000000000 x) (hy:0 < y):ga2 x y=x / y:=by unfold ga2;rw[Id8 hx hy];rfl
theorem ac6 {x y:Int} (hx:Sm 300000000000000 x) (hy:0 < y):ga3 x y=true:=by unfold ga3;rw[Id8 hx hy];rfl
theorem pe8 (x:Int) {y:Int} (hy:0 < y) (hy2:y≤4000000000000000000):Db0 x y=some (i (x % y),[]):=by
 have hz:(y==0)=false:=by rw[beq_eq_false_iff_ne];omega
 obtain⟨h1,h2,h3⟩:=Id7 (x:=x) hy
 unfold Db0
 rw[bfD (by omega),bf hz,bf hz,Ia1 (by omega) (by omega),Int.tmod_eq_emod_of_nonneg (by omega)]
 congr 3
 rw[Int.add_emod_right]
 conv=>rhs;rw[← h1]
 rw[Int.add_mul_emod_self_left]
theorem Xd7 (x:Int) {y:Int} (hy:0 < y) (hy2:y≤4000000000000000000):ya7 x y=x % y:=by unfold ya7;rw[pe8 x hy hy2];rfl
theorem Vc8 (x:Int) {y:Int} (hy:0 < y) (hy2:y≤4000000000000000000):ra8 x y=true:=by unfold ra8;rw[pe8 x hy hy2];rfl
noncomputable def sc6 (s:V3×V3) (x:Pt):V3×V3 :=
 (⟨if x.px / x.pw < s.1.x then x.px / x.pw else s.1.x,if x.py / x.pw < s.1.y then x.py / x.pw else s.1.y,if x.pz / x.pw < s.1.z then x.pz / x.pw else s.1.z⟩,
  ⟨if W (0 - -x.px / x.pw) > s.2.x then W (0 - -x.px / x.pw) else s.2.x,if W (0 - -x.py / x.pw) > s.2.y then W (0 - -x.py / x.pw) else s.2.y,if W (0 - -x.pz / x.pw) > s.2.z then W (0 - -x.pz / x.pw) else s.2.z⟩)
noncomputable def bnd (c:List Pln):V3×V3×Bool :=
 if ful c then (((pts c).foldl sc6 (⟨24,24,24⟩,⟨-24,-24,-24⟩)).1,((pts c).foldl sc6 (⟨24,24,24⟩,⟨-24,-24,-24⟩)).2,true) else (⟨0,0,0⟩,⟨0,0,0⟩,false)
theorem pe9 {x:Int} (h:Sm 300000000000000 x):W (0 - x)=-x:=by obtain⟨h1,h2⟩:=h;rw[Ia1 (by omega) (by omega)];omega
theorem Sm.neg {n x:Int} (h:Sm n x):Sm n (-x):=⟨by have:=h.2;omega,by have:=h.1;omega⟩
noncomputable def af7 (r:V3×V3×Bool):b7:=.tup [.agg (tV.row r.1),.agg (tV.row r.2.1),b r.2.2]
theorem Sd6 (X:List Pt) (hX:X.length≤8000000) (hok:∀ x∈X,Okx x) (s:V3×V3):∃ m,lp (ma1 ⟨X,(X.length:Int)⟩) ⟨0,s.1.x,s.1.y,s.1.z,s.2.x,s.2.y,s.2.z⟩=(1,⟨m,(X.foldl sc6 s).1.x,(X.foldl sc6 s).1.y,(X.foldl sc6 s).1.z,(X.foldl sc6 s).2.x,(X.foldl sc6 s).2.y,(X.foldl sc6 s).2.z⟩):=by
 have h:=Yb8 (step:=ma1 ⟨X,(X.length:Int)⟩) (mk:=fun j (s:V3×V3)=>(⟨(j:Int),s.1.x,s.1.y,s.1.z,s.2.x,s.2.y,s.2.z⟩:ba4)) (f:=sc6) (fin:=1) tX X (fun _ _=>True) (by omega)
  (fun j s hj _=>⟨by
   have hx:=hok _ (Oc8 tX hj)
   simp only[ma1,sa9,Int.toNat_natCast,pe9 hx.c1,pe9 hx.c2,pe9 hx.c3,ac5 hx.c1 hx.w1,ac5 hx.c2 hx.w1,ac5 hx.c3 hx.w1,ac6 hx.c1 hx.w1,ac6 hx.c2 hx.w1,ac6 hx.c3 hx.w1,
    ac5 hx.c1.neg hx.w1,ac5 hx.c2.neg hx.w1,ac5 hx.c3.neg hx.w1,ac6 hx.c1.neg hx.w1,ac6 hx.c2.neg hx.w1,ac6 hx.c3.neg hx.w1,p6 hj (by omega)]
   rw[btD (n9 hj),bt (f0 hj)]
   rfl,trivial⟩)
  (fun s _=>by simp only[ma1,sa9];rw[bfD (Q3 (Nat.lt_irrefl _))]) 0 (Nat.zero_le _) s trivial
 have h:=h.1
 rw[List.drop_zero] at h
 exact⟨_,h⟩
theorem Id9 {c:List Pln} (hc:c.length≤1000000000):Ta2 c=some (af7 (bnd c),[]):=by
 have ht:T5 ⟨24,24,24⟩ (-1)=⟨-24,-24,-24⟩:=by
  unfold T5
  rw[show W (24*-1)=-24 from by rw[de2];rfl]
 obtain⟨m,hm⟩:=Sd6 (pts c) (sc5 c) De2 (⟨24,24,24⟩,⟨-24,-24,-24⟩)
 unfold Ta2 bnd
 simp only[m0,K8,m8,Ub6 hc,Ub7 hc,pb8 hc,pb9 hc,ht,hm]
 cases ful c<;>rfl
theorem Xd8 (r:V3×V3×Bool):(wb2 r1V r1V r1B).rd (af7 r,[])=some r:=rfl
theorem De4 {c:List Pln} (hc:c.length≤1000000000):jb9 c=bnd c:=by unfold jb9;rw[Id9 hc];exact ya9 _ (Xd8 _)
theorem De5 {c:List Pln} (hc:c.length≤1000000000):kb0 c=true:=by unfold kb0;rw[Id9 hc];exact Ka3 _ (Xd8 _)
theorem qe0 (x:Pt):(x.px==x.px&&(x.py==x.py&&(x.pz==x.pz&&(x.pw==x.pw&&true))))=true:=(td4 x x).2 rfl
theorem qe1 (x:Pln):(x.n.x==x.n.x&&(x.n.y==x.n.y&&(x.n.z==x.n.z&&(x.b==x.b&&true))))=true:=by simp
theorem ec9 (l:List Pt) (hl:l.length≤1000000000):ta2 l l=some (b true,[]):=by
 have h:=nb3 (step:=ea6 ⟨l,l⟩) (mk:=fun j=>(⟨(j:Int)⟩:F4)) (c:=fun _=>false) (u:=1) (fin:=2) tX l hl
  (fun j hj=>by
   simp only[ea6,ba6,Int.toNat_natCast,p6 hj (by omega),qe0]
   rw[btD (n9 hj),bt (f0 hj),bt (f0 hj)]
   rfl)
  (by simp only[ea6,ba6];rw[bfD (Q3 (Nat.lt_irrefl _))]) 0 (Nat.zero_le _)
 rw[List.drop_zero,show (l.any fun _=>false)=false by simp] at h
 unfold ta2
 simp only[m0,m8]
 rw[show (⟨0⟩:F4)=⟨((0:Nat):Int)⟩ from rfl,h,bf (by simp)]
 rfl
theorem sc7 (l:List Pt) (hl:l.length≤1000000000):ta3 l l=true:=by unfold ta3;rw[ec9 l hl];rfl
theorem sc8 (l:List Pt) (hl:l.length≤1000000000):ta4 l l=true:=by unfold ta4;rw[ec9 l hl];rfl
theorem Xd9 (l:List Pln) (hl:l.length≤1000000000):qb7 l l=some (b true,[]):=by
 have h:=nb3 (step:=Ka8 ⟨l,l⟩) (mk:=fun j=>(⟨(j:Int)⟩:ga4)) (c:=fun _=>false) (u:=1) (fin:=2) tP l hl
  (fun j hj=>by
   simp only[Ka8,Ea2,Int.toNat_natCast,p6 hj (by omega),qe1]
   rw[btD (n9 hj),bt (f0 hj),bt (f0 hj)]
   rfl)
  (by simp only[Ka8,Ea2];rw[bfD (Q3 (Nat.lt_irrefl _))]) 0 (Nat.zero_le _)
 rw[List.drop_zero,show (l.any fun _=>false)=false by simp] at h
 unfold qb7
 simp only[m0,m8]
 rw[show (⟨0⟩:ga4)=⟨((0:Nat):Int)⟩ from rfl,h,bf (by simp)]
 rfl
theorem qe2 (l:List Pln) (hl:l.length≤1000000000):qb8 l l=true:=by unfold qb8;rw[Xd9 l hl];rfl
theorem qe3 (l:List Pln) (hl:l.length≤1000000000):qb9 l l=true:=by unfold qb9;rw[Xd9 l hl];rfl
end Go.Ev.Ce
namespace Go.Ev.Ce
open Go Go.Ev Go.Ev.L Go.Proofs
def Nx {σ:Type} (x:Stp σ) (E:Nat→Prop) (N:σ→Prop):Prop:=(∃ t,x=.exit t∧E t)∨∃ s,x=.next s∧N s
theorem Nx.sl {σ:Type} {c:Bool} {t e:Stp σ} {E:Nat→Prop} {N:σ→Prop} (h1:c=true→Nx t E N) (h2:c=false→Nx e E N):Nx (sl c t e) E N:=by cases c;exact h2 rfl;exact h1 rfl
theorem Nx.ex {σ:Type} {t:Nat} {E:Nat→Prop} {N:σ→Prop} (h:E t):Nx (.exit t) E N:=.inl ⟨t,rfl,h⟩
theorem Nx.nx {σ:Type} {s:σ} {E:Nat→Prop} {N:σ→Prop} (h:N s):Nx (.next s) E N:=.inr ⟨s,rfl,h⟩
theorem va6 {σ τ : Type} {step : σ → Stp σ} {mk : Nat → τ → σ} (n : Nat) (I : Nat → τ → Prop) (E : Nat → σ → Prop) (hn : n ≤ 1000000000)
  (h:∀ j a,j < n→I j a→Nx (step (mk j a)) (fun t=>E t (mk j a)) (fun s=>∃ a',s=mk (j+1) a'∧I (j+1) a'))
  (hf:∀ j a,n≤j→I j a→∃ t,step (mk j a)=.exit t∧E t (mk j a)) (j0:Nat) (a:τ) (hi:I j0 a):∃ t s,lp step (mk j0 a)=(t,s)∧E t s:=by
 have key:=Rb8 (step:=step) (I:=fun m s=>∃ j a,m=n - j∧s=mk j a∧I j a) (Q:=E) (fun m s ⟨j,a,hm,hs,ha⟩=>by
  subst hs
  by_cases hlt:j < n
  ·rcases h j a hlt ha with h1 | ⟨s',h1,a',h2,h3⟩
   ·exact .inl h1
   ·subst h2
    exact .inr ⟨_,n - (j+1),by omega,h1,j+1,a',rfl,rfl,h3⟩
  ·exact .inl (hf j a (by omega) ha)) (n - j0) (mk j0 a) (by omega) ⟨j0,a,rfl,rfl,hi⟩
 exact⟨_,_,rfl,key⟩
def Rd {ρ:Type} (R:RR ρ) (o:Option (b7×List b8)) (P:ρ→Prop):Prop:=∃ x r,o=some x∧R.rd x=some r∧P r
theorem Rd.p {ρ:Type} {R:RR ρ} {o:Option (b7×List b8)} {P:ρ→Prop} (h:Rd R o P):P (L4 R o):=by
 obtain⟨x,r,h1,h2,h3⟩:=h
 rw[h1,ya9 R h2]
 exact h3
theorem Rd.g {ρ:Type} {R:RR ρ} {o:Option (b7×List b8)} {P:ρ→Prop} (h:Rd R o P):okO R o=true:=by
 obtain⟨x,r,h1,h2,h3⟩:=h
 rw[h1]
 exact Ka3 R h2
theorem Rd.sl {ρ:Type} {R:RR ρ} {c:Bool} {t e:Option (b7×List b8)} {P:ρ→Prop} (h1:c=true→Rd R t P) (h2:c=false→Rd R e P):Rd R (sl c t e) P:=by cases c;exact h2 rfl;exact h1 rfl
theorem va7 (n : Int) (l : List Int) (j : Int) (h1 : 0 ≤ j) (h2 : j ≤ 1000000) (hn : 0 < n) (hn2 : n ≤ 1000000) :
  ∃ v j',l4 ⟨n,l,j⟩=⟨1,v,j'⟩∧0≤v∧v < n∧j≤j'∧j'≤j+1:=by
 unfold l4 ma2
 simp only
 by_cases h:j≥(l.length:Int)
 ·rw[btD h]
  exact⟨0,j,rfl,by omega,hn,by omega,by omega⟩
 ·rw[bfD h]
  have hW:W (W (j+1) - 1)=j:=by rw[Oc7,Ia1 (by omega) (by omega)];omega
  have hW2:W (j+1)=j+1:=Ia1 (by omega) (by omega)
  have hin:inB j l.length=true:=by rw[Jc6];exact decide_eq_true (by omega)
  rw[hW,hW2,hin,Vc8 _ hn (by omega),Xd7 _ hn (by omega)]
  exact⟨_,_,rfl,Int.emod_nonneg _ (by omega),Int.emod_lt_of_pos _ hn,by omega,by omega⟩
theorem Vc9 (m : Int) (l : List Int) (j : Int) (h1 : 0 ≤ j) (h2 : j ≤ 900000) (hm : 0 ≤ m) (hm2 : m ≤ 100000) :
  ∃ a b c j',Ga5 ⟨m,l,j⟩=⟨1,a,b,c,l,j'⟩∧Sm m a∧Sm m b∧Sm m c∧j≤j'∧j'≤j+3:=by
 unfold Ga5 lb8
 simp only[m0,m8]
 have hW:W (W (2*m)+1)=2*m+1:=by rw[yb3,Ia1 (by omega) (by omega)]
 rw[hW]
 obtain⟨v1,j1,e1,a1,b1,c1,d1⟩:=va7 (2*m+1) l j h1 (by omega) (by omega) (by omega)
 rw[e1]
 obtain⟨v2,j2,e2,a2,b2,c2,d2⟩:=va7 (2*m+1) l j1 (by omega) (by omega) (by omega) (by omega)
 simp only
 rw[e2]
 obtain⟨v3,j3,e3,a3,b3,c3,d3⟩:=va7 (2*m+1) l j2 (by omega) (by omega) (by omega) (by omega)
 simp only
 rw[e3]
 refine⟨v1 - m,v2 - m,v3 - m,j3,?_,⟨by omega,by omega⟩,⟨by omega,by omega⟩,⟨by omega,by omega⟩,by omega,by omega⟩
 simp only
 rw[Ia1 (n:=v1 - m) (by omega) (by omega),Ia1 (n:=v2 - m) (by omega) (by omega),Ia1 (n:=v3 - m) (by omega) (by omega)]
 rfl
def inV (v:V3):Bool:=smb 24 v.x&&(smb 24 v.y&&smb 24 v.z)
theorem Kc1 (v:V3):inV v=true↔Sm 24 v.x∧Sm 24 v.y∧Sm 24 v.z:=by unfold inV;rw[Bool.and_eq_true,Bool.and_eq_true,rc3,rc3,rc3]
theorem qe4 (v:V3):Ub8 v=some (b (inV v),[]):=by
 unfold Ub8 inV smb
 cases h1:decide (v.x < -24)<;>cases h2:decide (v.x > 24)<;>cases h3:decide (v.y < -24)<;>cases h4:decide (v.y > 24)<;>cases h5:decide (v.z < -24)<;>cases h6:decide (v.z > 24)<;>rfl
theorem qe5 (v:V3):Ta5 v=inV v:=by unfold Ta5;rw[qe4];rfl
theorem Yd0 (v:V3):Ta6 v=true:=by unfold Ta6;rw[qe4];rfl
def sub (a b:V3):V3:=⟨a.x - b.x,a.y - b.y,a.z - b.z⟩
theorem Yd1 {a b:V3} (ha:inV a=true) (hb:inV b=true):Pa3 a b=sub a b∧Sm 48 (sub a b).x∧Sm 48 (sub a b).y∧Sm 48 (sub a b).z:=by
 rw[Kc1] at ha hb
 obtain⟨⟨a1,a2⟩,⟨a3,a4⟩,a5,a6⟩:=ha
 obtain⟨⟨b1,b2⟩,⟨b3,b4⟩,b5,b6⟩:=hb
 unfold Pa3 sub
 rw[Ia1 (by omega) (by omega),Ia1 (by omega) (by omega),Ia1 (by omega) (by omega)]
 exact⟨rfl,⟨by show _≤a.x - b.x;omega,by show a.x - b.x≤_;omega⟩,⟨by show _≤a.y - b.y;omega,by show a.y - b.y≤_;omega⟩,⟨by show _≤a.z - b.z;omega,by show a.z - b.z≤_;omega⟩⟩
theorem fd0 {a b c : V3} (ha : inV a = true) (hb : inV b = true) (hc : inV c = true) :
  U9 (Pa3 b a) (Pa3 c a)=q7 (sub b a) (sub c a)∧Sm 4608 (q7 (sub b a) (sub c a)).x∧Sm 4608 (q7 (sub b a) (sub c a)).y∧Sm 4608 (q7 (sub b a) (sub c a)).z:=by
 obtain⟨e1,⟨u1,u2⟩,⟨u3,u4⟩,u5,u6⟩:=Yd1 hb ha
 obtain⟨e2,⟨v1,v2⟩,⟨v3,v4⟩,v5,v6⟩:=Yd1 hc ha
 rw[e1,e2,rc2]
 generalize sub b a=p at *
 generalize sub c a=q at *
 have h1:=mb u3 u4 v5 v6;have h2:=mb u5 u6 v3 v4;have h3:=mb u5 u6 v1 v2;have h4:=mb u1 u2 v5 v6;have h5:=mb u1 u2 v3 v4;have h6:=mb u3 u4 v1 v2
 have k:Sm 4608 (q7 p q).x∧Sm 4608 (q7 p q).y∧Sm 4608 (q7 p q).z:=by unfold Sm q7;simp only;omega
 obtain⟨k1,k2,k3⟩:=k
 rw[Da2 (k1.mono (by omega)),Da2 (k2.mono (by omega)),Da2 (k3.mono (by omega))]
 exact⟨rfl,k1,k2,k3⟩
def De6 (a b c:V3):Pln×Bool :=
 if inV a&&(inV b&&inV c) then
  if g3 (q7 (sub b a) (sub c a))=0 then (⟨⟨0,0,0⟩,0⟩,false)
  else (⟨⟨Int.tdiv (q7 (sub b a) (sub c a)).x (g3 (q7 (sub b a) (sub c a))),Int.tdiv (q7 (sub b a) (sub c a)).y (g3 (q7 (sub b a) (sub c a))),Int.tdiv (q7 (sub b a) (sub c a)).z (g3 (q7 (sub b a) (sub c a)))⟩,
   dot ⟨Int.tdiv (q7 (sub b a) (sub c a)).x (g3 (q7 (sub b a) (sub c a))),Int.tdiv (q7 (sub b a) (sub c a)).y (g3 (q7 (sub b a) (sub c a))),Int.tdiv (q7 (sub b a) (sub c a)).z (g3 (q7 (sub b a) (sub c a)))⟩ a⟩,true)
 else (⟨⟨0,0,0⟩,0⟩,false)
theorem fe7 (v:V3):0≤g3 v:=by unfold g3;omega
theorem Wc0 (a c d:V3):Ka4 a c d=some (.tup [.agg (tP.row (De6 a c d).1),b (De6 a c d).2],[]):=by
 unfold Ka4 De6
 simp only[qe5,Yd0]
 cases ha:inV a with
 | false=>rfl
 | true =>
  cases hc:inV c with
  | false=>rfl
  | true =>
   cases hd:inV d with
   | false=>rfl
   | true =>
    obtain⟨e,k1,k2,k3⟩:=fd0 ha hc hd
    rw[e]
    generalize q7 (sub c a) (sub d a)=n at *
    have m1:=k1.mono (m:=1000000000000000000) (by omega)
    have m2:=k2.mono (m:=1000000000000000000) (by omega)
    have m3:=k3.mono (m:=1000000000000000000) (by omega)
    rw[oe4 m1 m2 m3,Sc9 m1 m2 m3]
    by_cases h0:g3 n=0
    ·rw[show (g3 n==0)=true from by rw[h0];rfl]
     simp only[Bool.and_self,if_true,h0]
     rfl
    ·have hp:=fe7 n
     have q1:=K5 (g:=g3 n) k1 (by omega)
     have q2:=K5 (g:=g3 n) k2 (by omega)
     have q3:=K5 (g:=g3 n) k3 (by omega)
     rw[show (g3 n==0)=false from by rw[beq_eq_false_iff_ne];exact h0,Pe6 m1 m2 m3 h0]
     simp only[Bool.and_self,if_true,h0,if_false]
     rw[Da2 (q1.mono (by omega)),Da2 (q2.mono (by omega)),Da2 (q3.mono (by omega))]
     have hdot:Oa6 ⟨Int.tdiv n.x (g3 n),Int.tdiv n.y (g3 n),Int.tdiv n.z (g3 n)⟩ a=dot ⟨Int.tdiv n.x (g3 n),Int.tdiv n.y (g3 n),Int.tdiv n.z (g3 n)⟩ a:=by
      unfold Oa6
      simp only[yb3,hc5]
      obtain⟨⟨a1,a2⟩,⟨a3,a4⟩,a5,a6⟩:=(Kc1 a).1 ha
      have r1:=mb q1.1 q1.2 a1 a2;have r2:=mb q2.1 q2.2 a3 a4;have r3:=mb q3.1 q3.2 a5 a6
      rw[Ia1 (by omega) (by omega)]
      rfl
     rw[hdot]
     rfl
theorem fe8 (a b c:V3):pa6 a b c=De6 a b c:=by unfold pa6;rw[Wc0];rfl
theorem ac7 (a b c:V3):pa7 a b c=true:=by unfold pa7;rw[Wc0];rfl
theorem De7 (l:List Int):Rd (one r1P) (qb1 l) (fun _=>True):=by
 unfold qb1
 simp only[m0,m8]
 obtain⟨v1,j1,e1,a1,b1,c1,d1⟩:=va7 8 l 0 (by omega) (by omega) (by omega) (by omega)
 rw[e1]
 simp only
 obtain⟨v2,j2,e2,a2,b2,c2,d2⟩:=va7 17 l j1 (by omega) (by omega) (by omega) (by omega)
 rw[e2]
 simp only
 obtain⟨x1,x2,x3,j3,e3,_,_,_,c3,d3⟩:=Vc9 8 l j2 (by omega) (by omega) (by omega) (by omega)
 rw[e3]
 simp only
 obtain⟨y1,y2,y3,j4,e4,_,_,_,c4,d4⟩:=Vc9 8 l j3 (by omega) (by omega) (by omega) (by omega)
 rw[e4]
 simp only
 obtain⟨z1,z2,z3,j5,e5,_,_,_,c5,d5⟩:=Vc9 8 l j4 (by omega) (by omega) (by omega) (by omega)
 rw[e5]
 simp only[fe8,ac7,Vc8 _ (show (0:Int) < 3 by omega) (by omega),m8]
 simp only[Nat.beq_refl,Bool.and_true,q9]
 refine Rd.sl (fun _=>Rd.sl (fun _=>⟨_,_,rfl,rfl,trivial⟩) fun _=>?_) (fun _=>?_)
 ·exact Rd.sl (fun _=>⟨_,_,rfl,rfl,trivial⟩) fun _=>Rd.sl (fun _=>⟨_,_,rfl,rfl,trivial⟩) fun _=>⟨_,_,rfl,rfl,trivial⟩
 ·exact Rd.sl (fun _=>⟨_,_,rfl,rfl,trivial⟩) fun _=>Rd.sl (fun _=>⟨_,_,rfl,rfl,trivial⟩) fun _=>⟨_,_,rfl,rfl,trivial⟩
theorem De8 (l:List Int):Jb4 l=true:=(De7 l).g
theorem De9 (p:Pln) (v:V3):Rd (one r1I) (qb2 p v) (fun _=>True):=by
 unfold qb2
 simp only[Gd3,Yd0,q9]
 exact Rd.sl (fun _=>⟨_,_,rfl,rfl,trivial⟩) fun _=>Rd.sl (fun _=>⟨_,_,rfl,rfl,trivial⟩) fun _=>Rd.sl (fun _=>⟨_,_,rfl,rfl,trivial⟩) fun _=>Rd.sl (fun _=>⟨_,_,rfl,rfl,trivial⟩) fun _=>⟨_,_,rfl,rfl,trivial⟩
theorem qe6 (p:Pln) (v:V3):Jb7 p v=true:=(De9 p v).g
theorem af8 (P:va4) (hl:P.i5.length≤1000000000):∃ t s,lp (za0 P) ⟨0⟩=(t,s)∧(t=1∨t=2∨t=3):=by
 obtain⟨l,x1,x2,x3,x4,x5,x6,x7,x8⟩:=P
 refine va6 (step:=za0 ⟨l,x1,x2,x3,x4,x5,x6,x7,x8⟩) (mk:=fun j (_:Unit)=>(⟨(j:Int)⟩:na4)) l.length (fun _ _=>True) (fun t _=>t=1∨t=2∨t=3) hl (fun j a hj _=>?_) (fun j a hj _=>?_) 0 () trivial
 ·simp only[za0,Da4,qe6,Int.toNat_natCast,p6 hj (show l.length≤4611686018427387904 from Nat.le_trans hl (by omega))]
  rw[btD (n9 hj),bt (f0 hj),q9]
  exact Nx.sl (fun _=>Nx.sl (fun _=>.ex (by simp)) fun _=>.nx ⟨(),rfl,trivial⟩) fun _=>.ex (by simp)
 ·simp only[za0,Da4]
  rw[bfD (by omega)]
  exact⟨_,rfl,by simp⟩
theorem af9 (l:List V3) (hl:l.length≤1000000000) (a c:Nat) (ha:a < l.length) (hc:c < a):∃ t s,lp (za1 ⟨(a:Int),(c:Int)⟩) ⟨l,0⟩=(t,s)∧((t=1∨t=2)∧s.i5=l):=by
 refine va6 (step:=za1 ⟨(a:Int),(c:Int)⟩) (mk:=fun j (_:Unit)=>(⟨l,(j:Int)⟩:na5)) c (fun _ _=>True) (fun t s=>(t=1∨t=2)∧s.i5=l) (by omega) (fun j x hj _=>?_) (fun j x hj _=>?_) 0 () trivial
 ·simp only[za1,Da5,ac7,Int.toNat_natCast,m0,m8,p6 hj (show c≤4611686018427387904 by omega)]
  rw[btD (n9 hj),bt (f0 ha),bt (f0 (show c < l.length by omega)),bt (f0 (show j < l.length by omega)),q9]
  generalize hP:va4.mk _ _ _ _ _ _ _ _ _=P3
  obtain⟨t,s,h1,h2⟩:=af8 P3 (by subst hP;exact hl)
  rw[h1]
  rcases h2 with rfl | rfl | rfl
  ·exact .ex (by simp)
  ·exact .nx ⟨(),rfl,trivial⟩
  ·exact .nx ⟨(),rfl,trivial⟩
 ·simp only[za1,Da5]
  rw[bfD (by omega)]
  exact⟨_,rfl,by simp⟩
theorem bf0 (l:List V3) (hl:l.length≤1000000000) (a:Nat) (ha:a < l.length):∃ t s,lp (za2 ⟨(a:Int)⟩) ⟨l,0⟩=(t,s)∧((t=1∨t=2)∧s.i5=l):=by
 refine va6 (step:=za2 ⟨(a:Int)⟩) (mk:=fun j (_:Unit)=>(⟨l,(j:Int)⟩:na6)) a (fun _ _=>True) (fun t s=>(t=1∨t=2)∧s.i5=l) (by omega) (fun j x hj _=>?_) (fun j x hj _=>?_) 0 () trivial
 ·simp only[za2,Da6,m0,m8,p6 hj (show a≤4611686018427387904 by omega)]
  obtain⟨t,s,h1,h2,h3⟩:=af9 l hl a j ha hj
  rw[btD (n9 hj),h1]
  rcases h2 with rfl | rfl
  ·exact .ex (by simp)
  ·exact .nx ⟨(),by rw[h3],trivial⟩
 ·simp only[za2,Da6]
  rw[bfD (by omega)]
  exact⟨_,rfl,by simp⟩
theorem vb9 (l:List V3) (hl:l.length≤1000000000):Rd (one r1B) (qb3 l) (fun _=>True):=by
 have key:∃ t s,lp (za3 ⟨⟩) ⟨l,0⟩=(t,s)∧(t=1∨t=2):=by
  refine va6 (step:=za3 ⟨⟩) (mk:=fun j (_:Unit)=>(⟨l,(j:Int)⟩:na7)) l.length (fun _ _=>True) (fun t s=>(t=1∨t=2)) hl (fun j x hj _=>?_) (fun j x hj _=>?_) 0 () trivial
  ·simp only[za3,Da7,m0,m8,p6 hj (show l.length≤4611686018427387904 by omega)]
   obtain⟨t,s,h1,h2,h3⟩:=bf0 l hl j hj
   rw[btD (n9 hj),h1]
   rcases h2 with rfl | rfl
   ·exact .ex (by simp)
   ·exact .nx ⟨(),by rw[h3],trivial⟩
  ·simp only[za3,Da7]
   rw[bfD (by omega)]
   exact⟨_,rfl,by simp⟩
 obtain⟨t,s,h1,h2⟩:=key
 unfold qb3
 simp only[m0,m8]
 rw[h1]
 rcases h2 with rfl | rfl<;>exact⟨_,_,rfl,rfl,trivial⟩
theorem qe7 (l:List V3) (hl:l.length≤1000000000):Xa9 l=true:=(vb9 l hl).g
theorem Sd7 (l:List V3) (hl:l.length≤1000000000):Rd (one r1I) (cb5 l) (fun _=>True):=by
 have h:=nb3 (step:=Da8 ⟨l⟩) (mk:=fun j=>(⟨(j:Int)⟩:Z8)) (c:=fun v=>!inV v) (u:=1) (fin:=2) tV l hl
  (fun j hj=>by
   simp only[Da8,xa5,Int.toNat_natCast,qe5,Yd0,p6 hj (show l.length≤4611686018427387904 by omega)]
   rw[btD (n9 hj),bt (f0 hj),q9])
  (by simp only[Da8,xa5];rw[bfD (Q3 (Nat.lt_irrefl _))]) 0 (Nat.zero_le _)
 unfold cb5
 simp only[m0,m8,K8,qe7 l hl]
 rw[show (⟨0⟩:Z8)=⟨((0:Nat):Int)⟩ from rfl,h]
 refine Rd.sl (fun _=>⟨_,_,rfl,rfl,trivial⟩) fun _=>?_
 rw[List.drop_zero]
 cases l.any fun v=>!inV v with
 | true=>exact⟨_,_,rfl,rfl,trivial⟩
 | false =>
  show Rd (one r1I) (sl (qb4 l) (some (i 11,[])) (some (i 0,[]))) (fun _=>True)
  exact Rd.sl (fun _=>⟨_,_,rfl,rfl,trivial⟩) fun _=>⟨_,_,rfl,rfl,trivial⟩
theorem fe9 (l:List V3) (hl:l.length≤1000000000):Vb3 l=true:=(Sd7 l hl).g
theorem qe8 (p:Pln) (l:List V3) (hl:l.length≤1000000000):Rd (one r1B) (cb6 p l) (fun _=>True):=by
 have h:=nb3 (step:=Da9 ⟨l,p.n.x,p.n.y,p.n.z,p.b⟩) (mk:=fun j=>(⟨(j:Int)⟩:Z9)) (c:=fun v=>decide (Jb6 p v > 0)) (u:=1) (fin:=2) tV l hl
  (fun j hj=>by
   simp only[Da9,xa6,Int.toNat_natCast,qe6,p6 hj (show l.length≤4611686018427387904 by omega)]
   rw[btD (n9 hj),bt (f0 hj),q9])
  (by simp only[Da9,xa6];rw[bfD (Q3 (Nat.lt_irrefl _))]) 0 (Nat.zero_le _)
 unfold cb6
 simp only[m0,m8]
 rw[show (⟨0⟩:Z9)=⟨((0:Nat):Int)⟩ from rfl,h]
 split<;>exact⟨_,_,rfl,rfl,trivial⟩
theorem Ee0 (p:Pln) (l:List V3) (hl:l.length≤1000000000):na8 p l=true:=(qe8 p l hl).g
theorem Qe7 (p q:Pln):Rd (one r1I) (pa8 p q) (fun _=>True):=by
 have key:∃ t s,lp (H5 ⟨p.n.x,p.n.y,p.n.z,p.b,q.n.x,q.n.y,q.n.z,q.b⟩) ⟨0⟩=(t,s)∧(t=1∨t=2∨t=3):=by
  refine va6 (step:=H5 ⟨p.n.x,p.n.y,p.n.z,p.b,q.n.x,q.n.y,q.n.z,q.b⟩) (mk:=fun j (_:Unit)=>(⟨(j:Int)⟩:O9)) 4 (fun _ _=>True) (fun t s=>(t=1∨t=2∨t=3)) (by omega) (fun j x hj _=>?_) (fun j x hj _=>?_) 0 () trivial
  ·have hn:=p6 hj (show 4≤4611686018427387904 by omega)
   simp only[H5,T8,Int.toNat_natCast,hn]
   have hlt:(j:Int) < 4:=by omega
   have hin:=f0 hj
   have g:∀ x1 x2 x3 x4:Int,((Nat.ble ((0+(j*1))+1) 4)&&(K7 [(CK.int .i64)] (e7 [(i x1),(i x2),(i x3),(i x4)] (0+(j*1)))))=true:=by
    intro x1 x2 x3 x4
    match j,hj with
    | 0,_=>rfl
    | 1,_=>rfl
    | 2,_=>rfl
    | 3,_=>rfl
   rw[btD hlt]
   simp only[hin,g,q9]
   exact Nx.sl (fun _=>.ex (by simp)) fun _=>Nx.sl (fun _=>.ex (by simp)) fun _=>.nx ⟨(),rfl,trivial⟩
  ·simp only[H5,T8]
   rw[bfD (by omega)]
   exact⟨_,rfl,by simp⟩
 obtain⟨t,s,h1,h2⟩:=key
 unfold pa8
 simp only
 rw[h1]
 rcases h2 with rfl | rfl | rfl<;>exact⟨_,_,rfl,rfl,trivial⟩
theorem qe9 (p q:Pln):Za3 p q=true:=(Qe7 p q).g
theorem Wc1 (l:List Pln) (n:Nat) (h:n≤l.length):o0 (fun k=>(fun k=>tP.row (gL tP l k)) (0+k)) (List.range (n - 0))=bL tP (l.take n):=by
 rw[← nb2,n8,n8,List.length_take,Nat.min_eq_left h,Nat.sub_zero]
 apply List.map_congr_left
 intro k hk
 rw[List.mem_range] at hk
 show tP.row (gL tP l (0+k))=tP.row (gL tP (l.take n) k)
 congr 1
 simp[gL,List.getD_eq_getElem?_getD,List.getElem?_take,hk]
theorem Wc2 (l:List Pln) (n:Nat):o0 (fun k=>(fun k=>tP.row (gL tP l k)) (n+k)) (List.range (l.length - n))=bL tP (l.drop n):=by
 rw[← nb2,n8,n8,List.length_drop]
 apply List.map_congr_left
 intro k hk
 show tP.row (gL tP l (n+k))=tP.row (gL tP (l.drop n) k)
 rw[rc7]
theorem Vb7 (l:List Pln) (x1 x2 x3 x4:Int):app (bL tP l) [[i x1,i x2,i x3,i x4]]=bL tP (l++[⟨⟨x1,x2,x3⟩,x4⟩]):=Na3 tP l [⟨⟨x1,x2,x3⟩,x4⟩]
def Nb6 (x:List Pln) (y:Pln) (n:Nat):List Pln:=x.take n++(y::x.drop n)
theorem Ab9 {l:List Pln} {n:Nat} {r:List (List b7)} {P:List Pln→Prop} (hn:n=l.length) (hr:r=bL tP l) (h:P l):Rd (one (r1L tP)) (some (.sl 0 0 n 0,[⟨50,4,r,true,false,0⟩])) P:=by
 subst hn hr
 exact⟨_,l,rfl,jc2 l,h⟩
theorem re0 (x:List Pln) (y:Pln) (hx:x.length≤1000000):Rd (one (r1L tP)) (Eb0 x y) (fun r=>r≠[]∧r.length≤x.length+1∧∀ p∈r,p=y∨p∈x):=by
 have h:=ib9 (step:=Ga6 ⟨x,y.n.x,y.n.y,y.n.z,y.b⟩) (mk:=fun j=>(⟨(j:Int)⟩:na9)) (c:=fun p=>!decide (Z7 p y < 0)) (u:=1) (fin:=2) tP x (by omega)
  (fun j hj=>by
   simp only[Ga6,Ka7,Int.toNat_natCast,qe9,p6 hj (show x.length≤4611686018427387904 by omega)]
   rw[btD (n9 hj),bt (f0 hj),q9]
   cases decide (Z7 (gL tP x j) y < 0)<;>rfl)
  (by simp only[Ga6,Ka7];rw[bfD (Q3 (Nat.lt_irrefl _))]) 0 (Nat.zero_le _)
 rw[List.drop_zero] at h
 have key:∃ t n,lp (Ga6 ⟨x,y.n.x,y.n.y,y.n.z,y.b⟩) ⟨0⟩=(t,⟨((n:Nat):Int)⟩)∧(t=1∨t=2)∧n≤x.length:=by
  rw[show (⟨0⟩:na9)=⟨((0:Nat):Int)⟩ from rfl,h]
  split
  ·exact⟨1,_,rfl,.inl rfl,by rw[Nat.zero_add];exact List.findIdx_le_length⟩
  ·exact⟨2,_,rfl,.inr rfl,Nat.le_refl _⟩
 obtain⟨t,n,h1,h2,h3⟩:=key
 have hlo:inB (n:Int) (x.length+1)=true:=f0 (by omega)
 have hd:(bL tP (x.take n)).length=n:=by rw[← l9,P5,List.length_take];omega
 have hmem:∀ p∈Nb6 x y n,p=y∨p∈x:=fun p hp=>by
  unfold Nb6 at hp
  rcases List.mem_append.1 hp with hp | hp
  ·exact .inr (List.mem_of_mem_take hp)
  ·rcases List.mem_cons.1 hp with hp | hp
   ·exact .inl hp
   ·exact .inr (List.mem_of_mem_drop hp)
 have hne:Nb6 x y n≠[]:=by unfold Nb6;simp
 have hlen:(Nb6 x y n).length=x.length+1:=by unfold Nb6;simp only[List.length_append,List.length_cons,List.length_take,List.length_drop];omega
 have lt:len (bL tP (x.take n))=n:=by rw[l9];exact hd
 have ld:len (bL tP (x.drop n))=x.length - n:=by rw[P5,List.length_drop]
 have b1:(Nat.beq 1 1&&Nat.ble ((1+(x.length - n))*32) room)=true:=by rw[fa1 (by omega)];rfl
 have b2:(Nat.beq 0 0&&Nat.ble ((0+n)*32) room)=true:=by rw[fa1 (by omega)];rfl
 have e0:app [] (bL tP (x.take n))=bL tP (x.take n):=rfl
 have b3:(Nat.beq (0+n) n&&Nat.ble (((0+n)+1)*32) room)=true:=by rw[fa1 (by omega),Nat.zero_add,Nat.beq_refl];rfl
 have l3:len (bL tP (x.take n++[y]))=n+1:=by rw[P5,List.length_append,List.length_take];simp only[List.length_singleton];omega
 have b4:(Nat.beq ((0+n)+1) (n+1)&&Nat.ble ((((0+n)+1)+(x.length - n))*32) room)=true:=by rw[fa1 (by omega),Nat.zero_add,Nat.beq_refl];rfl
 have z0:∀ {k:Nat},Nat.beq k 0=true→k=0:=fun {k} h=>Nat.eq_of_beq_eq_true h
 have fin:∀ m r,m=x.length+1→r=bL tP (Nb6 x y n)→Rd (one (r1L tP)) (some (.sl 0 0 m 0,[⟨50,4,r,true,false,0⟩])) (fun r=>r≠[]∧r.length≤x.length+1∧∀ p∈r,p=y∨p∈x) :=
  fun m r hm hr=>Ab9 (by rw[hlen];exact hm) hr ⟨hne,by omega,hmem⟩
 have tail : Rd (one (r1L tP)) (sl (Nat.beq n 0) (sl (Nat.beq (x.length - n) 0) (some ((.sl 0 0 1 0), [⟨50, 4, [[(i y.n.x), (i y.n.y), (i y.n.z), (i y.b)]], true, false, 0⟩]))
   (some ((.sl 0 0 (1+(x.length - n)) 0),[⟨50,4,(app [[(i y.n.x),(i y.n.y),(i y.n.z),(i y.b)]] (bL tP (x.drop n))),true,false,0⟩])))
   (sl (Nat.beq (x.length - n) 0) (some ((.sl 0 0 ((0+n)+1) 0),[⟨50,4,bL tP (x.take n++[y]),true,false,0⟩]))
    (some ((.sl 0 0 (((0+n)+1)+(x.length - n)) 0),[⟨50,4,(app (bL tP (x.take n++[y])) (bL tP (x.drop n))),true,false,0⟩])))) (fun r=>r≠[]∧r.length≤x.length+1∧∀ p∈r,p=y∨p∈x):=by
  refine Rd.sl (fun q1=>Rd.sl (fun q2=>?_) (fun q2=>?_)) (fun q1=>Rd.sl (fun q2=>?_) (fun q2=>?_))
  ·have:=z0 q1;have:=z0 q2
   refine fin _ _ (by omega) ?_
   have:x=[]:=List.eq_nil_of_length_eq_zero (by omega)
   subst this
   rw[show n=0 by omega];rfl
  ·have:=z0 q1;subst this
   exact fin _ _ (by omega) rfl
  ·have:=z0 q2
   refine fin _ _ (by omega) ?_
   unfold Nb6
   rw[show x.drop n=[] from List.drop_eq_nil_of_le (by omega)]
  ·refine fin _ _ (by omega) ?_
   rw[Na3]
   unfold Nb6
   rw[List.append_assoc];rfl
 have same:∀ p:Pln,(p.n.x==y.n.x&&(p.n.y==y.n.y&&(p.n.z==y.n.z&&(p.b==y.b&&true))))=true→n < x.length→Rd (one (r1L tP)) (some (eL tP x,[])) (fun r=>r≠[]∧r.length≤x.length+1∧∀ p∈r,p=y∨p∈x):=fun p _ hn =>
  ⟨_,x,rfl,md0 tP x,List.ne_nil_of_length_pos (by omega),Nat.le_succ _,fun p hp=>Or.inr hp⟩
 unfold Eb0
 simp only[m0,m8]
 rw[h1]
 simp only[Int.toNat_natCast,Wc1 x n h3,Wc2,lt,ld,b1,b2,e0,b3,Vb7,l3,b4,hlo,q9]
 have main : Rd (one (r1L tP)) (sl (decide ((n : Int) < (x.length : Int))) (sl (inB (n : Int) x.length) (sl (((gL tP x n).n.x == y.n.x) && (((gL tP x n).n.y == y.n.y) && (((gL tP x n).n.z == y.n.z) && (((gL tP x n).b == y.b) && true)))) (some (eL tP x, []))
   (sl (Nat.beq n 0) (sl (Nat.beq (x.length - n) 0) (some ((.sl 0 0 1 0),[⟨50,4,[[(i y.n.x),(i y.n.y),(i y.n.z),(i y.b)]],true,false,0⟩]))
   (some ((.sl 0 0 (1+(x.length - n)) 0),[⟨50,4,(app [[(i y.n.x),(i y.n.y),(i y.n.z),(i y.b)]] (bL tP (x.drop n))),true,false,0⟩])))
   (sl (Nat.beq (x.length - n) 0) (some ((.sl 0 0 ((0+n)+1) 0),[⟨50,4,bL tP (x.take n++[y]),true,false,0⟩]))
    (some ((.sl 0 0 (((0+n)+1)+(x.length - n)) 0),[⟨50,4,(app (bL tP (x.take n++[y])) (bL tP (x.drop n))),true,false,0⟩]))))) none)
   (sl (Nat.beq n 0) (sl (Nat.beq (x.length - n) 0) (some ((.sl 0 0 1 0),[⟨50,4,[[(i y.n.x),(i y.n.y),(i y.n.z),(i y.b)]],true,false,0⟩]))
   (some ((.sl 0 0 (1+(x.length - n)) 0),[⟨50,4,(app [[(i y.n.x),(i y.n.y),(i y.n.z),(i y.b)]] (bL tP (x.drop n))),true,false,0⟩])))
   (sl (Nat.beq (x.length - n) 0) (some ((.sl 0 0 ((0+n)+1) 0),[⟨50,4,bL tP (x.take n++[y]),true,false,0⟩]))
    (some ((.sl 0 0 (((0+n)+1)+(x.length - n)) 0),[⟨50,4,(app (bL tP (x.take n++[y])) (bL tP (x.drop n))),true,false,0⟩]))))) (fun r=>r≠[]∧r.length≤x.length+1∧∀ p∈r,p=y∨p∈x):=by
  by_cases hn:n < x.length
  ·rw[btD (n9 hn),bt (f0 hn)]
   exact Rd.sl (fun q=>same _ q hn) fun _=>tail
  ·rw[bfD (Q3 hn)]
   exact tail
 rcases h2 with rfl | rfl
 ·exact main
 ·exact main
end Go.Ev.Ce
namespace Go.Ev.Ce
open Go Go.Ev Go.Ev.L Go.Proofs
theorem Ke9 (x:List Pln) (y:Pln) (hx:x.length≤1000000):za4 x y=true:=(re0 x y hx).g
theorem Le0 (x:List Pln) (y:Pln) (hx:x.length≤1000000):L8 x y≠[]∧(L8 x y).length≤x.length+1∧∀ p∈L8 x y,p=y∨p∈x:=(re0 x y hx).p
structure Fc (ph:Nat) (out:List Pln) (m:Nat):Prop where
 h:(ph=0∧out=[])∨ph=1
 l:out.length≤m
theorem Fc.more {ph m m':Nat} {out:List Pln} (h:Fc ph out m) (hm:m≤m'):Fc ph out m':=⟨h.h,Nat.le_trans h.l hm⟩
theorem Ee1 (l : List V3) (hl : l.length ≤ 48) (a c : Nat) (ha : a < l.length) (hc : c < a) (h0 : Nat) (out : List Pln) (m : Nat) (hm : m ≤ 900000) (hf : Fc h0 out m) :
  ∃ t s,lp (Ea0 ⟨l,(a:Int),(c:Int)⟩) ⟨h0,0,out⟩=(t,s)∧(t=s.ph+1∧Fc s.ph s.ka3 (m+100)):=by
 refine va6 (step:=Ea0 ⟨l,(a:Int),(c:Int)⟩) (mk:=fun j (x:Nat×List Pln)=>(⟨x.1,(j:Int),x.2⟩:H6)) c (fun j x=>Fc x.1 x.2 (m+2*j)∧j≤48) (fun t s=>t=s.ph+1∧Fc s.ph s.ka3 (m+100)) (by omega) (fun j x hj hx=>?_) (fun j x hj hx=>?_) 0 (h0,out) ⟨hf,by omega⟩
 ·obtain⟨h,o⟩:=x
  obtain⟨⟨hx,hx2⟩,_⟩:=hx
  have hn:=p6 hj (show c≤4611686018427387904 by omega)
  have hh:∀ p,na8 p l=true:=fun p=>Ee0 p l (by omega)
  have hg1:∀ y,za4 o y=true:=fun y=>Ke9 o y (by simp only at hx2;omega)
  have hp1:∀ y,L8 o y≠[]∧(L8 o y).length≤o.length+1:=fun y=>by have:=Le0 o y (by simp only at hx2;omega);exact⟨this.1,this.2.1⟩
  have hg2:∀ y z,za4 (L8 o y) z=true:=fun y z=>Ke9 _ z (by have:=(hp1 y).2;simp only at hx2;omega)
  have hp2:∀ y z,(L8 (L8 o y) z).length≤o.length+2:=fun y z=>by
   have:=(Le0 (L8 o y) z (by have:=(hp1 y).2;simp only at hx2;omega)).2.1
   have:=(hp1 y).2
   omega
  simp only at hx hx2
  have stay:Fc h o (m+2*(j+1))∧j+1≤48:=⟨⟨hx,by omega⟩,by omega⟩
  have put1:∀ y,Fc 1 (L8 o y) (m+2*(j+1))∧j+1≤48:=fun y=>⟨⟨.inr rfl,by have:=(hp1 y).2;omega⟩,by omega⟩
  have put2:∀ y z,Fc 1 (L8 (L8 o y) z) (m+2*(j+1))∧j+1≤48:=fun y z=>⟨⟨.inr rfl,by have:=hp2 y z;omega⟩,by omega⟩
  rcases hx with⟨rfl,rfl⟩ | rfl
  ·show Nx (da5 Stp.next Stp.exit Stp.fail _ _) _ _
   simp only[da5,ac7,Int.toNat_natCast,m0,K8,hh,hg1,hg2,hn]
   rw[btD (n9 hj),bt (f0 ha),bt (f0 (show c < l.length by omega)),bt (f0 (show j < l.length by omega))]
   simp only[q9]
   refine Nx.sl (fun _=>.nx ⟨(0,[]),rfl,stay⟩) fun _=>Nx.sl (fun _=>Nx.sl (fun _=>.nx ⟨(1,_),rfl,put2 _ _⟩) fun _=>.nx ⟨(1,_),rfl,put1 _⟩) fun _=>Nx.sl (fun _=>.nx ⟨(1,_),rfl,put1 _⟩) fun _=>.nx ⟨(0,[]),rfl,stay⟩
  ·show Nx (da6 Stp.next Stp.exit Stp.fail _ _) _ _
   simp only[da6,ac7,Int.toNat_natCast,m0,K8,hh,hg1,hg2,hn]
   rw[btD (n9 hj),bt (f0 ha),bt (f0 (show c < l.length by omega)),bt (f0 (show j < l.length by omega))]
   simp only[q9]
   refine Nx.sl (fun _=>.nx ⟨(1,o),rfl,stay⟩) fun _=>Nx.sl (fun _=>Nx.sl (fun _=>.nx ⟨(1,_),rfl,put2 _ _⟩) fun _=>.nx ⟨(1,_),rfl,put1 _⟩) fun _=>Nx.sl (fun _=>.nx ⟨(1,_),rfl,put1 _⟩) fun _=>.nx ⟨(1,o),rfl,stay⟩
 ·obtain⟨h,o⟩:=x
  obtain⟨⟨hx,hx2⟩,h48⟩:=hx
  simp only at hx hx2
  rcases hx with⟨rfl,rfl⟩ | rfl
  ·refine⟨1,?_,rfl,⟨.inl ⟨rfl,rfl⟩,by show 0≤_;omega⟩⟩
   show da5 Stp.next Stp.exit Stp.fail _ _=_
   simp only[da5]
   rw[bfD (by omega)]
  ·refine⟨2,?_,rfl,⟨.inr rfl,by show o.length≤_;omega⟩⟩
   show da6 Stp.next Stp.exit Stp.fail _ _=_
   simp only[da6]
   rw[bfD (by omega)]
theorem Ee2 (l : List V3) (hl : l.length ≤ 48) (a : Nat) (ha : a < l.length) (h0 : Nat) (out : List Pln) (m : Nat) (hm : m ≤ 800000) (hf : Fc h0 out m) :
  ∃ t s,lp (Ea1 ⟨(a:Int)⟩) ⟨h0,l,0,out⟩=(t,s)∧(t=s.ph+1∧Fc s.ph s.ka3 (m+5000)∧s.i5=l):=by
 refine va6 (step:=Ea1 ⟨(a:Int)⟩) (mk:=fun j (x:Nat×List Pln)=>(⟨x.1,l,(j:Int),x.2⟩:H7)) a (fun j x=>Fc x.1 x.2 (m+100*j)∧j≤48) (fun t s=>t=s.ph+1∧Fc s.ph s.ka3 (m+5000)∧s.i5=l) (by omega) (fun j x hj hx=>?_) (fun j x hj hx=>?_) 0 (h0,out) ⟨hf,by omega⟩
 ·obtain⟨h,o⟩:=x
  obtain⟨hx,_⟩:=hx
  have hn:=p6 hj (show a≤4611686018427387904 by omega)
  simp only at hx
  obtain⟨t,s,e1,e2,e3⟩:=Ee1 l hl a j ha hj h o (m+100*j) (by omega) hx
  obtain⟨s1,s2,s3⟩:=s
  simp only at e2 e3
  have go:Fc s1 s3 (m+100*(j+1))∧j+1≤48:=⟨e3.more (by omega),by omega⟩
  rcases hx.h with⟨rfl,rfl⟩ | rfl
  ·show Nx (da7 Stp.next Stp.exit Stp.fail _ _) _ _
   simp only[da7,m0,m8,hn]
   rw[btD (n9 hj),e1,e2]
   rcases e3.h with⟨rfl,rfl⟩ | rfl
   ·exact .nx ⟨(0,[]),rfl,go⟩
   ·exact .nx ⟨(1,s3),rfl,go⟩
  ·show Nx (da8 Stp.next Stp.exit Stp.fail _ _) _ _
   simp only[da8,m0,m8,hn]
   rw[btD (n9 hj),e1,e2]
   rcases e3.h with⟨rfl,rfl⟩ | rfl
   ·exact .nx ⟨(0,[]),rfl,go⟩
   ·exact .nx ⟨(1,s3),rfl,go⟩
 ·obtain⟨h,o⟩:=x
  obtain⟨hx,h48⟩:=hx
  simp only at hx
  have h2:=hx.more (show m+100*j≤m+5000 by omega)
  rcases hx.h with⟨rfl,rfl⟩ | rfl
  ·refine⟨1,?_,rfl,h2,rfl⟩
   show da7 Stp.next Stp.exit Stp.fail _ _=_
   simp only[da7]
   rw[bfD (by omega)]
  ·refine⟨2,?_,rfl,h2,rfl⟩
   show da8 Stp.next Stp.exit Stp.fail _ _=_
   simp only[da8]
   rw[bfD (by omega)]
theorem Ee3 (l : List V3) (hl : l.length ≤ 48) :
  ∃ t s,lp (Ua0 ⟨⟩) ⟨0,l,0,[]⟩=(t,s)∧(t=s.ph+1∧Fc s.ph s.ka3 250000):=by
 refine va6 (step:=Ua0 ⟨⟩) (mk:=fun j (x:Nat×List Pln)=>(⟨x.1,l,(j:Int),x.2⟩:L3)) l.length (fun j x=>Fc x.1 x.2 (5000*j)∧j≤48) (fun t s=>t=s.ph+1∧Fc s.ph s.ka3 250000) (by omega) (fun j x hj hx=>?_) (fun j x hj hx=>?_) 0 (0,[]) ⟨⟨.inl ⟨rfl,rfl⟩,Nat.le_refl _⟩,by omega⟩
 ·obtain⟨h,o⟩:=x
  obtain⟨hx,_⟩:=hx
  have hn:=p6 hj (show l.length≤4611686018427387904 by omega)
  simp only at hx
  obtain⟨t,s,e1,e2,e3,e4⟩:=Ee2 l hl j hj h o (5000*j) (by omega) hx
  obtain⟨s1,s2,s3,s4⟩:=s
  simp only at e2 e3 e4
  subst e4
  have go:Fc s1 s4 (5000*(j+1))∧j+1≤48:=⟨e3.more (by omega),by omega⟩
  rcases hx.h with⟨rfl,rfl⟩ | rfl
  ·show Nx (da9 Stp.next Stp.exit Stp.fail ⟨⟩ _) _ _
   simp only[da9,m0,m8,hn]
   rw[btD (n9 hj),e1,e2]
   rcases e3.h with⟨rfl,rfl⟩ | rfl
   ·exact .nx ⟨(0,[]),rfl,go⟩
   ·exact .nx ⟨(1,s4),rfl,go⟩
  ·show Nx (ea0 Stp.next Stp.exit Stp.fail ⟨⟩ _) _ _
   simp only[ea0,m0,m8,hn]
   rw[btD (n9 hj),e1,e2]
   rcases e3.h with⟨rfl,rfl⟩ | rfl
   ·exact .nx ⟨(0,[]),rfl,go⟩
   ·exact .nx ⟨(1,s4),rfl,go⟩
 ·obtain⟨h,o⟩:=x
  obtain⟨hx,h48⟩:=hx
  simp only at hx
  have h2:=hx.more (show 5000*j≤250000 by omega)
  rcases hx.h with⟨rfl,rfl⟩ | rfl
  ·refine⟨1,?_,rfl,h2⟩
   show da9 Stp.next Stp.exit Stp.fail ⟨⟩ _=_
   simp only[da9]
   rw[bfD (by omega)]
  ·refine⟨2,?_,rfl,h2⟩
   show ea0 Stp.next Stp.exit Stp.fail ⟨⟩ _=_
   simp only[ea0]
   rw[bfD (by omega)]
theorem Qe8 (l:List Pln) (n:Int):(two (r1L tP) r1I).rd (.tup [eL tP l,i n],[])=some (l,n):=by
 have h:(r1L tP).rd [] (eL tP l)=some l:=by
  show Bool.rec (motive:=fun _=>Option (List Pln)) none (some (rt tP l)) (Bool.and (Nat.beq tP.es tP.es) (okE tP l))=_
  rw[m0,K8,Nat.beq_refl]
  rfl
 simp only[two,h]
 rfl
theorem Jd0 (l:List V3) (hl:l.length≤48):Rd (two (r1L tP) r1I) (cb9 l) (fun r=>r.1.length≤250000):=by
 obtain⟨t,s,e1,e2,e3⟩:=Ee3 l hl
 unfold cb9
 simp only[m0,m8,K8,fe9 l (show l.length≤1000000000 by omega),q9]
 refine Rd.sl (fun _=>⟨_,([],Vb2 l),rfl,rfl,Nat.zero_le _⟩) fun _=>?_
 rw[e1,e2]
 obtain⟨s1,s2,s3,s4⟩:=s
 simp only at e3 ⊢
 rcases e3.h with⟨rfl,rfl⟩ | rfl
 ·exact⟨_,([],0),rfl,rfl,Nat.zero_le _⟩
 ·exact⟨_,(s4,0),rfl,Qe8 s4 0,e3.l⟩
theorem Ee4 (l:List V3) (hl:l.length≤48):Pa4 l=true:=(Jd0 l hl).g
theorem Ee5 (l:List V3) (hl:l.length≤48):(wb9 l).1.length≤250000:=(Jd0 l hl).p
def phV (out:List V3):Nat:=match out with
 | []=>0
 | _::_=>1
theorem Yd2 (out:List V3) (x:V3):phV (out++[x])=1:=by cases out<;>rfl
theorem Wc3 (l:List V3) (x1 x2 x3:Int):app (bL tV l) [[i x1,i x2,i x3]]=bL tV (l++[⟨x1,x2,x3⟩]):=Na3 tV l [⟨x1,x2,x3⟩]
theorem bf1 {l:List V3} {m:Nat} (h:m < l.length):(((Nat.blt (0+m) (len (bL tV l)))&&(Nat.ble (0+3) (len (f7 (bL tV l) (0+m)))))&&(K7 [(CK.int .i64),(CK.int .i64),(CK.int .i64)] (e7 (f7 (bL tV l) (0+m)) 0)))=true:=by
 rw[Nat.zero_add,Y4 tV h,P5,show Nat.blt m l.length=true from by rw[Nat.blt_eq];exact h]
 rfl
theorem bf2 {l:List V3} {m:Nat} (h:m < l.length):(((Nat.blt (0+m) (len (bL tV l)))&&(Nat.ble (2+1) (len (f7 (bL tV l) (0+m)))))&&(K7 [(CK.int .i64)] (e7 (f7 (bL tV l) (0+m)) 2)))=true:=by
 rw[Nat.zero_add,Y4 tV h,P5,show Nat.blt m l.length=true from by rw[Nat.blt_eq];exact h]
 rfl
theorem Le1 {n:Nat} {l:List V3} (hn:l.length=n) (h:n≤1000000000):(Nat.beq n (len (bL tV l))&&Nat.ble ((n+1)*24) room)=true:=by
 subst hn
 rw[P5,Nat.beq_refl,Bool.true_and,Nat.ble_eq]
 unfold room
 omega
theorem Ee6 (x : List Int) (N : Nat) (h4 : 4 ≤ N) (h8 : N ≤ 8) (j0 : Int) (hj0 : 0 ≤ j0 ∧ j0 ≤ 10) :
  ∃ idx out,lp (Ma6 ⟨(N:Int)⟩) ⟨0,0,x,j0,0,[]⟩=(2,⟨1,(N:Int),x,idx,N,bL tV out⟩)∧out.length=N:=by
 have key:=va6 (step:=Ma6 ⟨(N:Int)⟩) (mk:=fun j (a:Int×List V3)=>(⟨phV a.2,(j:Int),x,a.1,a.2.length,bL tV a.2⟩:B5)) N
  (fun j a=>a.2.length=j∧0≤a.1∧a.1≤10+4*j∧j≤N) (fun t s=>t=2∧∃ idx out,s=⟨1,(N:Int),x,idx,N,bL tV out⟩∧out.length=N) (by omega) (fun j a hj ha=>?_) (fun j a hj ha=>?_) 0 (j0,[]) ⟨rfl,hj0.1,by omega,by omega⟩
 ·obtain⟨t,s,e1,rfl,idx,out,e2,e3⟩:=key
  exact⟨idx,out,by rw[← e2];exact e1,e3⟩
 ·obtain⟨at0,out⟩:=a
  obtain⟨ho,ha1,ha2,_⟩:=ha
  simp only at ho ha1 ha2
  have hn:=p6 hj (show N≤4611686018427387904 by omega)
  obtain⟨v1,j1,d1,_,_,c1,b1⟩:=va7 17 x at0 ha1 (by omega) (by omega) (by omega)
  obtain⟨v2,j2,d2,_,_,c2,b2⟩:=va7 17 x j1 (by omega) (by omega) (by omega) (by omega)
  obtain⟨v3,j3,d3,_,_,c3,b3⟩:=va7 17 x j2 (by omega) (by omega) (by omega) (by omega)
  obtain⟨v4,j4,d4,_,_,c4,b4⟩:=va7 6 x j3 (by omega) (by omega) (by omega) (by omega)
  have leaf : ∀ (E : Nat → Prop) (x1 x2 x3 : Int), Nx (.next (⟨1, ((j + 1 : Nat) : Int), x, j4, j + 1, bL tV (out ++ [⟨x1, x2, x3⟩])⟩ : B5)) E
    (fun s=>∃ a':Int×List V3,s=⟨phV a'.2,((j+1:Nat):Int),x,a'.1,a'.2.length,bL tV a'.2⟩∧a'.2.length=j+1∧0≤a'.1∧a'.1≤10+4*((j+1:Nat):Int)∧j+1≤N):=fun E x1 x2 x3=>by
   have hl:(out++[(⟨x1,x2,x3⟩:V3)]).length=j+1:=by simp[ho]
   exact .nx ⟨(j4,out++[⟨x1,x2,x3⟩]),by simp only[Yd2,hl],hl,by show 0≤j4;omega,by show j4≤_;omega,by omega⟩
  cases out with
  | nil =>
   have hj0':j=0:=by simpa using ho.symm
   subst hj0'
   show Nx (ta1 Stp.next Stp.exit Stp.fail _ _) _ _
   simp only[ta1,m0,m8,d1,d2,d3,d4,hn]
   rw[btD (n9 hj)]
   have f1:decide (((0:Nat):Int) > 1)=false:=rfl
   have f2:decide (((0:Nat):Int) > 0)=false:=rfl
   have f3:decide (((0:Nat):Int) > 2)=false:=rfl
   have lf:∀ (E:Nat→Prop) (x1 x2 x3:Int),Nx (.next (⟨1,((0+1:Nat):Int),x,j4,1,[[i x1,i x2,i x3]]⟩:B5)) E _:=leaf
   simp only[f1,f2,f3,ab2,Nat.beq_refl,Bool.and_true,q9]
   refine Nx.sl (fun _=>?_) (fun _=>?_)<;>refine Nx.sl (fun _=>?_) (fun _=>?_)
   all_goals first
    | exact lf _ _ _ _
    | (refine Nx.sl (fun _=>?_) (fun _=>?_)<;>exact lf _ _ _ _)
  | cons o os =>
   have h1:1≤j:=by simp only[List.length_cons] at ho;omega
   generalize hO:o::os=O at *
   have hph:phV O=1:=by subst hO;rfl
   have w1:W ((j:Int) - 1)=((j - 1:Nat):Int):=by rw[Ia1 (by omega) (by omega)];omega
   have i1:inB ((j - 1:Nat):Int) j=true:=f0 (by omega)
   have r1:=bf1 (l:=O) (m:=j - 1) (by omega)
   have r1':=bf2 (l:=O) (m:=j - 1) (by omega)
   have rr:=Le1 ho (by omega)
   have f2:∀ {inst:Decidable ((j:Int) > 0)},@decide ((j:Int) > 0) inst=true:=decide_eq_true (by omega)
   show Nx (sel (Nat.beq (phV O) 1) (L9 Stp.next Stp.exit Stp.fail _ _) _) _ _
   rw[hph]
   show Nx (L9 Stp.next Stp.exit Stp.fail _ _) _ _
   by_cases h2:2≤j
   ·have w2:W ((j:Int) - 2)=((j - 2:Nat):Int):=by rw[Ia1 (by omega) (by omega)];omega
    have i2:inB ((j - 2:Nat):Int) j=true:=f0 (by omega)
    have r2:=bf1 (l:=O) (m:=j - 2) (by omega)
    simp only[L9,m0,m8,d1,d2,d3,d4,hn,ho,w1,w2,i1,i2,Int.toNat_natCast,r1,r1',r2,rr,Wc3]
    rw[btD (n9 hj)]
    simp only[Nat.beq_refl,Bool.and_true,q9]
    repeat' (first | exact leaf _ _ _ _ | refine Nx.sl (fun _=>?_) (fun _=>?_))
   ·have hj1:j=1:=by omega
    subst hj1
    simp only[L9,m0,m8,d1,d2,d3,d4,hn,ho,w1,i1,Int.toNat_natCast,r1,r1',rr,Wc3]
    have f1:decide (((1:Nat):Int) > 1)=false:=rfl
    rw[btD (n9 hj)]
    simp only[f1,ab2,Nat.beq_refl,Bool.and_true,q9]
    repeat' (first | exact leaf _ _ _ _ | refine Nx.sl (fun _=>?_) (fun _=>?_))
 ·obtain⟨at0,out⟩:=a
  obtain⟨ho,ha1,ha2,hjN⟩:=ha
  simp only at ho ha1 ha2
  have hj':j=N:=by omega
  subst hj'
  cases out with
  | nil=>simp only[List.length_nil] at ho;omega
  | cons o os =>
   refine⟨2,?_,rfl,at0,o::os,by rw[ho];rfl,ho⟩
   show L9 Stp.next Stp.exit Stp.fail _ _=_
   simp only[L9]
   rw[bfD (by omega)]
theorem re1 {l:List V3} {n:Nat} {r:List (List b7)} {P:List V3→Prop} (hn:n=l.length) (hr:r=bL tV l) (h:P l):Rd (one (r1L tV)) (some (.sl 0 0 n 0,[⟨36,3,r,true,false,0⟩])) P:=by
 subst hn hr
 refine⟨_,l,rfl,?_,h⟩
 show Bool.rec (motive:=fun _=>Option (List V3)) none (some (slR tV (bL tV l) 0 l.length)) (Bool.and true (okS tV (bL tV l) 0 l.length))=_
 rw[gc9,hc3]
 rfl
theorem md7 (x:List Int):Rd (one (r1L tV)) (Ua1 x) (fun r=>4≤r.length∧r.length≤8):=by
 obtain⟨v,j,e1,a1,b1,c1,d1⟩:=va7 5 x 0 (by omega) (by omega) (by omega) (by omega)
 have hN:W (4+v)=(((4+v).toNat:Nat):Int):=by rw[Ia1 (by omega) (by omega)];omega
 obtain⟨idx,out,e2,e3⟩:=Ee6 x (4+v).toNat (by omega) (by omega) j (by omega)
 unfold Ua1
 simp only[m0,m8,e1,hN,e2]
 have h4:4≤(4+v).toNat:=by omega
 have h8:(4+v).toNat≤8:=by omega
 generalize (4+v).toNat=N at *
 have s1:lsL tV N (fun k=>f7 (bL tV out) (0+k))=out:=by rw[← e3];exact gc9 tV out
 have s2:okL tV N (fun k=>f7 (bL tV out) (0+k))=true:=by rw[← e3];exact hc3 tV out
 have gf:Xa9 out=true:=qe7 out (by omega)
 rw[s1,s2,gf]
 simp only[Nat.beq_refl,Bool.and_true,q9,show Nat.beq 2 1=false from rfl,ab2]
 refine Rd.sl (fun _=>?_) fun _=>re1 e3.symm rfl ⟨by omega,by omega⟩
 have i0:inB 0 N=true:=f0 (j:=0) (by omega)
 have i1:inB 1 N=true:=f0 (j:=1) (by omega)
 have i2:inB 2 N=true:=f0 (j:=2) (by omega)
 have i3:inB 3 N=true:=f0 (j:=3) (by omega)
 have sp:∀ (v:V3) (x1 x2 x3:Int),N3 (tV.row v) 0 [i x1,i x2,i x3]=tV.row ⟨x1,x2,x3⟩:=fun _ _ _ _=>rfl
 have rl:∀ v:V3,Nat.ble (0+3) (len (tV.row v))=true:=fun _=>rfl
 have ck:∀ v:V3,K7 [(CK.int .i64),(CK.int .i64),(CK.int .i64)] (e7 (tV.row v) 0)=true:=fun _=>rfl
 have gr:∀ (l:List V3) (k:Nat),l.length=N→k < 4→f7 (bL tV l) k=tV.row (gL tV l k):=fun l k hl hk=>Y4 tV (by omega)
 have bl:∀ (l:List V3) (k:Nat),l.length=N→k < 4→Nat.blt k (len (bL tV l))=true:=fun l k hl hk=>by rw[P5,Nat.blt_eq];omega
 have ls:∀ (l:List V3) (k:Nat) (v:V3),l.length=N→(l.set k v).length=N:=fun l k v hl=>by rw[List.length_set];exact hl
 rw[gr out 0 e3 (by omega),gr out 1 e3 (by omega)]
 simp only[sp,Cb1]
 rw[gr _ 2 (ls out 1 _ e3) (by omega)]
 simp only[sp,Cb1]
 rw[gr _ 3 (ls _ 2 _ (ls out 1 _ e3)) (by omega)]
 simp only[sp,Cb1,rl,ck,i0,i1,i2,i3,bl out 0 e3 (by omega),bl out 1 e3 (by omega),bl _ 2 (ls out 1 _ e3) (by omega),bl _ 3 (ls _ 2 _ (ls out 1 _ e3)) (by omega),Bool.and_true,q9]
 exact re1 (by simp only[List.length_set];omega) rfl (by simp only[List.length_set];omega)
theorem re2 (x:List Int):Ua2 x=true:=(md7 x).g
theorem re3 (x:List Int):4≤(va5 x).length∧(va5 x).length≤8:=(md7 x).p
end Go.Ev.Ce
namespace Go.Ev.Ce
open Go Go.Ev Go.Ev.L Go.Proofs
theorem re4 {l:List Pln} {P:List Pln→Prop} (h:P l):Rd (one (r1L tP)) (some (eL tP l,[])) P:=⟨_,l,rfl,md0 tP l,h⟩
theorem Yd3 (x:List Int):Rd (one (r1L tP)) (qb6 x) (fun r=>r.length≤250000):=by
 obtain⟨v1,j1,e1,a1,b1,c1,d1⟩:=va7 4 x 0 (by omega) (by omega) (by omega) (by omega)
 obtain⟨w1,w2,w3,j2,e2,p1,p2,p3,c2,d2⟩:=Vc9 6 x j1 (by omega) (by omega) (by omega) (by omega)
 obtain⟨v3,j3,e3,a3,b3,c3,d3⟩:=va7 6 x j2 (by omega) (by omega) (by omega) (by omega)
 obtain⟨v4,j4,e4,a4,b4,c4,d4⟩:=va7 6 x j3 (by omega) (by omega) (by omega) (by omega)
 obtain⟨v5,j5,e5,a5,b5,c5,d5⟩:=va7 6 x j4 (by omega) (by omega) (by omega) (by omega)
 have hin:inB (if 7 < (x.length:Int) then 7 else (x.length:Int)) (x.length+1)=true:=by
  rw[Jc6]
  apply decide_eq_true
  split<;>omega
 have hok:∀ n m,okL tI n (fun k=>(fun k=>tI.row (gL tI x k)) (m+k))=true:=fun n m=>Gb9 tI (f:=fun k=>gL tI x (m+k)) fun _ _=>rfl
 unfold qb6
 simp only[m0,m8,K8,e1,e2,e3,e4,e5,Ke2,Ke3,hin,hok,nb2,De8,re2,Nat.beq_refl,Bool.and_true,q9]
 generalize hL:lsL tI _ _=L
 generalize hB:oe6 _ _=B
 have hB6:B.length=6:=by rw[← hB];rfl
 have hl6:len (bL tP B)=6:=by rw[P5,hB6]
 have ea:app [] (bL tP B)=bL tP B:=rfl
 have es:∀ q:Pln,slR tP (bL tP (B++[q])) 0 (0+6+1)=B++[q]:=fun q=>by
  have:=gc9 tP (B++[q])
  rw[List.length_append,hB6] at this
  exact this
 have eo:∀ q:Pln,okS tP (bL tP (B++[q])) 0 (0+6+1)=true:=fun q=>by
  have:=hc3 tP (B++[q])
  rw[List.length_append,hB6] at this
  exact this
 have gF:∀ q:Pln,Na7 (B++[q])=true:=fun q=>Xd4 (by rw[List.length_append,hB6];exact (by decide:6+1≤1000000000))
 have q1:Nat.ble ((0+6)*32) room=true:=fa1 (by omega)
 have q2:Nat.ble (((0+6)+1)*32) room=true:=fa1 (by omega)
 have q3:Nat.beq (0+6) 6=true:=rfl
 have hp:=re3 L
 have gf:Pa4 (va5 L)=true:=Ee4 _ (by omega)
 have pf:=Ee5 (va5 L) (by omega)
 simp only[hl6,ea,Vb7,es,eo,gF,q1,q2,q3,Bool.and_self,gf,q9,show Nat.beq 6 0=false from rfl,ab2]
 have box:Rd (one (r1L tP)) (some (eL tP B,[])) (fun r=>r.length≤250000):=re4 (by rw[hB6];omega)
 have fcs:Rd (one (r1L tP)) (some (eL tP (wb9 (va5 L)).1,[])) (fun r=>r.length≤250000):=re4 pf
 exact Rd.sl (fun _=>Rd.sl (fun _=>Ab9 (by rw[List.length_append,hB6];rfl) rfl (by rw[List.length_append,hB6];exact (by decide:6+1≤250000))) fun _=>Rd.sl (fun _=>Rd.sl (fun _=>fcs) fun _=>box) fun _=>box) fun _=>Rd.sl (fun _=>Rd.sl (fun _=>fcs) fun _=>box) fun _=>box
theorem Qe9 (x:List Int):jc8 x=true:=(Yd3 x).g
theorem re5 (x:List Int):(ja2 x).length≤250000:=(Yd3 x).p
theorem sc9 {l:List Pln} {k:Nat} (h:k < l.length):ldR tP (bL tP l) (0+k)=true:=by rw[Nat.zero_add];exact qd5 tP h
theorem ac8 {l:List Pln} {k:Nat} (h:k < l.length):rdR tP (bL tP l) (0+k)=gL tP l k:=by rw[Nat.zero_add];exact qd4 tP h
theorem re6 {α:Type} (t:Ty α) (k:Nat) (l:List α):(one (r1L t)).rd (.sl 0 0 l.length 0,[⟨k,t.es,bL t l,true,false,0⟩])=some l:=by
 show Bool.rec (motive:=fun _=>Option (List α)) none (some (slR t (bL t l) 0 l.length)) (Bool.and (Nat.beq t.es t.es) (okS t (bL t l) 0 l.length))=_
 rw[gc9,hc3,Nat.beq_refl]
 rfl
theorem Sd8 {l:List Pln} {n:Nat} {r:List (List b7)} {P:List Pln→Prop} (hn:n≤l.length) (hr:r=bL tP l) (h:P (l.take n)):Rd (one (r1L tP)) (some (.sl 0 0 n 0,[⟨50,4,r,true,false,0⟩])) P:=by
 subst hr
 have e1:slR tP (bL tP l) 0 n=l.take n:=Oc3 tP (by rw[List.length_take];omega) fun k hk=>by
  rw[Nat.zero_add,Y4 tP (by omega)]
  congr 1
  simp[gL,List.getD_eq_getElem?_getD,List.getElem?_take,hk]
 have e2:okS tP (bL tP l) 0 n=true:=Gb9 tP (f:=fun k=>gL tP l k) fun k hk=>by rw[Nat.zero_add,Y4 tP (by omega)]
 refine⟨_,l.take n,rfl,?_,h⟩
 show Bool.rec (motive:=fun _=>Option (List Pln)) none (some (slR tP (bL tP l) 0 n)) (Bool.and true (okS tP (bL tP l) 0 n))=_
 rw[e1,e2]
 rfl
theorem re7 (k:Nat) (l:List Pln) (hk:k < l.length):∃ s:ua8,lp (Ua4 ⟨(k:Int)⟩) ⟨l.length,bL tP l⟩=(1,s)∧∃ out:List Pln,s=⟨out.length,bL tP out⟩∧out.length≤l.length+49:=by
 have key:=Rb8 (step:=Ua4 ⟨(k:Int)⟩) (I:=fun m s=>∃ out:List Pln,s=⟨out.length,bL tP out⟩∧k < out.length∧(out.length≤49∨out=l)∧m=49 - out.length) (Q:=fun t s=>t=1∧∃ out:List Pln,s=⟨out.length,bL tP out⟩∧out.length≤l.length+49) (fun m s ⟨out,hs,hk,ho,hm⟩=>by
  subst hs
  simp only[Ua4,Za4,Int.toNat_natCast,sc9 hk,ac8 hk,f0 hk,q9,Vb7]
  by_cases h:(out.length:Int)≤48
  ·rw[btD h,P5,Nat.beq_refl,fa1 (by omega)]
   refine .inr ⟨_,49 - (out.length+1),by omega,rfl,out++[gL tP out k],by rw[List.length_append];rfl,by rw[List.length_append];omega,.inl (by rw[List.length_append];simp only[List.length_singleton];omega),by rw[List.length_append];rfl⟩
  ·rw[bfD h]
   exact .inl ⟨1,rfl,rfl,out,rfl,by rcases ho with ho | rfl<;>omega⟩) (49 - l.length) ⟨l.length,bL tP l⟩ (by omega) ⟨l,rfl,hk,.inr rfl,rfl⟩
 exact⟨_,Prod.ext key.1 rfl,key.2⟩
theorem Re0 (p:Pln) (v:V3):Rd (one r1P) (Db9 p v) (fun _=>True):=by
 have h1:=Int.emod_nonneg v.z (show (9:Int)≠0 by omega)
 have h2:=Int.emod_lt_of_pos v.z (show (0:Int) < 9 by omega)
 unfold Db9
 simp only[Vc8 _ (show (0:Int) < 9 by omega) (by omega),Vc8 _ (show (0:Int) < 5 by omega) (by omega),Xd7 _ (show (0:Int) < 9 by omega) (by omega),Xd7 _ (show (0:Int) < 5 by omega) (by omega)]
 have hin:inB (v.z % 9) 9=true:=by rw[Jc6];exact decide_eq_true (by omega)
 have hck:∀ (x1 x2 x3 x4 x5 x6 x7 x8 x9:Int) (k:Nat),k < 9→((Nat.ble 1 (len (f7 [[(i x1)],[(i x2)],[(i x3)],[(i x4)],[(i x5)],[(i x6)],[(i x7)],[(i x8)],[(i x9)]] (0+k))))&&(K7 [(CK.int .i64)] (f7 [[(i x1)],[(i x2)],[(i x3)],[(i x4)],[(i x5)],[(i x6)],[(i x7)],[(i x8)],[(i x9)]] (0+k))))=true:=by
  intro x1 x2 x3 x4 x5 x6 x7 x8 x9 k hk
  match k,hk with
  | 0,_=>rfl
  | 1,_=>rfl
  | 2,_=>rfl
  | 3,_=>rfl
  | 4,_=>rfl
  | 5,_=>rfl
  | 6,_=>rfl
  | 7,_=>rfl
  | 8,_=>rfl
 rw[hin,hck _ _ _ _ _ _ _ _ _ _ (by omega)]
 simp only[q9]
 exact Rd.sl (fun _=>⟨_,_,rfl,rfl,trivial⟩) fun _=>Rd.sl (fun _=>⟨_,_,rfl,rfl,trivial⟩) fun _=>Rd.sl (fun _=>⟨_,_,rfl,rfl,trivial⟩) fun _=>Rd.sl (fun _=>⟨_,_,rfl,rfl,trivial⟩) fun _=>Rd.sl (fun _=>⟨_,_,rfl,rfl,trivial⟩) fun _=>⟨_,_,rfl,rfl,trivial⟩
theorem Re1 (p:Pln) (v:V3):zc6 p v=true:=(Re0 p v).g
theorem re8 (x:List Pln) (y:V3) (hx:x.length≤1000000):Rd (one (r1L tP)) (Eb2 x y) (fun r=>r.length≤x.length+50):=by
 have ea:app [] (bL tP x)=bL tP x:=rfl
 have one0:Rd (one (r1L tP)) (some (.sl 0 0 1 0,[⟨50,4,[[(i 0),(i 0),(i 0),(i 0)]],true,false,0⟩])) (fun r=>r.length≤x.length+50):=Ab9 (l:=[⟨⟨0,0,0⟩,0⟩]) rfl rfl (by simp only[List.length_singleton];omega)
 unfold Eb2
 simp only[nb2,ea,P5,Nat.zero_add]
 by_cases h0:x.length=0
 ·rw[show Nat.beq x.length 0=true from by rw[h0];rfl]
  exact one0
 ·have z0 : Nat.beq x.length 0 = false := by
   cases h:Nat.beq x.length 0 with
   | false=>rfl
   | true=>exact absurd (Nat.eq_of_beq_eq_true h) h0
  have zi:((x.length:Int)==0)=false:=by rw[beq_eq_false_iff_ne];omega
  have hk1:=Int.emod_nonneg y.y (show (x.length:Int)≠0 by omega)
  have hk2:=Int.emod_lt_of_pos y.y (show (0:Int) < (x.length:Int) by omega)
  rw[z0,zi,Xd7 y.y (show (0:Int) < (x.length:Int) by omega) (by omega),Vc8 y.y (show (0:Int) < (x.length:Int) by omega) (by omega),Vc8 y.x (show (0:Int) < 6 by omega) (by omega),Vc8 y.z (show (0:Int) < 9 by omega) (by omega)]
  obtain⟨k,hk⟩:=Int.eq_ofNat_of_zero_le hk1
  rw[hk] at hk2 ⊢
  have hkx:k < x.length:=by omega
  have i1:inB (k:Int) x.length=true:=f0 hkx
  have i2:inB (k:Int) (x.length+1)=true:=f0 (by omega)
  have w1:W ((k:Int)+1)=((k+1:Nat):Int):=p6 hkx (by omega)
  have i3:inB ((k+1:Nat):Int) (x.length+1)=true:=f0 (by omega)
  have hrow:f7 (bL tP x) k=tP.row (gL tP x k):=Y4 tP hkx
  have hb:Nat.blt k x.length=true:=by rw[Nat.blt_eq];exact hkx
  have hld:ldR tP (bL tP x) k=true:=qd5 tP hkx
  have hrd:rdR tP (bL tP x) k=gL tP x k:=qd4 tP hkx
  have sp:∀ (v:Pln) (x1 x2 x3 x4:Int),N3 (tP.row v) 0 [i x1,i x2,i x3,i x4]=tP.row ⟨⟨x1,x2,x3⟩,x4⟩:=fun _ _ _ _ _=>rfl
  have sp3:∀ (v:Pln) (x4:Int),N3 (tP.row v) 3 [i x4]=tP.row ⟨v.n,x4⟩:=fun _ _=>rfl
  have rl:∀ v:Pln,Nat.ble 4 (len (tP.row v))=true:=fun _=>rfl
  have rl3:∀ v:Pln,Nat.ble (3+1) (len (tP.row v))=true:=fun _=>rfl
  have ck3:∀ v:Pln,K7 [(CK.int .i64)] (e7 (tP.row v) 3)=true:=fun _=>rfl
  have b0:Nat.ble (x.length*32) room=true:=fa1 (by omega)
  have b1:Nat.ble ((x.length+1)*32) room=true:=fa1 (by omega)
  obtain⟨s,l1,out,l2,l3⟩:=re7 k x hkx
  have cutL:F7 (e7 (bL tP x) (k+1)) (x.length - (k+1))=bL tP (x.drop (k+1)):=by
   have hl:(bL tP x).length=x.length:=by rw[← l9,P5]
   rw[F8,F9,List.take_of_length_le (by rw[List.length_drop,hl];omega)]
   unfold bL
   rw[n8,n8,List.map_drop]
  have cutT:F7 (bL tP x) (k - 0)=bL tP (x.take k):=by
   unfold bL
   rw[F8,n8,n8,List.map_take,Nat.sub_zero]
  have cutD:∀ n,e7 (bL tP x) n=bL tP (x.drop n):=fun n=>by
   unfold bL
   rw[F9,n8,n8,List.map_drop]
  simp only[Int.toNat_natCast,i1,i2,w1,i3,hrow,hb,hld,hrd,sp,sp3,rl,rl3,ck3,b0,b1,Nat.beq_refl,Bool.and_self,Bool.and_true,q9,ab2,Re1,Cb1,Vb7,l1,l2,cutL]
  refine Rd.sl (fun _=>Ab9 (by rw[List.length_set]) rfl (by rw[List.length_set];omega)) fun _=>Rd.sl (fun _=>?_) fun _=>Rd.sl (fun _=>Ab9 (by rw[List.length_set]) rfl (by rw[List.length_set];omega)) fun _ =>
   Rd.sl (fun _=>Ab9 (by rw[List.length_append];rfl) rfl (by rw[List.length_append];simp only[List.length_singleton];omega)) fun _=>Rd.sl (fun _=>Ab9 (by rw[List.length_set]) rfl (by rw[List.length_set];omega)) fun _ =>
   Rd.sl (fun _=>Ab9 rfl rfl (by omega)) fun _=>Ab9 rfl rfl (by omega)
  rw[cutT,cutD,P5,Na3,Na3,List.length_drop,bt (by rw[Nat.ble_eq];omega)]
  refine Sd8 ?_ rfl ?_
  ·simp only[List.length_append,List.length_take,List.length_drop];omega
  ·rw[List.length_take];simp only[List.length_append,List.length_take,List.length_drop];omega
theorem Le2 (x:List Pln) (y:V3) (hx:x.length≤1000000):Eb3 x y=true:=(re8 x y hx).g
theorem re9 (x:List Pln) (y:V3) (hx:x.length≤1000000):(Ga7 x y).length≤x.length+50:=(re8 x y hx).p
theorem se0 (x:List Pln):Rd (one (r1L tP)) (db0 x) (fun r=>r.length≤8):=by
 have hin:inB (if 8 < (x.length:Int) then 8 else (x.length:Int)) (x.length+1)=true:=by
  rw[Jc6]
  apply decide_eq_true
  split<;>omega
 unfold db0
 rw[hin,q9]
 refine⟨_,lsL tP ((if 8 < (x.length:Int) then 8 else (x.length:Int)).toNat - 0) (fun k=>(fun k=>tP.row (gL tP x k)) (0+k)),rfl,?_,by show (lsL tP _ _).length≤8;rw[qd3];split<;>omega⟩
 show Bool.rec (motive:=fun _=>Option (List Pln)) none (some _) (Bool.and (Nat.beq 4 4) (okL tP _ _))=_
 rw[Gb9 tP (f:=fun k=>gL tP x (0+k)) fun _ _=>rfl]
 rfl
theorem bf3 (x:List Pln):Vb5 x=true:=(se0 x).g
theorem bf4 (x:List Pln):(xb0 x).length≤8:=(se0 x).p
noncomputable def Vb8 (x:List Int) (y:Q2) (z:List Pln):List (List Pln):=[ja2 x,Ga7 (ja2 x) y.a,Ga7 (Ga7 (ja2 x) y.a) y.b,xb0 z]
theorem Jd1 (x:List Int) (y:Q2) (z:List Pln):Rd (one (r1L (tLs tP))) (Ka9 x y z) (fun r=>r=Vb8 x y z):=by
 have h1:=re5 x
 have h2:=re9 (ja2 x) y.a (by omega)
 unfold Ka9
 simp only[m0,K8,Qe9,Le2 (ja2 x) y.a (by omega),Le2 (Ga7 (ja2 x) y.a) y.b (by omega),bf3,q9]
 exact⟨_,Vb8 x y z,rfl,re6 (tLs tP) 25 (Vb8 x y z),rfl⟩
theorem Ee7 (x:List Int) (y:Q2) (z:List Pln):Ab8 x y z=true:=(Jd1 x y z).g
theorem Ee8 (x:List Int) (y:Q2) (z:List Pln):Ab7 x y z=Vb8 x y z:=(Jd1 x y z).p
theorem ge0 (x:List Int) (y:Q2) (z:List Pln):∀ c∈Vb8 x y z,c.length≤1000000:=by
 have h1:=re5 x
 have h2:=re9 (ja2 x) y.a (by omega)
 have h3:=re9 (Ga7 (ja2 x) y.a) y.b (by omega)
 have h4:=bf4 z
 intro c hc
 simp only[Vb8,List.mem_cons,List.not_mem_nil,or_false] at hc
 rcases hc with rfl | rfl | rfl | rfl<;>omega
end Go.Ev.Ce
section
namespace Go.Ev.Ce
open Go Go.Ev Go.Ev.L Go.Proofs
set_option maxRecDepth 100000
structure Za5 where
 oa6:Int
 oa7:Int
 oa8:Int
 sb6:Int
 g8:List Pt
noncomputable def Vb9:List (Nat×Sum):=[(102,wb7)]
theorem Ic0:i6 prog G Vb9:=⟨Ib4,trivial⟩
structure xa7 where
 ae3:List Pt
 is8:Int
 g8:List Pt
 l5:Int
 l6:Int
 l7:Int
 K6:Int
structure P0 where
 is4:Int
 is9:Int
noncomputable def zc9 (p:xa7) (s:P0):St:=⟨(.unk::(.unk::((.ptr 1 0 0 0)::(.unk::((i s.is4)::(.unk::(.unk::((eL tX p.ae3)::((i p.is8)::((i s.is9)::(ra 12 []))))))))))),[⟨0,1,[[(eL tX p.g8)]],true,false,0⟩,⟨0,4,[[(i p.l5),(i p.l6),(i p.l7),(i p.K6)]],true,false,0⟩]⟩
noncomputable def oa0 {α:Type} (k:P0→α) (e:Nat→α) (z:α) (p:xa7) (s:P0):α:=let t1:=(ua6 (⟨(⟨p.l5,p.l6,p.l7⟩:V3),p.K6⟩:Pln) (gL tX p.ae3 s.is9.toNat));(sl (decide (s.is9 < p.is8)) (sl (inB s.is9 (List.length p.ae3)) (sl (t1==0) (k ⟨(W (s.is4+1)),(W (s.is9+1))⟩) (k ⟨s.is4,(W (s.is9+1))⟩)) z) (e 1))
noncomputable def ta5 (p:xa7) (s:P0):Stp P0:=oa0 .next .exit .fail p s
noncomputable def gb2:Lo xa7 P0:=⟨En Vb9,1,He8,[1,1,0,1,4,4],[2,4,7,8,9],.p,[⟨((.s (.o .unk))::((.s (.o .unk))::((.s (.o (.ptr 1 0 0 0)))::((.s (.o .unk))::((.s (.o (.int .i64)))::((.s (.o .unk))::((.s (.o .unk))::((.s (.c 4 (nL tX)))::((.s (.o (.int .i64)))::((.s (.o (.int .i64)))::(ru2 12 []))))))))))),[⟨0,1,true,(some [[(.c 4 (nL tX))]])⟩,⟨0,4,true,(some [[(.o (.int .i64)),(.o (.int .i64)),(.o (.int .i64)),(.o (.int .i64))]])⟩],fun a H=>(⟨(rL tX (slT a 7)),(toI (slT a 8)),(rL tX (slT (rwT (elT H 0) 0) 0)),(toI (slT (rwT (elT H 1) 0) 0)),(toI (slT (rwT (elT H 1) 0) 1)),(toI (slT (rwT (elT H 1) 0) 2)),(toI (slT (rwT (elT H 1) 0) 3))⟩,⟨(toI (slT a 4)),(toI (slT a 9))⟩)⟩],ta5,[(some 0,fun p s=>⟨(.unk::(.unk::((.ptr 1 0 0 0)::(.unk::((i s.is4)::(.unk::(.unk::((eL tX p.ae3)::((i p.is8)::((i s.is9)::((b (decide (s.is9 < p.is8)))::(ra 11 [])))))))))))),[⟨0,1,[[(eL tX p.g8)]],true,false,0⟩,⟨0,4,[[(i p.l5),(i p.l6),(i p.l7),(i p.K6)]],true,false,0⟩]⟩)],zc9⟩
theorem Ac0:gb2.Ok:=Lo.ok [] (by kernel_rfl) .nil rfl (.cons (fun a H=>by kernel_rfl) .nil) fun p s=>(.of @oa0 (fun F _ _ _ _ _=>by unfold oa0;(repeat' apply k9 (f:=F))<;>rfl) (by kernel_rfl))
structure za5 where
 alt:Nat
 bs0:Bool
 g8:List Pt
noncomputable def za6 {α:Type} (kk:za5→α) (x:Za5):α:=let t1:=(lp (ta5 (⟨(rt tX x.g8),(↑(List.length x.g8):Int),(rt tX x.g8),x.oa6,x.oa7,x.oa8,x.sb6⟩:xa7)) (⟨0,0⟩:P0));(sl ((cnE tX x.g8)&&((cnE tX x.g8)&&true)) (sl (Nat.beq t1.1 1) (kk ⟨1,(decide (t1.2.is4 < 3)),(rt tX x.g8)⟩) (kk ⟨0,false,[]⟩)) (kk ⟨0,false,[]⟩))
noncomputable def pa9 (x:Za5):za5:=za6 (fun r=>r) x
noncomputable def rb0 (x:Za5) (r:za5):DT (b7×List b8):=(.ite (Nat.beq r.alt 1) (.ret ((b r.bs0),[⟨0,1,[[(eL tX r.g8)]],true,false,0⟩])) .fail)
theorem fd1 {α β:Type} (F:α→β) (kk:za5→α) (x:Za5):F (za6 kk x)=za6 (fun r=>F (kk r)) x:=by unfold za6;(repeat' apply k9 (f:=F))<;>rfl
noncomputable def Bb0:Sum:=Qa9 ⟨[(.agg [(.o (.int .i64)),(.o (.int .i64)),(.o (.int .i64)),(.o (.int .i64))]),(.s (.o (.ptr 0 0 0 0)))],[⟨0,1,true,(some [[(.c 4 (nL tX))]])⟩],fun a H=>(⟨(toI (slT (cellsOf (slT a 0)) 0)),(toI (slT (cellsOf (slT a 0)) 1)),(toI (slT (cellsOf (slT a 0)) 2)),(toI (slT (cellsOf (slT a 0)) 3)),(rL tX (slT (rwT (elT H 0) 0) 0))⟩,())⟩ (fun x=>rb0 x (pa9 x))
theorem Wb0:g9 prog G 101 Bb0:=K4 (enc:=fun x=>⟨[(.agg [(i x.oa6),(i x.oa7),(i x.oa8),(i x.sb6)]),(.ptr 0 0 0 0)],[⟨0,1,[[(eL tX x.g8)]],true,false,0⟩]⟩) (fun a H=>by kernel_rfl) (bd gf8 Ic0) fun x=>ua4 (.s .p (.s .p (.s (.s .p (.b (.u gb2.ls))) .p))) [gb2.pr] (by kernel_rfl) (.cons Ac0 .nil) (Eq.trans (b:=za6 (fun r=>(rb0 x r).run) x) (by kernel_rfl) (fd1 (fun r=>(rb0 x r).run) (fun r=>r) x).symm)
structure W5 where
 ns0:Nat
 eh0:List (List b7)
 v7:List Pt
noncomputable def Ea3:List (Nat×Sum):=[(101,Bb0)]
theorem kb2:i6 prog G Ea3:=⟨Wb0,trivial⟩
structure J2 where
 ns0:Nat
 is7:Int
 eh0:List (List b7)
structure o8 where
 is8:Int
 v7:List Pt
noncomputable def gb3 (p:J2) (s:o8):St:=⟨((.sl 0 0 p.ns0 0)::((.fn 101 [(.ptr 1 0 0 0)])::(ra 5 ((i p.is7)::((i s.is8)::(ra 10 [])))))),[⟨50,4,p.eh0,true,false,0⟩,⟨0,1,[[(eL tX s.v7)]],true,false,0⟩]⟩
noncomputable def D7 {α:Type} (k:o8→α) (e:Nat→α) (z:α) (p:J2) (s:o8):α:=let t1:=(pa9 ⟨(rdR tP p.eh0 (0+s.is8.toNat)).n.x,(rdR tP p.eh0 (0+s.is8.toNat)).n.y,(rdR tP p.eh0 (0+s.is8.toNat)).n.z,(rdR tP p.eh0 (0+s.is8.toNat)).b,(rt tX s.v7)⟩);(sl (decide (s.is8 < p.is7)) (sl (inB s.is8 p.ns0) (sl (ldR tP p.eh0 (0+s.is8.toNat)) (sl ((cnE tX s.v7)&&true) (sl (Nat.beq t1.alt 1) (sl t1.bs0 (e 1) (k ⟨(W (s.is8+1)),t1.g8⟩)) z) z) z) z) (e 2))
noncomputable def G6 (p:J2) (s:o8):Stp o8:=D7 .next .exit .fail p s
noncomputable def ga5:Lo J2 o8:=⟨En Ea3,2,Ed4,[1,0,1,4,4],[0,1,7,8],.p,[⟨((.s (.o (.sl 0 0 (some 0) none)))::((.fn 101 [(.o (.ptr 1 0 0 0))])::(ru2 5 ((.s (.o (.int .i64)))::((.s (.o (.int .i64)))::(ru2 10 [])))))),[⟨50,4,true,none⟩,⟨0,1,true,(some [[(.c 4 (nL tX))]])⟩],fun a H=>(⟨(slN (slT a 0)),(toI (slT a 7)),(elT H 0)⟩,⟨(toI (slT a 8)),(rL tX (slT (rwT (elT H 1) 0) 0))⟩)⟩],G6,[(none,fun p s=>let t1:=(pa9 ⟨(rdR tP p.eh0 (0+s.is8.toNat)).n.x,(rdR tP p.eh0 (0+s.is8.toNat)).n.y,(rdR tP p.eh0 (0+s.is8.toNat)).n.z,(rdR tP p.eh0 (0+s.is8.toNat)).b,(rt tX s.v7)⟩);⟨[(i s.is8)],[⟨50,4,p.eh0,true,false,0⟩,⟨0,1,[[(eL tX t1.g8)]],true,false,0⟩]⟩),(some 0,fun p s=>⟨((.sl 0 0 p.ns0 0)::((.fn 101 [(.ptr 1 0 0 0)])::(ra 5 ((i p.is7)::((i s.is8)::((b (decide (s.is8 < p.is7)))::(ra 9 []))))))),[⟨50,4,p.eh0,true,false,0⟩,⟨0,1,[[(eL tX s.v7)]],true,false,0⟩]⟩)],gb3⟩
theorem gb4:ga5.Ok:=Lo.ok [] (by kernel_rfl) .nil rfl (.cons (fun a H=>by kernel_rfl) .nil) fun p s=>(.of @D7 (fun F _ _ _ _ _=>by unfold D7;(repeat' apply k9 (f:=F))<;>rfl) (by kernel_rfl))
structure W6 where
 alt:Nat
 is0:Int
 v7:List Pt
noncomputable def E4 {α:Type} (kk:W6→α) (x:W5):α:=let t1:=(lp (G6 (⟨x.ns0,(↑x.ns0:Int),x.eh0⟩:J2)) (⟨0,(rt tX x.v7)⟩:o8));let t2:=(pa9 ⟨(rdR tP x.eh0 (0+t1.2.is8.toNat)).n.x,(rdR tP x.eh0 (0+t1.2.is8.toNat)).n.y,(rdR tP x.eh0 (0+t1.2.is8.toNat)).n.z,(rdR tP x.eh0 (0+t1.2.is8.toNat)).b,(rt tX t1.2.v7)⟩);(sl ((cnE tX x.v7)&&true) (sl (Nat.beq t1.1 1) (kk ⟨1,t1.2.is8,t2.g8⟩) (sl (Nat.beq t1.1 2) (kk ⟨1,(-1),t1.2.v7⟩) (kk ⟨0,0,[]⟩))) (kk ⟨0,0,[]⟩))
noncomputable def W7 (x:W5):W6:=E4 (fun r=>r) x
noncomputable def ja4 (x:W5) (r:W6):DT (b7×List b8):=(.ite (Nat.beq r.alt 1) (.ret ((i r.is0),[⟨50,4,x.eh0,true,false,0⟩,⟨0,1,[[(eL tX r.v7)]],true,false,0⟩])) .fail)
theorem ub2 {α β:Type} (F:α→β) (kk:W6→α) (x:W5):F (E4 kk x)=E4 (fun r=>F (kk r)) x:=by unfold E4;(repeat' apply k9 (f:=F))<;>rfl
noncomputable def Ha5:Sum:=Qa9 ⟨[(.s (.o (.sl 0 0 (some 0) none))),(.fn 101 [(.o (.ptr 1 0 0 0))])],[⟨50,4,true,none⟩,⟨0,1,true,(some [[(.c 4 (nL tX))]])⟩],fun a H=>(⟨(slN (slT a 0)),(elT H 0),(rL tX (slT (rwT (elT H 1) 0) 0))⟩,())⟩ (fun x=>ja4 x (W7 x))
theorem rb1:g9 prog G 163 Ha5:=K4 (enc:=fun x=>⟨[(.sl 0 0 x.ns0 0),(.fn 101 [(.ptr 1 0 0 0)])],[⟨50,4,x.eh0,true,false,0⟩,⟨0,1,[[(eL tX x.v7)]],true,false,0⟩]⟩) (fun a H=>by kernel_rfl) (bd Be0 kb2) fun x=>ua4 (.s .p (.s (.s .p (.b (.u ga5.ls))) .p)) [ga5.pr] (by kernel_rfl) (.cons gb4 .nil) (Eq.trans (b:=E4 (fun r=>(ja4 x r).run) x) (by kernel_rfl) (ub2 (fun r=>(ja4 x r).run) (fun r=>r) x).symm)
structure W8 where
 ns0:Nat
 eh0:List (List b7)
 v7:List Pt
noncomputable def Ea4:List (Nat×Sum):=[(163,Ha5),(101,Bb0)]
theorem kb3:i6 prog G Ea4:=⟨rb1,Wb0,trivial⟩
structure J3 where
 ns0:Nat
structure r5 where
 is5:Int
 is6:Int
 eh0:List (List b7)
 v7:List Pt
noncomputable def gb5 (p:J3) (s:r5):St:=⟨((.sl 0 0 p.ns0 0)::((.fn 101 [(.ptr 1 0 0 0)])::(ra 3 ((i s.is5)::((i s.is6)::(ra 35 [])))))),[⟨50,4,s.eh0,true,false,0⟩,⟨0,1,[[(eL tX s.v7)]],true,false,0⟩]⟩
noncomputable def D8 {α:Type} (k:r5→α) (e:Nat→α) (z:α) (p:J3) (s:r5):α:=let t1:=(pa9 ⟨(rdR tP s.eh0 (0+s.is6.toNat)).n.x,(rdR tP s.eh0 (0+s.is6.toNat)).n.y,(rdR tP s.eh0 (0+s.is6.toNat)).n.z,(rdR tP s.eh0 (0+s.is6.toNat)).b,(rt tX s.v7)⟩);(sl (decide (s.is6 < (↑p.ns0:Int))) (sl (inB s.is6 p.ns0) (sl (ldR tP s.eh0 (0+s.is6.toNat)) (sl ((cnE tX s.v7)&&true) (sl (Nat.beq t1.alt 1) (sl (!t1.bs0) (sl (inB s.is5 p.ns0) (sl ((Nat.blt (0+s.is5.toNat) (len s.eh0))&&(Nat.ble (0+4) (len (f7 s.eh0 (0+s.is5.toNat))))) (k ⟨(W (s.is5+1)),(W (s.is6+1)),(setAt s.eh0 (0+s.is5.toNat) (N3 (f7 s.eh0 (0+s.is5.toNat)) 0 [(i (rdR tP s.eh0 (0+s.is6.toNat)).n.x),(i (rdR tP s.eh0 (0+s.is6.toNat)).n.y),(i (rdR tP s.eh0 (0+s.is6.toNat)).n.z),(i (rdR tP s.eh0 (0+s.is6.toNat)).b)])),t1.g8⟩) z) z) (k ⟨s.is5,(W (s.is6+1)),s.eh0,t1.g8⟩)) z) z) z) z) (e 1))
noncomputable def B1 (p:J3) (s:r5):Stp r5:=D8 .next .exit .fail p s
noncomputable def ga6:Lo J3 r5:=⟨En Ea4,2,We4,[1,1,1,0,1,4,4],[0,1,5,6],.p,[⟨((.s (.o (.sl 0 0 (some 0) none)))::((.fn 101 [(.o (.ptr 1 0 0 0))])::(ru2 3 ((.s (.o (.int .i64)))::((.s (.o (.int .i64)))::(ru2 35 [])))))),[⟨50,4,true,none⟩,⟨0,1,true,(some [[(.c 4 (nL tX))]])⟩],fun a H=>(⟨(slN (slT a 0))⟩,⟨(toI (slT a 5)),(toI (slT a 6)),(elT H 0),(rL tX (slT (rwT (elT H 1) 0) 0))⟩)⟩],B1,[(some 0,fun p s=>⟨((.sl 0 0 p.ns0 0)::((.fn 101 [(.ptr 1 0 0 0)])::(ra 3 ((i s.is5)::((i s.is6)::(ra 9 ((i s.is6)::((.sl 0 0 p.ns0 0)::((i (↑p.ns0:Int))::((b (decide (s.is6 < (↑p.ns0:Int))))::(ra 22 []))))))))))),[⟨50,4,s.eh0,true,false,0⟩,⟨0,1,[[(eL tX s.v7)]],true,false,0⟩]⟩)],gb5⟩
theorem gb6:ga6.Ok:=Lo.ok [] (by kernel_rfl) .nil rfl (.cons (fun a H=>by kernel_rfl) .nil) fun p s=>(.of @D8 (fun F _ _ _ _ _=>by unfold D8;(repeat' apply k9 (f:=F))<;>rfl) (by kernel_rfl))
structure W9 where
 alt:Nat
 ns0:Nat
 eh0:List (List b7)
 v7:List Pt
noncomputable def E5 {α:Type} (kk:W9→α) (x:W8):α:=let t1:=(W7 ⟨x.ns0,x.eh0,(rt tX x.v7)⟩);let t2:=(lp (B1 (⟨x.ns0⟩:J3)) (⟨t1.is0,(W (t1.is0+1)),x.eh0,(rt tX t1.v7)⟩:r5));(sl ((cnE tX x.v7)&&true) (sl (Nat.beq t1.alt 1) (sl (t1.is0==(-1)) (kk ⟨1,x.ns0,x.eh0,t1.v7⟩) (sl ((cnE tX t1.v7)&&true) (sl (Nat.beq t2.1 1) (sl (inB t2.2.is5 (x.ns0+1)) (sl (inB t2.2.is5 (x.ns0+1)) (kk ⟨1,(t2.2.is5.toNat - 0),(app (F7 t2.2.eh0 (0+t2.2.is5.toNat)) (app (List.replicate (x.ns0 - t2.2.is5.toNat) [(i 0),(i 0),(i 0),(i 0)]) (e7 t2.2.eh0 ((0+t2.2.is5.toNat)+(x.ns0 - t2.2.is5.toNat))))),t2.2.v7⟩) (kk ⟨0,0,[],[]⟩)) (kk ⟨0,0,[],[]⟩)) (kk ⟨0,0,[],[]⟩)) (kk ⟨0,0,[],[]⟩))) (kk ⟨0,0,[],[]⟩)) (kk ⟨0,0,[],[]⟩))
noncomputable def E6 (x:W8):W9:=E5 (fun r=>r) x
noncomputable def ja5 (x:W8) (r:W9):DT (b7×List b8):=(.ite (Nat.beq r.alt 1) (.ret ((.sl 0 0 r.ns0 0),[⟨50,4,r.eh0,true,false,0⟩,⟨0,1,[[(eL tX r.v7)]],true,false,0⟩])) .fail)
theorem ub3 {α β:Type} (F:α→β) (kk:W9→α) (x:W8):F (E5 kk x)=E5 (fun r=>F (kk r)) x:=by unfold E5;(repeat' apply k9 (f:=F))<;>rfl
noncomputable def la5:Sum:=Qa9 ⟨[(.s (.o (.sl 0 0 (some 0) none))),(.fn 101 [(.o (.ptr 1 0 0 0))])],[⟨50,4,true,none⟩,⟨0,1,true,(some [[(.c 4 (nL tX))]])⟩],fun a H=>(⟨(slN (slT a 0)),(elT H 0),(rL tX (slT (rwT (elT H 1) 0) 0))⟩,())⟩ (fun x=>ja5 x (E6 x))
theorem Ea5:g9 prog G 99 la5:=K4 (enc:=fun x=>⟨[(.sl 0 0 x.ns0 0),(.fn 101 [(.ptr 1 0 0 0)])],[⟨50,4,x.eh0,true,false,0⟩,⟨0,1,[[(eL tX x.v7)]],true,false,0⟩]⟩) (fun a H=>by kernel_rfl) (bd b99 kb3) fun x=>ua4 (.s .p (.s .p (.s .p (.s (.s .p (.b (.u ga6.ls))) .p)))) [ga6.pr] (by kernel_rfl) (.cons gb6 .nil) (Eq.trans (b:=E5 (fun r=>(ja5 x r).run) x) (by kernel_rfl) (ub3 (fun r=>(ja5 x r).run) (fun r=>r) x).symm)
structure ga7 where
 ns0:Nat
 eh0:List (List b7)
noncomputable def ta6:List (Nat×Sum):=[]
theorem Bb1:i6 prog G ta6:=trivial
structure B8 where
 ns0:Nat
 os4:Nat
 ns4:Nat
structure p5 where
 is3:Int
 is5:Int
 eh0:List (List b7)
noncomputable def ub4 (p:B8) (s:p5):St:=⟨((.sl 0 0 p.ns0 0)::(.unk::(.unk::((i s.is3)::((.sl 0 p.os4 p.ns4 0)::((i s.is5)::(ra 55 []))))))),[⟨50,4,s.eh0,true,false,0⟩]⟩
noncomputable def L0 {α:Type} (k:p5→α) (e:Nat→α) (z:α) (p:B8) (s:p5):α:=(sl (decide (s.is5 < (↑p.ns4:Int))) (sl (inB s.is5 p.ns4) (sl (ldR tP s.eh0 (p.os4+s.is5.toNat)) (sl (inB (W (s.is5 - 1)) p.ns4) (sl (ldR tP s.eh0 (p.os4+(W (s.is5 - 1)).toNat)) (sl (!(((rdR tP s.eh0 (p.os4+s.is5.toNat)).n.x==(rdR tP s.eh0 (p.os4+(W (s.is5 - 1)).toNat)).n.x)&&(((rdR tP s.eh0 (p.os4+s.is5.toNat)).n.y==(rdR tP s.eh0 (p.os4+(W (s.is5 - 1)).toNat)).n.y)&&(((rdR tP s.eh0 (p.os4+s.is5.toNat)).n.z==(rdR tP s.eh0 (p.os4+(W (s.is5 - 1)).toNat)).n.z)&&(((rdR tP s.eh0 (p.os4+s.is5.toNat)).b==(rdR tP s.eh0 (p.os4+(W (s.is5 - 1)).toNat)).b)&&true))))) (sl (inB s.is5 p.ns4) (sl (ldR tP s.eh0 (p.os4+s.is5.toNat)) (sl (inB s.is3 p.ns0) (sl ((Nat.blt (0+s.is3.toNat) (len s.eh0))&&(Nat.ble (0+4) (len (f7 s.eh0 (0+s.is3.toNat))))) (k ⟨(W (s.is3+1)),(W (s.is5+1)),(setAt s.eh0 (0+s.is3.toNat) (N3 (f7 s.eh0 (0+s.is3.toNat)) 0 [(i (rdR tP s.eh0 (p.os4+s.is5.toNat)).n.x),(i (rdR tP s.eh0 (p.os4+s.is5.toNat)).n.y),(i (rdR tP s.eh0 (p.os4+s.is5.toNat)).n.z),(i (rdR tP s.eh0 (p.os4+s.is5.toNat)).b)]))⟩) z) z) z) z) (k ⟨s.is3,(W (s.is5+1)),s.eh0⟩)) z) z) z) z) (e 1))
noncomputable def r4 (p:B8) (s:p5):Stp p5:=L0 .next .exit .fail p s
noncomputable def qa0:Lo B8 p5:=⟨En ta6,1,ne4,[1,1,0,1,4,4,1,0,4,1,2,1,0,1,4,4],[0,3,4,5],.p,[⟨((.s (.o (.sl 0 0 (some 0) none)))::((.s (.o .unk))::((.s (.o .unk))::((.s (.o (.int .i64)))::((.s (.o (.sl 0 0 none none)))::((.s (.o (.int .i64)))::(ru2 55 []))))))),[⟨50,4,true,none⟩],fun a H=>(⟨(slN (slT a 0)),(slO (slT a 4)),(slN (slT a 4))⟩,⟨(toI (slT a 3)),(toI (slT a 5)),(elT H 0)⟩)⟩],r4,[(some 2,fun p s=>⟨((.sl 0 0 p.ns0 0)::(.unk::(.unk::((i s.is3)::((.sl 0 p.os4 p.ns4 0)::((i s.is5)::(ra 23 ((i s.is5)::((.sl 0 p.os4 p.ns4 0)::((i (↑p.ns4:Int))::((b (decide (s.is5 < (↑p.ns4:Int))))::(ra 28 [])))))))))))),[⟨50,4,s.eh0,true,false,0⟩]⟩)],ub4⟩
theorem ub5:qa0.Ok:=Lo.ok [] (by kernel_rfl) .nil rfl (.cons (fun a H=>by kernel_rfl) .nil) fun p s=>(.of @L0 (fun F _ _ _ _ _=>by unfold L0;(repeat' apply k9 (f:=F))<;>rfl) (by kernel_rfl))
structure N6 where
 ns0:Nat
 eh0:List (List b7)
structure r8 where
 is3:Int
noncomputable def ub6 (p:N6) (s:r8):St:=⟨((.sl 0 0 p.ns0 0)::(.unk::(.unk::((i s.is3)::(ra 57 []))))),[⟨50,4,p.eh0,true,false,0⟩]⟩
noncomputable def L1 {α:Type} (k:r8→α) (e:Nat→α) (z:α) (p:N6) (s:r8):α:=let t1:=(lp (r4 (⟨p.ns0,(0+s.is3.toNat),(p.ns0 - s.is3.toNat)⟩:B8)) (⟨s.is3,1,p.eh0⟩:p5));(sl (decide (s.is3 < (↑p.ns0:Int))) (sl (inB s.is3 p.ns0) (sl (ldR tP p.eh0 (0+s.is3.toNat)) (sl (inB (W (s.is3 - 1)) p.ns0) (sl (ldR tP p.eh0 (0+(W (s.is3 - 1)).toNat)) (sl (((rdR tP p.eh0 (0+s.is3.toNat)).n.x==(rdR tP p.eh0 (0+(W (s.is3 - 1)).toNat)).n.x)&&(((rdR tP p.eh0 (0+s.is3.toNat)).n.y==(rdR tP p.eh0 (0+(W (s.is3 - 1)).toNat)).n.y)&&(((rdR tP p.eh0 (0+s.is3.toNat)).n.z==(rdR tP p.eh0 (0+(W (s.is3 - 1)).toNat)).n.z)&&(((rdR tP p.eh0 (0+s.is3.toNat)).b==(rdR tP p.eh0 (0+(W (s.is3 - 1)).toNat)).b)&&true)))) (sl (inB s.is3 (p.ns0+1)) (sl (Nat.beq t1.1 1) (sl (inB t1.2.is3 (p.ns0+1)) (sl (inB t1.2.is3 (p.ns0+1)) (e 1) z) z) z) z) (k ⟨(W (s.is3+1))⟩)) z) z) z) z) (e 2))
noncomputable def M8 (p:N6) (s:r8):Stp r8:=L1 .next .exit .fail p s
noncomputable def qa1:Lo N6 r8:=⟨En ta6,1,ne4,[1,1,0,1,4,4],[0,3],(.s .p (.s (.b (.s .p (.c (.s .p (.s (.s .p (.b (.u qa0.ls))) .p)) .p))) .p)),[⟨((.s (.o (.sl 0 0 (some 0) none)))::((.s (.o .unk))::((.s (.o .unk))::((.s (.o (.int .i64)))::(ru2 57 []))))),[⟨50,4,true,none⟩],fun a H=>(⟨(slN (slT a 0)),(elT H 0)⟩,⟨(toI (slT a 3))⟩)⟩],M8,[(none,fun p s=>let t1:=(lp (r4 (⟨p.ns0,(0+s.is3.toNat),(p.ns0 - s.is3.toNat)⟩:B8)) (⟨s.is3,1,p.eh0⟩:p5));⟨[(.sl 0 0 (t1.2.is3.toNat - 0) 0)],[⟨50,4,(app (F7 t1.2.eh0 (0+t1.2.is3.toNat)) (app (List.replicate (p.ns0 - t1.2.is3.toNat) [(i 0),(i 0),(i 0),(i 0)]) (e7 t1.2.eh0 ((0+t1.2.is3.toNat)+(p.ns0 - t1.2.is3.toNat))))),true,false,0⟩]⟩),(some 0,fun p s=>⟨((.sl 0 0 p.ns0 0)::(.unk::(.unk::((i s.is3)::(ra 6 ((i s.is3)::((.sl 0 0 p.ns0 0)::((i (↑p.ns0:Int))::((b (decide (s.is3 < (↑p.ns0:Int))))::(ra 47 [])))))))))),[⟨50,4,p.eh0,true,false,0⟩]⟩)],ub6⟩
theorem ub7:qa1.Ok:=Lo.ok [qa0.pr] (by kernel_rfl) (.cons ub5 .nil) rfl (.cons (fun a H=>by kernel_rfl) .nil) fun p s=>(.of @L1 (fun F _ _ _ _ _=>by unfold L1;(repeat' apply k9 (f:=F))<;>rfl) (by kernel_rfl))
structure ga8 where
 alt:Nat
 ns0:Nat
 eh0:List (List b7)
noncomputable def M0 {α:Type} (kk:ga8→α) (x:ga7):α:=let t1:=(lp (M8 (⟨x.ns0,x.eh0⟩:N6)) (⟨1⟩:r8));let t2:=(lp (r4 (⟨x.ns0,(0+t1.2.is3.toNat),(x.ns0 - t1.2.is3.toNat)⟩:B8)) (⟨t1.2.is3,1,x.eh0⟩:p5));(sl (decide ((↑x.ns0:Int) < 2)) (kk ⟨1,x.ns0,x.eh0⟩) (sl (Nat.beq t1.1 1) (kk ⟨1,(t2.2.is3.toNat - 0),(app (F7 t2.2.eh0 (0+t2.2.is3.toNat)) (app (List.replicate (x.ns0 - t2.2.is3.toNat) [(i 0),(i 0),(i 0),(i 0)]) (e7 t2.2.eh0 ((0+t2.2.is3.toNat)+(x.ns0 - t2.2.is3.toNat)))))⟩) (sl (Nat.beq t1.1 2) (kk ⟨1,x.ns0,x.eh0⟩) (kk ⟨0,0,[]⟩))))
noncomputable def T9 (x:ga7):ga8:=M0 (fun r=>r) x
noncomputable def ta7 (x:ga7) (r:ga8):DT (b7×List b8):=(.ite (Nat.beq r.alt 1) (.ret ((.sl 0 0 r.ns0 0),[⟨50,4,r.eh0,true,false,0⟩])) .fail)
theorem Kb3 {α β:Type} (F:α→β) (kk:ga8→α) (x:ga7):F (M0 kk x)=M0 (fun r=>F (kk r)) x:=by unfold M0;(repeat' apply k9 (f:=F))<;>rfl
noncomputable def va8:Sum:=Qa9 ⟨[(.s (.o (.sl 0 0 (some 0) none)))],[⟨50,4,true,none⟩],fun a H=>(⟨(slN (slT a 0)),(elT H 0)⟩,())⟩ (fun x=>ta7 x (T9 x))
theorem Pa5:g9 prog G 105 va8:=K4 (enc:=fun x=>⟨[(.sl 0 0 x.ns0 0)],[⟨50,4,x.eh0,true,false,0⟩]⟩) (fun a H=>by kernel_rfl) (bd Ze7 Bb1) fun x=>ua4 (.s .p (.s .p (.s (.s .p (.b (.u qa1.ls))) .p))) [qa1.pr] (by kernel_rfl) (.cons ub7 .nil) (Eq.trans (b:=M0 (fun r=>(ta7 x r).run) x) (by kernel_rfl) (Kb3 (fun r=>(ta7 x r).run) (fun r=>r) x).symm)
noncomputable def Wc4:List (Nat×Sum):=[]
theorem Ic1:i6 prog G Wc4:=trivial
noncomputable def La0 (x:Int) (y:Int):Option (b7×List b8):=(sl (decide (x < y)) (some ((i (-1)),[])) (sl (decide (x > y)) (some ((i 1),[])) (some ((i 0),[]))))
noncomputable def qa2 (x:Int) (y:Int):Int:=L4 (one r1I) (La0 x y)
noncomputable def qa3 (x:Int) (y:Int):Bool:=okO (one r1I) (La0 x y)
noncomputable def fc0:Sum:=pa2 cI cI (fun x y=>.guard (qa3 x y) (.ret ((one r1I).enc (qa2 x y),[])))
theorem Wc5:g9 prog G 179 fc0:=ib8 (bd kf5 Ic1) (one r1I) (o:=La0) fun x y=>s6 (by kernel_rfl)
noncomputable def Ac1:List (Nat×Sum):=[(179,fc0)]
theorem tc0:i6 prog G Ac1:=⟨Wc5,trivial⟩
noncomputable def xa8 (x:Pln) (y:Pln):Option (b7×List b8):=let t1:=(qa2 x.n.x y.n.x);let t2:=(qa2 x.n.y y.n.y);let t3:=(qa2 x.n.z y.n.z);let t4:=(qa2 x.b y.b);(sl (qa3 x.n.x y.n.x) (sl (t1==0) (sl (qa3 x.n.y y.n.y) (sl (t2==0) (sl (qa3 x.n.z y.n.z) (sl (t3==0) (sl (qa3 x.b y.b) (sl (t4==0) (some ((i t4),[])) (some ((i t4),[]))) none) (some ((i t3),[]))) none) (some ((i t2),[]))) none) (some ((i t1),[]))) none)
noncomputable def Ma7 (x:Pln) (y:Pln):Int:=L4 (one r1I) (xa8 x y)
noncomputable def Ma8 (x:Pln) (y:Pln):Bool:=okO (one r1I) (xa8 x y)
noncomputable def gb7:Sum:=pa2 (S4 tP) (S4 tP) (fun x y=>.guard (Ma8 x y) (.ret ((one r1I).enc (Ma7 x y),[])))
theorem Ac2:g9 prog G 104 gb7:=ib8 (bd hf3 tc0) (one r1I) (o:=xa8) fun x y=>s6 (by kernel_rfl)
noncomputable def Jd2:List (Nat×Sum):=[(164,pb2)]
theorem vd6:i6 prog G Jd2:=⟨Mb6,trivial⟩
noncomputable def rb2 (x:V3):Option (b7×List b8):=let t1:=(sa3 24 [x.x,x.y,x.z]);(sl (sa4 24 [x.x,x.y,x.z]) (some ((b t1),[])) none)
noncomputable def Kb4 (x:V3):Bool:=L4 (one r1B) (rb2 x)
noncomputable def Kb5 (x:V3):Bool:=okO (one r1B) (rb2 x)
noncomputable def Wc6:Sum:=S3 (S4 tV) (fun x=>.guard (Kb5 x) (.ret ((one r1B).enc (Kb4 x),[])))
theorem Jd3:g9 prog G 107 Wc6:=Aa9 (bd hf5 vd6) (one r1B) (o:=rb2) fun x=>s6 (by kernel_rfl)
noncomputable def Jd4:List (Nat×Sum):=[(87,Ga4),(107,Wc6),(108,Ya9)]
theorem vd7:i6 prog G Jd4:=⟨Ka0,Jd3,pb1,trivial⟩
noncomputable def rb3 (x:List Pln) (y:V3):Option (b7×List b8):=let t1:=(fa7 [(rt tP x)]);let t2:=(Kb4 y);let t3:=(Z3 (rt tP x) (⟨y.x,y.y,y.z,1⟩:Pt));(sl ((okE tP x)&&true) (sl (fa8 [(rt tP x)]) (sl t1 (sl (Kb5 y) (sl t2 (sl (okE tP x) (sl (Z4 (rt tP x) (⟨y.x,y.y,y.z,1⟩:Pt)) (some ((b t3),[])) none) none) (some ((b false),[]))) none) (some ((b false),[]))) none) none)
noncomputable def Oa0 (x:List Pln) (y:V3):Bool:=L4 (one r1B) (rb3 x y)
noncomputable def Ea6 (x:List Pln) (y:V3):Bool:=okO (one r1B) (rb3 x y)
noncomputable def kc1:Sum:=pa2 (X5 tP) (S4 tV) (fun x y=>.guard (Ea6 x y) (.ret ((one r1B).enc (Oa0 x y),[])))
theorem Ec0:g9 prog G 28 kc1:=ib8 (bd b28 vd7) (one r1B) (o:=rb3) fun x y=>s6 (by kernel_rfl)
noncomputable def fd2:List (Nat×Sum):=[(87,Ga4),(88,Zb6),(92,Na8)]
theorem Wc7:i6 prog G fd2:=⟨Ka0,ic9,ib1,trivial⟩
noncomputable def Ua5 (x:List Pln) (y:List Pln):Option (b7×List b8):=let t1:=(fa7 [(rt tP x),(rt tP y)]);let t2:=(Xa4 [(rt tP x),(rt tP y)]);let t3:=(ja0 (rt tP t2));(sl ((okE tP x)&&((okE tP y)&&true)) (sl (fa8 [(rt tP x),(rt tP y)]) (sl (!t1) (some ((b true),[])) (sl ((okE tP x)&&((okE tP y)&&true)) (sl (Xa5 [(rt tP x),(rt tP y)]) (sl (okE tP t2) (sl (ja1 (rt tP t2)) (some ((b (!t3)),[])) none) none) none) none)) none) none)
noncomputable def Ua6 (x:List Pln) (y:List Pln):Bool:=L4 (one r1B) (Ua5 x y)
noncomputable def Ua7 (x:List Pln) (y:List Pln):Bool:=okO (one r1B) (Ua5 x y)
noncomputable def tc1:Sum:=pa2 (X5 tP) (X5 tP) (fun x y=>.guard (Ua7 x y) (.ret ((one r1B).enc (Ua6 x y),[])))
theorem fd3:g9 prog G 31 tc1:=ib8 (bd b31 Wc7) (one r1B) (o:=Ua5) fun x y=>s6 (by kernel_rfl)
structure Ma9 where
 oa6:Int
 oa7:Int
 oa8:Int
 sb6:Int
 d8:List Pln
noncomputable def Ac3:List (Nat×Sum):=[(108,Ya9)]
theorem tc2:i6 prog G Ac3:=⟨pb1,trivial⟩
structure xa9 where
 alt:Nat
 bs0:Bool
noncomputable def ma4 {α:Type} (kk:xa9→α) (x:Ma9):α:=let t1:=(Z3 (rt tP x.d8) (⟨x.oa6,x.oa7,x.oa8,x.sb6⟩:Pt));(sl (okE tP x.d8) (sl (Z4 (rt tP x.d8) (⟨x.oa6,x.oa7,x.oa8,x.sb6⟩:Pt)) (kk ⟨1,(!t1)⟩) (kk ⟨0,false⟩)) (kk ⟨0,false⟩))
noncomputable def Na0 (x:Ma9):xa9:=ma4 (fun r=>r) x
noncomputable def Ya0 (x:Ma9) (r:xa9):DT (b7×List b8):=(.ite (Nat.beq r.alt 1) (.ret ((b r.bs0),[⟨0,1,[[(eL tP x.d8)]],true,false,0⟩])) .fail)
theorem Ic2 {α β:Type} (F:α→β) (kk:xa9→α) (x:Ma9):F (ma4 kk x)=ma4 (fun r=>F (kk r)) x:=by unfold ma4;(repeat' apply k9 (f:=F))<;>rfl
noncomputable def Mb9:Sum:=Qa9 ⟨[(.agg [(.o (.int .i64)),(.o (.int .i64)),(.o (.int .i64)),(.o (.int .i64))]),(.s (.o (.ptr 0 0 0 0)))],[⟨0,1,true,(some [[(.c 4 (nL tP))]])⟩],fun a H=>(⟨(toI (slT (cellsOf (slT a 0)) 0)),(toI (slT (cellsOf (slT a 0)) 1)),(toI (slT (cellsOf (slT a 0)) 2)),(toI (slT (cellsOf (slT a 0)) 3)),(rL tP (slT (rwT (elT H 0) 0) 0))⟩,())⟩ (fun x=>Ya0 x (Na0 x))
theorem Ac4:g9 prog G 114 Mb9:=K4 (enc:=fun x=>⟨[(.agg [(i x.oa6),(i x.oa7),(i x.oa8),(i x.sb6)]),(.ptr 0 0 0 0)],[⟨0,1,[[(eL tP x.d8)]],true,false,0⟩]⟩) (fun a H=>by kernel_rfl) (bd if0 tc2) fun x=>s6 (Eq.trans (b:=ma4 (fun r=>(Ya0 x r).run) x) (by kernel_rfl) (Ic2 (fun r=>(Ya0 x r).run) (fun r=>r) x).symm)
structure X0 where
 C5:List Pt
 d8:List Pln
noncomputable def Ea7:List (Nat×Sum):=[(114,Mb9)]
theorem kb4:i6 prog G Ea7:=⟨Ac4,trivial⟩
structure J4 where
 C5:List Pt
 is7:Int
structure o9 where
 is8:Int
 d8:List Pln
noncomputable def gb8 (p:J4) (s:o9):St:=⟨((eL tX p.C5)::((.fn 114 [(.ptr 0 0 0 0)])::(ra 5 ((i p.is7)::((i s.is8)::(ra 10 [])))))),[⟨0,1,[[(eL tP s.d8)]],true,false,0⟩]⟩
noncomputable def D9 {α:Type} (k:o9→α) (e:Nat→α) (z:α) (p:J4) (s:o9):α:=let t1:=(Na0 ⟨(gL tX p.C5 s.is8.toNat).px,(gL tX p.C5 s.is8.toNat).py,(gL tX p.C5 s.is8.toNat).pz,(gL tX p.C5 s.is8.toNat).pw,(rt tP s.d8)⟩);(sl (decide (s.is8 < p.is7)) (sl (inB s.is8 (List.length p.C5)) (sl ((cnE tP s.d8)&&true) (sl (Nat.beq t1.alt 1) (sl t1.bs0 (e 1) (k ⟨(W (s.is8+1)),(rt tP s.d8)⟩)) z) z) z) (e 2))
noncomputable def G7 (p:J4) (s:o9):Stp o9:=D9 .next .exit .fail p s
noncomputable def ga9:Lo J4 o9:=⟨En Ea7,1,ne7,[1,0,1,4,4],[0,1,7,8],.p,[⟨((.s (.c 4 (nL tX)))::((.fn 114 [(.o (.ptr 0 0 0 0))])::(ru2 5 ((.s (.o (.int .i64)))::((.s (.o (.int .i64)))::(ru2 10 [])))))),[⟨0,1,true,(some [[(.c 4 (nL tP))]])⟩],fun a H=>(⟨(rL tX (slT a 0)),(toI (slT a 7))⟩,⟨(toI (slT a 8)),(rL tP (slT (rwT (elT H 0) 0) 0))⟩)⟩],G7,[(none,fun p s=>⟨[(i s.is8)],[⟨0,1,[[(eL tP (rt tP s.d8))]],true,false,0⟩]⟩),(some 0,fun p s=>⟨((eL tX p.C5)::((.fn 114 [(.ptr 0 0 0 0)])::(ra 5 ((i p.is7)::((i s.is8)::((b (decide (s.is8 < p.is7)))::(ra 9 []))))))),[⟨0,1,[[(eL tP s.d8)]],true,false,0⟩]⟩)],gb8⟩
theorem gb9:ga9.Ok:=Lo.ok [] (by kernel_rfl) .nil rfl (.cons (fun a H=>by kernel_rfl) .nil) fun p s=>(.of @D9 (fun F _ _ _ _ _=>by unfold D9;(repeat' apply k9 (f:=F))<;>rfl) (by kernel_rfl))
structure X1 where
 alt:Nat
 is0:Int
 d8:List Pln
noncomputable def E7 {α:Type} (kk:X1→α) (x:X0):α:=let t1:=(lp (G7 (⟨(rt tX x.C5),(↑(List.length x.C5):Int)⟩:J4)) (⟨0,(rt tP x.d8)⟩:o9));(sl ((cnE tX x.C5)&&((cnE tP x.d8)&&true)) (sl (Nat.beq t1.1 1) (kk ⟨1,t1.2.is8,(rt tP t1.2.d8)⟩) (sl (Nat.beq t1.1 2) (kk ⟨1,(-1),t1.2.d8⟩) (kk ⟨0,0,[]⟩))) (kk ⟨0,0,[]⟩))
noncomputable def la6 (x:X0):X1:=E7 (fun r=>r) x
noncomputable def ja6 (x:X0) (r:X1):DT (b7×List b8):=(.ite (Nat.beq r.alt 1) (.ret ((i r.is0),[⟨0,1,[[(eL tP r.d8)]],true,false,0⟩])) .fail)
theorem ub8 {α β:Type} (F:α→β) (kk:X1→α) (x:X0):F (E7 kk x)=E7 (fun r=>F (kk r)) x:=by unfold E7;(repeat' apply k9 (f:=F))<;>rfl
noncomputable def Ha6:Sum:=Qa9 ⟨[(.s (.c 4 (nL tX))),(.fn 114 [(.o (.ptr 0 0 0 0))])],[⟨0,1,true,(some [[(.c 4 (nL tP))]])⟩],fun a H=>(⟨(rL tX (slT a 0)),(rL tP (slT (rwT (elT H 0) 0) 0))⟩,())⟩ (fun x=>ja6 x (la6 x))
theorem rb4:g9 prog G 185 Ha6:=K4 (enc:=fun x=>⟨[(eL tX x.C5),(.fn 114 [(.ptr 0 0 0 0)])],[⟨0,1,[[(eL tP x.d8)]],true,false,0⟩]⟩) (fun a H=>by kernel_rfl) (bd af0 kb4) fun x=>ua4 (.s .p (.s (.s .p (.b (.u ga9.ls))) .p)) [ga9.pr] (by kernel_rfl) (.cons gb9 .nil) (Eq.trans (b:=E7 (fun r=>(ja6 x r).run) x) (by kernel_rfl) (ub8 (fun r=>(ja6 x r).run) (fun r=>r) x).symm)
structure P1 where
 C5:List Pt
 d8:List Pln
noncomputable def db2:List (Nat×Sum):=[(185,Ha6)]
theorem Ya1:i6 prog G db2:=⟨rb4,trivial⟩
structure P4 where
 alt:Nat
 bs0:Bool
 d8:List Pln
noncomputable def B3 {α:Type} (kk:P4→α) (x:P1):α:=let t1:=(la6 ⟨(rt tX x.C5),(rt tP x.d8)⟩);(sl ((cnE tX x.C5)&&((cnE tP x.d8)&&true)) (sl (Nat.beq t1.alt 1) (kk ⟨1,(decide (t1.is0≥0)),t1.d8⟩) (kk ⟨0,false,[]⟩)) (kk ⟨0,false,[]⟩))
noncomputable def ea1 (x:P1):P4:=B3 (fun r=>r) x
noncomputable def ba7 (x:P1) (r:P4):DT (b7×List b8):=(.ite (Nat.beq r.alt 1) (.ret ((b r.bs0),[⟨0,1,[[(eL tP r.d8)]],true,false,0⟩])) .fail)
theorem hb5 {α β:Type} (F:α→β) (kk:P4→α) (x:P1):F (B3 kk x)=B3 (fun r=>F (kk r)) x:=by unfold B3;(repeat' apply k9 (f:=F))<;>rfl
noncomputable def ya0:Sum:=Qa9 ⟨[(.s (.c 4 (nL tX))),(.fn 114 [(.o (.ptr 0 0 0 0))])],[⟨0,1,true,(some [[(.c 4 (nL tP))]])⟩],fun a H=>(⟨(rL tX (slT a 0)),(rL tP (slT (rwT (elT H 0) 0) 0))⟩,())⟩ (fun x=>ba7 x (ea1 x))
theorem db3:g9 prog G 113 ya0:=K4 (enc:=fun x=>⟨[(eL tX x.C5),(.fn 114 [(.ptr 0 0 0 0)])],[⟨0,1,[[(eL tP x.d8)]],true,false,0⟩]⟩) (fun a H=>by kernel_rfl) (bd Ze9 Ya1) fun x=>s6 (Eq.trans (b:=B3 (fun r=>(ba7 x r).run) x) (by kernel_rfl) (hb5 (fun r=>(ba7 x r).run) (fun r=>r) x).symm)
noncomputable def Wc8:List (Nat×Sum):=[(20,ua7),(87,Ga4),(18,pa5),(113,ya0)]
theorem Ic3:i6 prog G Wc8:=⟨va3,Ka0,sa8,db3,trivial⟩
noncomputable def La1 (x:List Pln) (y:List Pln):Option (b7×List b8):=let t1:=(ba2 (rt tP x));let t2:=(fa7 [(rt tP y)]);let t3:=(R9 (rt tP x));let t4:=(ea1 ⟨(rt tX t3),(rt tP y)⟩);(sl (okE tP x) (sl (ba3 (rt tP x)) (sl t1 (sl ((okE tP y)&&true) (sl (fa8 [(rt tP y)]) (sl t2 (sl (okE tP x) (sl (S1 (rt tP x)) (sl ((cnE tX t3)&&((cnE tP y)&&true)) (sl (Nat.beq t4.alt 1) (some ((b (!t4.bs0)),[])) none) none) none) none) (some ((b false),[]))) none) none) (some ((b false),[]))) none) none)
noncomputable def La2 (x:List Pln) (y:List Pln):Bool:=L4 (one r1B) (La1 x y)
noncomputable def La3 (x:List Pln) (y:List Pln):Bool:=okO (one r1B) (La1 x y)
noncomputable def fc1:Sum:=pa2 (X5 tP) (X5 tP) (fun x y=>.guard (La3 x y) (.ret ((one r1B).enc (La2 x y),[])))
theorem Wc9:g9 prog G 33 fc1:=ib8 (bd b33 Ic3) (one r1B) (o:=La1) fun x y=>s6 (by kernel_rfl)
noncomputable def Jd5:List (Nat×Sum):=[]
theorem vd8:i6 prog G Jd5:=trivial
structure Kb6 where
 d9:Int
 R2:Int
 R3:Int
 R4:Int
 R5:Int
 R6:Int
noncomputable def rb5 {α:Type} (kk:Kb6→α) (x:V3) (y:V3):α:=(kk ⟨y.x,(W (0 - x.x)),y.y,(W (0 - x.y)),y.z,(W (0 - x.z))⟩)
noncomputable def Xc0 (x:V3) (y:V3):Kb6:=rb5 (fun r=>r) x y
noncomputable def Wb1 (r:Kb6):DT (b7×List b8):=.ret ((.sl 0 0 6 0),[⟨50,4,[[(i 1),(i 0),(i 0),(i r.d9)],[(i (-1)),(i 0),(i 0),(i r.R2)],[(i 0),(i 1),(i 0),(i r.R3)],[(i 0),(i (-1)),(i 0),(i r.R4)],[(i 0),(i 0),(i 1),(i r.R5)],[(i 0),(i 0),(i (-1)),(i r.R6)]],true,false,0⟩])
theorem Sd9 {α β:Type} (F:α→β) (kk:Kb6→α) (x:V3) (y:V3):F (rb5 kk x y)=rb5 (fun r=>F (kk r)) x y:=by unfold rb5;(repeat' apply k9 (f:=F))<;>rfl
noncomputable def Xc1:Sum:=pa2 (S4 tV) (S4 tV) (fun x y=>Wb1 (Xc0 x y))
theorem Jd6:g9 prog G 111 Xc1:=Ga0 (bd Ze8 vd8) fun x y=>s6 (Eq.trans (b:=rb5 (fun r=>(Wb1 r).run) x y) (by kernel_rfl) (Sd9 (fun r=>(Wb1 r).run) (fun r=>r) x y).symm)
noncomputable def fd4:List (Nat×Sum):=[(111,Xc1)]
theorem Xc2:i6 prog G fd4:=⟨Jd6,trivial⟩
structure kb5 where
 d9:Int
 R2:Int
 R3:Int
 R4:Int
 R5:Int
 R6:Int
noncomputable def Ua8 {α:Type} (kk:kb5→α)  : α:=let t1:=(Xc0 (⟨0,0,0⟩:V3) (⟨1,1,1⟩:V3));(kk ⟨t1.d9,t1.R2,t1.R3,t1.R4,t1.R5,t1.R6⟩)
noncomputable def Kb7  : kb5:=Ua8 (fun r=>r)
noncomputable def Bb2 (r:kb5):DT (b7×List b8):=.ret ((.sl 0 0 6 0),[⟨50,4,[[(i 1),(i 0),(i 0),(i r.d9)],[(i (-1)),(i 0),(i 0),(i r.R2)],[(i 0),(i 1),(i 0),(i r.R3)],[(i 0),(i (-1)),(i 0),(i r.R4)],[(i 0),(i 0),(i 1),(i r.R5)],[(i 0),(i 0),(i (-1)),(i r.R6)]],true,false,0⟩])
theorem vd9 {α β:Type} (F:α→β) (kk:kb5→α)  : F (Ua8 kk )=Ua8 (fun r=>F (kk r))  :=by unfold Ua8;(repeat' apply k9 (f:=F))<;>rfl
noncomputable def tc3:Sum:=Bd1  (Bb2 (Kb7 ))
theorem fd5:g9 prog G 81 tc3:=Ud9 (bd b81 Xc2) (s6 (Eq.trans (b:=Ua8 (fun r=>(Bb2 r).run) ) (by kernel_rfl) (vd9 (fun r=>(Bb2 r).run) (fun r=>r) ).symm))
end Go.Ev.Ce
end
namespace Go.Ev.Ce
open Go Go.Ev Go.Ev.L Go.Proofs
theorem se1 (v:V3):Kb4 v=inV v∧Kb5 v=true:=by
 have h3:[v.x,v.y,v.z].length≤1000000000:=by simp
 have:rb2 v=some (b (inV v),[]):=by
  unfold rb2 inV
  simp only[yc8 24 _ (by omega) h3,yc9 24 _ (by omega) h3,q9]
  simp only[List.all_cons,List.all_nil,Bool.and_true]
 unfold Kb4 Kb5
 rw[this]
 exact⟨rfl,rfl⟩
noncomputable def has (c:List Pln) (v:V3):Bool:=(chk c==0)&&(inV v&&inn c ⟨v.x,v.y,v.z,1⟩)
theorem se2 {c:List Pln} (hc:c.length≤1000000000) (v:V3):rb3 c v=some (b (has c v),[]):=by
 unfold rb3 has
 simp only[m0,K8,rc8 c hc,rc9 c hc,(se1 v).1,(se1 v).2,Sc6 c _ hc,Sc7 c _ hc]
 cases chk c==0 with
 | false=>rfl
 | true=>cases inV v<;>rfl
theorem se3 {c:List Pln} (hc:c.length≤1000000000) (v:V3):Oa0 c v=has c v:=by unfold Oa0;rw[se2 hc];rfl
theorem se4 {c:List Pln} (hc:c.length≤1000000000) (v:V3):Ea6 c v=true:=by unfold Ea6;rw[se2 hc];rfl
theorem se5 {a c:List Pln} (ha:(chk a==0)=true) (hc:(chk c==0)=true):Bds (a++c++ws)∧(a++c++ws).length≤200:=by
 rw[beq_iff_eq,Tc2] at ha hc
 refine⟨fun p hp=>?_,by rw[List.length_append,List.length_append,show ws.length=6 from rfl];omega⟩
 rcases List.mem_append.1 hp with hp | hp
 ·rcases List.mem_append.1 hp with hp | hp
  ·exact td5 (ha.2 p hp)
  ·exact td5 (hc.2 p hp)
 ·exact Ke1 p hp
noncomputable def apart (a c:List Pln):Bool:=!((chk a==0)&&(chk c==0))||!dd4 (a++c++ws)
theorem Jd7 {a c:List Pln} (ha:a.length≤100000000) (hc:c.length≤100000000):Ua5 a c=some (b (apart a c),[]):=by
 have hn:[a,c].length≤1000000000:=by simp
 have hl:∀ x∈[a,c],x.length≤1000000000:=by
  intro x hx
  simp only[List.mem_cons,List.not_mem_nil,or_false] at hx
  rcases hx with rfl | rfl<;>omega
 have hf:[a,c].flatten=a++c:=by simp
 have hfl:[a,c].flatten.length≤1000000000:=by rw[hf,List.length_append];omega
 unfold Ua5 apart
 simp only[m0,K8,Gd9 _ hn hl,Hd0 _ hn hl,af5 _ hn hfl,af6 _ hn hfl,hf,List.all_cons,List.all_nil,Bool.and_true]
 cases h1:chk a==0 with
 | false=>rfl
 | true =>
  cases h2:chk c==0 with
  | false=>rfl
  | true =>
   obtain⟨q1,q2⟩:=se5 h1 h2
   rw[pe6 _ q1 q2,pe7 _ q1 q2]
   rfl
theorem Ee9 {a c:List Pln} (ha:a.length≤100000000) (hc:c.length≤100000000):Ua6 a c=apart a c:=by unfold Ua6;rw[Jd7 ha hc];rfl
theorem Fe0 {a c:List Pln} (ha:a.length≤100000000) (hc:c.length≤100000000):Ua7 a c=true:=by unfold Ua7;rw[Jd7 ha hc];rfl
noncomputable def ge1 (a c:List Pln):Bool:=ful a&&((chk c==0)&&(pts a).all (inn c))
theorem Td0 (x:Pt) (c:List Pln) (hc:c.length≤1000000000):Na0 ⟨x.px,x.py,x.pz,x.pw,c⟩=⟨1,!inn c x⟩:=by
 unfold Na0 ma4
 simp only[m0,K8,q9]
 show sl (Z4 c x) (xa9.mk 1 (!Z3 c x)) _=_
 rw[Sc6 c x hc,Sc7 c x hc]
 rfl
theorem md8 {a c:List Pln} (ha:a.length≤1000000000) (hc:c.length≤1000000000):La1 a c=some (b (ge1 a c),[]):=by
 have hX:=sc5 a
 have h:=ib9 (step:=G7 ⟨pts a,((pts a).length:Int)⟩) (mk:=fun j=>(⟨(j:Int),c⟩:o9)) (c:=fun x=>!inn c x) (u:=1) (fin:=2) tX (pts a) (by omega)
  (fun j hj=>by
   simp only[G7,D9,Int.toNat_natCast,m0,m8,Td0 _ _ hc,p6 hj (show (pts a).length≤4611686018427387904 by omega)]
   rw[btD (n9 hj),bt (f0 hj)]
   rfl)
  (by simp only[G7,D9];rw[bfD (Q3 (Nat.lt_irrefl _))]) 0 (Nat.zero_le _)
 rw[List.drop_zero] at h
 have e:((pts a).any fun x=>!inn c x)=!(pts a).all (inn c):=by rw[List.not_all_eq_any_not]
 unfold La1 ea1 B3 la6 E7 ge1
 simp only[m0,m8,K8,Ub6 ha,Ub7 ha,rc8 c hc,rc9 c hc,pb8 ha,pb9 ha]
 rw[show (⟨0,c⟩:o9)=⟨((0:Nat):Int),c⟩ from rfl,h,e]
 cases ful a with
 | false=>rfl
 | true =>
  cases chk c==0 with
  | false=>rfl
  | true =>
   cases (pts a).all (inn c) with
   | true=>rfl
   | false =>
    simp only[Bool.not_false,if_true,Nat.zero_add]
    show some (b (!(decide ((((pts a).findIdx fun x=>!inn c x:Nat):Int)≥0))),[])=_
    rw[show decide ((((pts a).findIdx fun x=>!inn c x:Nat):Int)≥0)=true from decide_eq_true (by omega)]
    rfl
theorem se6 {a c:List Pln} (ha:a.length≤1000000000) (hc:c.length≤1000000000):La2 a c=ge1 a c:=by unfold La2;rw[md8 ha hc];rfl
theorem se7 {a c:List Pln} (ha:a.length≤1000000000) (hc:c.length≤1000000000):La3 a c=true:=by unfold La3;rw[md8 ha hc];rfl
end Go.Ev.Ce
namespace Go.Ev.L
open Go Go.Ev Go.Sort Go.Proofs
section
variable {α:Type} [Inhabited α] {P:Program} {G:Nat→List Value} {g:FuncId} {S:Sum} {t:Ty α} {enc:α→List Value} {cf:α→α→Int}
theorem Fe1 (hc : g9 P G g S) (hS : ∀ x y, (S [.agg (t.row x), .agg (t.row y)] []).run = some (i (cf x y), [])) (hG : ∀ n, G n = []) (he : ∀ x, t.row x = (enc x).map .v) (k blk off size : Nat) (w : World) :
  CmpLays P g #[] enc k cf blk off size w:=by
 intro m os dk _ x y
 generalize sortWorldK enc k w blk off m dk os=w0
 have hrow:∀ (z:α),ea9 (fun _=>⟨0,0,0⟩) [] (fun _ _=>False) w0 (.agg (t.row z)) (.agg (enc z).toArray):=fun z=>by
  refine .agg _ _ (by rw[he];simp) fun i u u' hu hu'=>?_
  rw[he,List.getElem?_map] at hu
  have hu':(enc z)[i]?=some u':=by simpa using hu'
  rw[hu'] at hu
  injection hu with hu
  subst hu
  exact .v _
 obtain⟨_,h⟩:=hc _ _ _ _ (hS x y) (fun k=>w0.heap.size≤k) (fun _=>⟨0,0,0⟩) (fun _ _=>False) w0 [.agg (enc x).toArray,.agg (enc y).toArray]
  ⟨fun id b hb=>by simp at hb,fun id id' b b' hb=>by simp at hb,fun b o hf=>hf.elim,fun k hk=>hk⟩ rfl
  (fun i u u' hu hu'=>by
   match i,hu,hu' with
   | 0,hu,hu'=>cases hu;cases hu';exact .val (hrow x)
   | 1,hu,hu'=>cases hu;cases hu';exact .val (hrow y))
  (fun n c v hv=>by rw[hG] at hv;simp at hv)
 refine h.mono fun e w' ⟨r',h1,ρ',F',h2,h3,h4⟩=>?_
 have h5:=ea3 h4
 subst h5
 refine⟨h1,w'.drawn - w0.drawn,w'.heap.extract w0.heap.size w'.heap.size,?_⟩
 have hd:=h2.ext.drawn
 have hs:=h2.ext.size
 have hheap:w'.heap=w0.heap++w'.heap.extract w0.heap.size w'.heap.size:=by
  apply Array.ext_getElem?
  intro j
  rcases Nat.lt_or_ge j w0.heap.size with hj | hj
  ·rw[Array.getElem?_append_left hj,h2.ext.block j hj (by omega)]
  ·rw[Array.getElem?_append_right hj,Array.getElem?_extract]
   have e:w0.heap.size+(j - w0.heap.size)=j:=by omega
   rw[e]
   split
   ·rfl
   ·rw[Array.getElem?_eq_none (by omega)]
 obtain⟨hp,tp,dr,os',out⟩:=w'
 have e1:=h2.ext.os;have e2:=h2.ext.tape;have e3:=h2.ext.output
 simp only at e1 e2 e3 hd hheap
 subst e1 e2 e3
 unfold grow World.drewN
 simp only
 congr 1
 omega
noncomputable def se8 (t:Ty α) (g:Nat) (et:Nat) (srt:List α→List α):Sum:=fun args blks=>match args,blks with
 | [.sl 0 0 n 0,.fn g' []],[⟨et',es',el,true,false,0⟩] =>
  Bool.rec (motive:=fun _=>DT (b7×List b8)) .fail (.guard (Bool.and (Nat.ble n room) (Bool.and (Nat.ble n (len el)) (okS t el 0 n))) (.ret (.v (.tuple #[]),[⟨et',es',app (bL t (srt (slR t el 0 n))) (e7 el n),true,false,0⟩])))
   (Bool.and (Nat.beq g' g) (Bool.and (Nat.beq et' et) (Nat.beq es' t.es)))
 | _,_=>.fail
theorem tc4 (l:List α) (j:Nat) (h:j < l.length):l.toArray[j]! = l[j]:=by
 rw[getElem!_pos l.toArray j (by simpa using h)]
 simp
theorem Fe2 {f : FuncId} {et : Nat} {srt : List α → List α} (hcall : mb7 P f) (hes : 0 < t.es) (he : ∀ x, t.row x = (enc x).map .v) (hx : ∀ r, t.ok r = true → r = t.row (t.rd r)) (h1 : ∀ x, ∀ v ∈ enc x, v.oneCell' = true)
  (hlen:∀ l,(srt l).length=l.length) (hcl:∀ blk off size w,CmpLays P g #[] enc t.es cf blk off size w)
  (hcon:∀ (blk cap:Nat) (d:Array α) (w:World),(∀ off size,CmpLays P g #[] enc t.es cf blk off size w)→HoldsK enc t.es w blk 0 d→blk < w.heap.size→d.size < 4611686018427387904 →
   Calls P f #[.slice (some ⟨blk,0,none⟩) d.size cap,.func (.func g) #[] #[]] w fun e w'=>e=.returned (.tuple #[])∧∃ n os,w'=sortWorldK enc t.es w blk 0 n (srt d.toList).toArray os) :
  g9 P G f (se8 t g et srt):=by
 intro args blks r out hr W ρ F w args' hH hl hargs hG
 refine⟨hcall,?_⟩
 unfold se8 at hr
 split at hr
 case h_2=>cases hr
 rename_i n g' et' es' el
 cases hb0:Bool.and (Nat.beq g' g) (Bool.and (Nat.beq et' et) (Nat.beq es' t.es)) with
 | false=>rw[hb0] at hr;cases hr
 | true =>
 rw[hb0] at hr
 rw[Bool.and_eq_true,Bool.and_eq_true] at hb0
 have q1:=Nat.eq_of_beq_eq_true hb0.1;have q2:=Nat.eq_of_beq_eq_true hb0.2.1;have q3:=Nat.eq_of_beq_eq_true hb0.2.2
 subst q1 q2 q3
 obtain⟨hg0,hr⟩:=DT.run_guard_some hr
 rw[Bool.and_eq_true,Bool.and_eq_true] at hg0
 have hroom:n≤room:=Nat.le_of_ble_eq_true hg0.1
 have hn:=Nat.le_of_ble_eq_true hg0.2.1
 rw[l9] at hn
 have hok:=hg0.2.2
 injection hr with hr;injection hr with p1 p2;subst p1 p2
 match args',hl with
 | [v0,v1],_ =>
 obtain⟨a,cap,b,rfl,hb,hd,_,hncap,hspot,hcap,hq⟩:=Ia0 (hargs 0 _ _ rfl rfl)
 obtain⟨vs1,rfl,hvs1,_⟩:=Fb7 (hargs 1 _ _ rfl rfl)
 have hvs1:vs1=#[]:=Array.eq_empty_of_size_eq_zero (by simpa using hvs1.symm)
 subst hvs1
 rw[lb3] at *
 have hb:b=⟨et',t.es,el,true,false,0⟩:=by simpa using hb.symm
 subst hb
 obtain⟨ha,hsz,hne⟩:=hq rfl
 have ha:a=⟨(ρ 0).blk,(ρ 0).off+0*t.es,none⟩:=ha.resolve_left fun h=>by omega
 obtain⟨cc,tt,fr,hB⟩:=hH.blk 0 _ rfl rfl
 obtain⟨hfr,hW,hoff,hsize,hnF,het⟩:=hB.own rfl
 subst hfr
 rw[hoff,Nat.zero_mul,Nat.add_zero] at ha
 subst ha
 generalize hbk:(ρ 0).blk=blk at *
 -- the rows as data
 have hrow:∀ j,j < n→f7 el j=(enc (gL t (slR t el 0 n) j)).map .v:=fun j hj=>by
  have h2:t.ok (f7 el (0+j))=true:=List.all_eq_true.1 hok j (by simpa using hj)
  rw[Nat.zero_add] at h2
  rw[← he,slR,Vd1 t _ hj,Nat.zero_add]
  exact hx _ h2
 have hld:(slR t el 0 n).length=n:=qd3 ..
 have hk:∀ x,(enc x).length=t.es:=fun x=>by have:=t.h0 x;rw[l9,he] at this;simpa using this
 have hlt:blk < w.heap.size:=by
  have:=hB.obj
  rcases Nat.lt_or_ge blk w.heap.size with h | h
  ·exact h
  ·rw[hbk,Array.getElem?_eq_none h] at this;cases this
 have hobj:w.heap[blk]?=some (.cells cc tt (0,0)):=by rw[← hbk];exact hB.obj
 have hgd:∀ (l:List α) (j:Nat) (h:j < l.length),gL t l j=l[j]:=fun l j h=>by simp[gL,List.getD_eq_getElem?_getD,List.getElem?_eq_getElem h]
 have hdm:∀ q,q < n*t.es→q / t.es < n∧q % t.es < t.es∧(q / t.es)*t.es+q % t.es=q:=fun q hq=>⟨Nat.div_lt_of_lt_mul (by rw[Nat.mul_comm];exact hq),Nat.mod_lt _ hes,Nat.div_add_mod' q t.es⟩
 have hrowAt:∀ j,j < el.length→el[j]?=some (f7 el j):=fun j hj=>by
  unfold f7;rw[B4,List.getElem?_eq_getElem hj]
 have hH0:HoldsK enc t.es w blk 0 (slR t el 0 n).toArray:=by
  intro q hq
  have hq:q < n*t.es:=by rw[size_flatK] at hq;simpa [hld] using hq
  obtain⟨e1,e2,e3⟩:=hdm q hq
  rw[get_flatK _ _ _ _ (by simpa [hld] using hq),tc4 _ _ (by rw[hld];exact e1),← hgd _ _ (by rw[hld];exact e1)]
  have hcx:(f7 el (q / t.es))[q % t.es]?=some (.v ((enc (gL t (slR t el 0 n) (q / t.es)))[q % t.es]!)):=by
   rw[hrow _ e1,List.getElem?_map,List.getElem?_eq_getElem (by rw[hk];exact e2),getElem!_pos _ _ (by rw[hk];exact e2)]
   rfl
  obtain⟨x',h5,h6⟩:=hB.cell (q / t.es) _ (q % t.es) _ (hrowAt _ (by omega)) hcx
  have h6:x'=(enc (gL t (slR t el 0 n) (q / t.es)))[q % t.es]! :=by cases h6;rfl
  subst h6
  rw[hoff] at h5
  simp only[e3,Nat.zero_add] at h5
  constructor
  ·simp only[World.cell?,hobj,Nat.zero_add]
   simpa using h5
  ·simp[World.frozen?,hobj]
 have hds:(slR t el 0 n).toArray.size=n:=by simpa using hld
 have hmax:n < 4611686018427387904:=by unfold room at hroom;omega
 have hcalls:=hcon blk cap (slR t el 0 n).toArray w (fun off size=>hcl blk off size w) hH0 hlt (by rw[hds];exact hmax)
 rw[hds] at hcalls
 refine hcalls.mono fun e w' ⟨h5,m,os,h6⟩=>⟨_,h5,ρ,F,?_⟩
 generalize hsd:srt (slR t el 0 n)=sd at *
 have hsl:sd.length=n:=by rw[← hsd,hlen,hld]
 have h6:w'=grow (mapBlock (Sort.ahead w m) blk (putCells id 0 (flatK enc t.es sd.toArray))) os:=h6
 have hw'size:w'.heap.size=w.heap.size+os.size:=by rw[h6];simp[mapBlock]
 have hold:∀ k,k < w.heap.size→k≠blk→w'.heap[k]?=w.heap[k]?:=fun k h7 h8=>by
  rw[h6]
  simp only[grow,mapBlock]
  rw[Array.getElem?_append_left (by simpa using h7),Array.getElem?_modify]
  simp[Ne.symm h8]
 have hnew:w'.heap[blk]?=some (.cells (putCells id 0 (flatK enc t.es sd.toArray) cc) tt (0,0)):=by
  rw[h6]
  simp only[grow,mapBlock]
  rw[Array.getElem?_append_left (by simpa using hlt),Array.getElem?_modify]
  simp[hobj,onCells]
 have hcells:∀ b o,F b o→w'.cell? ⟨b,o,none⟩=w.cell? ⟨b,o,none⟩:=fun b o hf=>by
  have h7:b≠blk:=fun h8=>hnF o (h8 ▸ hf)
  have:=Fb4 (hH.frz b o hf)
  simp only[World.cell?,hold b this h7]
 have hpc:∀ q,q < cc.size→(putCells id 0 (flatK enc t.es sd.toArray) cc)[q]?=if q < n*t.es then some ((enc sd.toArray[q / t.es]!)[q % t.es]!) else cc[q]?:=fun q hq=>by
  simp only[putCells,Array.getElem?_mapIdx,Array.getElem?_eq_getElem hq,Option.map_some,size_flatK,Nat.zero_le,true_and,Nat.zero_add,Nat.sub_zero,id]
  have:sd.toArray.size=n:=by simpa using hsl
  rw[this]
  split
  ·next h7=>rw[get_flatK _ _ _ _ (by rw[this];exact h7)]
  ·rfl
 have hel:(app (bL t sd) (e7 el n)).length=el.length:=by
  rw[E9,List.length_append,← l9 (bL t sd),P5,hsl,F9,List.length_drop]
  omega
 have hnrow:∀ (j:Nat) r,(app (bL t sd) (e7 el n))[j]?=some r→(j < n∧r=t.row (gL t sd j))∨(n≤j∧el[j]?=some r):=fun j r hr=>by
  have hlb:(bL t sd).length=n:=by rw[← l9,P5,hsl]
  rw[E9] at hr
  rcases Nat.lt_or_ge j n with h7 | h7
  ·rw[List.getElem?_append_left (by omega)] at hr
   left
   refine⟨h7,?_⟩
   unfold bL at hr
   rw[n8,List.getElem?_map,List.getElem?_eq_getElem (by omega)] at hr
   injection hr with hr
   rw[← hr,hgd sd j (by omega)]
  ·rw[List.getElem?_append_right (by omega),hlb,F9,List.getElem?_drop] at hr
   right
   exact⟨h7,by rw[← hr];congr 1;omega⟩
 have hcs:el.length*t.es≤cc.size:=by have:=hB.len;rw[hsize] at this;exact this
 refine⟨⟨⟨?_,?_,?_,by omega,fun k h7 h8=>hold k h7 fun h9=>h8 (h9 ▸ hW),hcells,?_⟩,fun id b hb=>?_,fun _ _ h=>h,fun _ _ h=>.inl h,fun id b' hb' hn'=>?_⟩,⟨fun id b hb hd'=>?_,fun id id' b b' hb hb' h7 h8 h9 h10=>?_,fun b o hf=>by rw[hcells b o hf];exact hH.frz b o hf,fun k hk'=>hH.new k (by omega)⟩,.ofv _⟩
 ·rw[h6];rfl
 ·rw[h6];rfl
 ·rw[h6];rfl
 ·rw[h6];exact Nat.le_add_right _ _
 ·match id,hb with
  | 0,hb =>
   cases hb
   exact⟨_,rfl,rfl,Nat.le_refl _,fun _=>⟨rfl,rfl,by simp only[hel];exact Nat.le_refl _⟩⟩
 ·match id,hb' with
  | 0,hb'=>cases hb';exact absurd rfl (hn' ⟨et',t.es,el,true,false,0⟩ rfl)
 ·match id,hb with
  | 0,hb =>
   cases hb
   refine⟨_,tt,(0,0),by rw[hbk];exact hnew,?_,?_,?_,?_,fun _=>⟨rfl,by rw[hbk];exact hW,hoff,?_,by rw[hbk];exact hnF,het⟩,fun h=>by cases h⟩
   ·rw[hoff,hsize];simp[putCells]
   ·simp only[hel];exact hB.len
   ·intro j r hr
    rcases hnrow j r hr with⟨_,h8⟩ | ⟨_,h8⟩
    ·rw[h8,← l9];exact t.h0 _
    ·exact hB.rows j r h8
   ·intro j r c x hr hc
    rw[hoff,Nat.zero_add]
    rcases hnrow j r hr with⟨h7,h8⟩ | ⟨h7,h8⟩
    ·subst h8
     have hclt:c < t.es:=by
      have:=(List.getElem?_eq_some_iff.1 hc).1
      rw[← l9,t.h0] at this
      exact this
     have hq:j*t.es+c < n*t.es:=by
      have:=Nat.mul_le_mul_right t.es (show j+1≤n from h7)
      rw[Nat.add_mul,Nat.one_mul] at this
      omega
     have hqn:n*t.es≤el.length*t.es:=Nat.mul_le_mul_right _ hn
     have e1:(j*t.es+c) / t.es=j:=by rw[Nat.mul_comm,Nat.mul_add_div hes,Nat.div_eq_of_lt hclt,Nat.add_zero]
     have e2:(j*t.es+c) % t.es=c:=by rw[Nat.mul_comm,Nat.mul_add_mod,Nat.mod_eq_of_lt hclt]
     rw[he,List.getElem?_map,List.getElem?_eq_getElem (by rw[hk];exact hclt)] at hc
     injection hc with hc
     subst hc
     refine⟨(enc (gL t sd j))[c]'(by rw[hk];exact hclt),?_,.v _ (h1 _ _ (List.getElem_mem _))⟩
     rw[hpc _ (Nat.lt_of_lt_of_le hq (Nat.le_trans hqn hcs)),if_pos hq,e1,e2,tc4 _ _ (by omega),hgd sd j (by omega),getElem!_pos _ _ (by rw[hk];exact hclt)]
    ·obtain⟨x',h9,h10⟩:=hB.cell j r c x h8 hc
     rw[hoff,Nat.zero_add] at h9
     have hq:¬ j*t.es+c < n*t.es:=by
      have:=Nat.mul_le_mul_right t.es h7
      omega
     have hlt':j*t.es+c < cc.size:=(Array.getElem?_eq_some_iff.1 h9).1
     exact⟨x',by rw[hpc _ hlt',if_neg hq];exact h9,h10.adv (fun _ _ h=>h) hcells⟩
   ·rw[hsize];simp[putCells]
 ·match id,hb,id',hb' with
  | 0,hb,0,hb'=>exact absurd rfl h10
end
end Go.Ev.L
namespace Go.Proofs
open Go.Shelf
set_option maxRecDepth 100000 in
def Ce.sortLay_ren:Go.Shelf.Ren:=⟨fun | 6=>103 | 15=>178 | 14=>177 | 28=>230 | 29=>231 | 20=>222 | 21=>223 | 22=>224 | 23=>225 | 24=>226 | 25=>227 | 26=>228 | 27=>229 | 46=>240 | 47=>241 | 48=>242 | 49=>243 | 50=>244 | 57=>254 | n=>n,fun | 22=>25 | 24=>50 | 25=>119 | 3=>3 | 39=>185 | 0=>0 | 53=>213 | 55=>215 | 4=>4 | 46=>207 | 45=>206 | 50=>72 | 5=>5 | 9=>9 | 66=>219 | 70=>223 | 76=>231 | 77=>232 | n=>n,fun | n=>n⟩
set_option maxRecDepth 100000 in
theorem Ce.sortLay:Go.Proofs.SlLaysF0.n6 Tryz.prog Ce.sortLay_ren:={
 mixed:=by kernel_rfl
 f6:=⟨Tryz.f103.name,by decide,Tryz.func103.trans (congrArg some (by kernel_rfl))⟩
 f14:=⟨Tryz.f177.name,by decide,Tryz.func177.trans (congrArg some (by kernel_rfl))⟩
 f15:=Tryz.func178.trans (congrArg some (by kernel_rfl))
 f20:=⟨Tryz.f222.name,by decide,Tryz.func222.trans (congrArg some (by kernel_rfl))⟩
 f21:=⟨Tryz.f223.name,by decide,Tryz.func223.trans (congrArg some (by kernel_rfl))⟩
 f22:=⟨Tryz.f224.name,by decide,Tryz.func224.trans (congrArg some (by kernel_rfl))⟩
 f23:=⟨Tryz.f225.name,by decide,Tryz.func225.trans (congrArg some (by kernel_rfl))⟩
 f24:=⟨Tryz.f226.name,by decide,Tryz.func226.trans (congrArg some (by kernel_rfl))⟩
 f25:=⟨Tryz.f227.name,by decide,Tryz.func227.trans (congrArg some (by kernel_rfl))⟩
 f26:=⟨Tryz.f228.name,by decide,Tryz.func228.trans (congrArg some (by kernel_rfl))⟩
 f27:=⟨Tryz.f229.name,by decide,Tryz.func229.trans (congrArg some (by kernel_rfl))⟩
 f28:=Tryz.func230.trans (congrArg some (by kernel_rfl))
 f29:=Tryz.func231.trans (congrArg some (by kernel_rfl))
 f46:=⟨Tryz.f240.name,by decide,Tryz.func240.trans (congrArg some (by kernel_rfl))⟩
 f47:=Tryz.func241.trans (congrArg some (by kernel_rfl))
 f48:=Tryz.func242.trans (congrArg some (by kernel_rfl))
 f49:=⟨Tryz.f243.name,by decide,Tryz.func243.trans (congrArg some (by kernel_rfl))⟩
 f50:=⟨Tryz.f244.name,by decide,Tryz.func244.trans (congrArg some (by kernel_rfl))⟩
 f57:=⟨Tryz.f254.name,by decide,Tryz.func254.trans (congrArg some (by kernel_rfl))⟩
 t0:=Tryz.underlying0
 a0:=Tryz.isAgg0
 z0:=Tryz.sizeOf0
 v0:=Tryz.zeroValue0
 t3:=Tryz.underlying3
 a3:=Tryz.isAgg3
 z3:=Tryz.sizeOf3
 v3:=Tryz.zeroValue3
 t4:=Tryz.underlying4
 a4:=Tryz.isAgg4
 z4:=Tryz.sizeOf4
 v4:=Tryz.zeroValue4
 t5:=Tryz.underlying5
 a5:=Tryz.isAgg5
 z5:=Tryz.sizeOf5
 v5:=Tryz.zeroValue5
 t9:=Tryz.underlying9
 a9:=Tryz.isAgg9
 z9:=Tryz.sizeOf9
 v9:=Tryz.zeroValue9
 t22:=Tryz.underlying25
 a22:=Tryz.isAgg25
 z22:=Tryz.sizeOf25
 v22:=Tryz.zeroValue25
 t25:=Tryz.underlying119
 a25:=Tryz.isAgg119
 z25:=Tryz.sizeOf119
 v25:=Tryz.zeroValue119
 t39:=Tryz.underlying185
 a39:=Tryz.isAgg185
 z39:=Tryz.sizeOf185
 v39:=Tryz.zeroValue185
 t45:=Tryz.underlying206
 a45:=Tryz.isAgg206
 z45:=Tryz.sizeOf206
 v45:=Tryz.zeroValue206
 t46:=Tryz.underlying207
 a46:=Tryz.isAgg207
 z46:=Tryz.sizeOf207
 v46:=Tryz.zeroValue207
 t50:=Tryz.underlying72
 a50:=Tryz.isAgg72
 z50:=Tryz.sizeOf72
 v50:=Tryz.zeroValue72
 t53:=Tryz.underlying213
 a53:=Tryz.isAgg213
 z53:=Tryz.sizeOf213
 v53:=Tryz.zeroValue213
 t55:=Tryz.underlying215
 a55:=Tryz.isAgg215
 z55:=Tryz.sizeOf215
 v55:=Tryz.zeroValue215
 t66:=Tryz.underlying219
 a66:=Tryz.isAgg219
 z66:=Tryz.sizeOf219
 v66:=Tryz.zeroValue219
 t70:=Tryz.underlying223
 a70:=Tryz.isAgg223
 z70:=Tryz.sizeOf223
 v70:=Tryz.zeroValue223
 t76:=Tryz.underlying231
 a76:=Tryz.isAgg231
 z76:=Tryz.sizeOf231
 v76:=Tryz.zeroValue231
 t77:=Tryz.underlying232
 a77:=Tryz.isAgg232
 z77:=Tryz.sizeOf232
 v77:=Tryz.zeroValue232 }
end Go.Proofs
namespace Go.Ev.Ce
open Go Go.Ev Go.Ev.L Go.Proofs Go.Sort
def rb6 (x y:Int):Int:=if x < y then -1 else if x > y then 1 else 0
def la0 (x y:Pln):Int :=
 if rb6 x.n.x y.n.x=0 then if rb6 x.n.y y.n.y=0 then if rb6 x.n.z y.n.z=0 then rb6 x.b y.b else rb6 x.n.z y.n.z else rb6 x.n.y y.n.y else rb6 x.n.x y.n.x
theorem Kc2 (x y:Int):rb6 x y < 0↔x < y:=by unfold rb6;split<;>(try split)<;>omega
theorem wd0 (x y:Int):rb6 x y=0↔x=y:=by unfold rb6;split<;>(try split)<;>omega
def LtP (x y:Pln):Prop:=x.n.x < y.n.x∨x.n.x=y.n.x∧(x.n.y < y.n.y∨x.n.y=y.n.y∧(x.n.z < y.n.z∨x.n.z=y.n.z∧x.b < y.b))
instance (x y:Pln):Decidable (LtP x y):=by unfold LtP;exact inferInstance
theorem wd1 (x y:Pln):la0 x y < 0↔LtP x y:=by
 have h1:=Kc2 x.n.x y.n.x;have h2:=wd0 x.n.x y.n.x
 have h3:=Kc2 x.n.y y.n.y;have h4:=wd0 x.n.y y.n.y
 have h5:=Kc2 x.n.z y.n.z;have h6:=wd0 x.n.z y.n.z
 have h7:=Kc2 x.b y.b
 unfold la0 LtP
 split
 ·split
  ·split<;>omega
  ·omega
 ·omega
theorem Ya2 (x y:Pln):ltOf la0 x y=decide (LtP x y):=by
 unfold ltOf
 rw[decide_eq_decide]
 exact wd1 x y
theorem bf5:SWO (ltOf la0) where
 irrefl x:=by rw[Ya2];simp[LtP]
 trans x y z h1 h2:=by rw[Ya2,decide_eq_true_eq] at *;unfold LtP at *;omega
 ntrans x y z h1 h2:=by rw[Ya2,decide_eq_false_iff_not] at *;unfold LtP at *;omega
theorem bf6 (x y:Pln) (h1:ltOf la0 x y=false) (h2:ltOf la0 y x=false):x=y:=by
 rw[Ya2,decide_eq_false_iff_not] at *
 unfold LtP at *
 obtain⟨⟨a,b,c⟩,d⟩:=x;obtain⟨⟨a',b',c'⟩,d'⟩:=y
 simp only at *
 have:a=a'∧b=b'∧c=c'∧d=d':=by omega
 obtain⟨rfl,rfl,rfl,rfl⟩:=this
 rfl
theorem Jd8 (x y:Int):La0 x y=some (i (rb6 x y),[]):=by
 unfold La0 rb6
 simp only[nb1,decide_eq_true_eq]
 split<;>(try split)<;>rfl
theorem Fe3 (x y:Int):qa2 x y=rb6 x y:=by unfold qa2;rw[Jd8];rfl
theorem Fe4 (x y:Int):qa3 x y=true:=by unfold qa3;rw[Jd8];rfl
theorem Xc3 (x y:Pln):xa8 x y=some (i (la0 x y),[]):=by
 unfold xa8 la0
 simp only[Fe3,Fe4,nb1,beq_iff_eq,if_true]
 repeat' (first | rfl | split)
theorem bf7 (x y:Pln):Ma7 x y=la0 x y:=by unfold Ma7;rw[Xc3];rfl
theorem bf8 (x y:Pln):Ma8 x y=true:=by unfold Ma8;rw[Xc3];rfl
theorem bf9 (x y:Pln):(gb7 [.agg (tP.row x),.agg (tP.row y)] []).run=some (i (la0 x y),[]):=by
 have:(gb7 [.agg (tP.row x),.agg (tP.row y)] []).run=sel (Ma8 x y) (some (i (Ma7 x y),[])) none:=by kernel_rfl
 rw[this,bf8,bf7]
def xc1 (p:Pln):List Value:=[.int .i64 p.n.x,.int .i64 p.n.y,.int .i64 p.n.z,.int .i64 p.b]
instance:Inhabited Pln:=⟨⟨⟨0,0,0⟩,0⟩⟩
def La4 (l:List Pln):List Pln:=l.mergeSort fun x y=>!ltOf la0 y x
theorem ac9 (l:List Pln):(La4 l).length=l.length:=List.length_mergeSort l
noncomputable def ta8:Sum:=se8 tP 104 50 La4
theorem se9:Ce.sortLay_ren.f 6=103:=by kernel_rfl
theorem md9:Ce.sortLay_ren.t 24=50:=by kernel_rfl
set_option maxRecDepth 100000 in
theorem La5:g9 prog G 103 ta8:=by
 refine Fe2 (enc:=xc1) (cf:=la0) ⟨_,Tryz.func103,by kernel_rfl,of_decide_eq_true (by kernel_rfl)⟩ (by decide) (fun _=>rfl) (fun r h=>Oa5 (n:=4) h) (fun x v hv=>?_) ac9
  (fun blk off size w=>Fe1 Ac2 bf9 (fun _=>rfl) (fun _=>rfl) _ _ _ _ _) (fun blk cap d w hcl hH hb hs=>?_)
 ·simp[xc1] at hv
  rcases hv with rfl | rfl | rfl | rfl<;>rfl
 ·have eg:∀ args w,(callFunc 104 args).run Tryz.prog w=.ok (.enter 104 args) w:=enters_of Tryz.func104 (by kernel_rfl) rfl
  have:=AnyQ.slices_SortFunc Ce.sortLay 4 (by rw[md9];exact Tryz.isAgg50) (by rw[md9];exact Tryz.sizeOf50) xc1 (fun _=>rfl) (fun x v hv=>by simp[xc1] at hv;rcases hv with rfl | rfl | rfl | rfl<;>rfl) la0 bf5 104 #[] blk 0 cap d w eg (hcl 0 d.size) hH hb hs
  rw[se9] at this
  refine this.mono fun e w' ⟨h1,d',n,os,h2,h3,h4⟩=>⟨h1,n,os,?_⟩
  have h5:=sorted_unique_holds bf5 bf6 d d' h2 h3
  rw[h4]
  show _=sortWorldK xc1 4 w blk 0 n (d.toList.mergeSort fun x y=>!ltOf la0 y x).toArray os
  rw[← h5]
end Go.Ev.Ce
section
namespace Go.Ev.Ce
open Go Go.Ev Go.Ev.L Go.Proofs
set_option maxRecDepth 100000
noncomputable def Nb7:List (Nat×Sum):=[]
theorem Kb8:i6 prog G Nb7:=trivial
structure oa1 where
 alt:Nat
 ns0:Nat
 eh0:List (List b7)
noncomputable def Q4 {α:Type} (kk:oa1→α) (x:Pln×List Pln):α:=(sl (Nat.beq (len (o0 (fun k=>(tP).row (gL tP (x.1::x.2) k)) (List.range (List.length x.2+1)))) 0) (kk ⟨1,0,[]⟩) (sl (Nat.beq 0 0&&Nat.ble ((0+(len (o0 (fun k=>(tP).row (gL tP (x.1::x.2) k)) (List.range (List.length x.2+1)))))*32) room) (kk ⟨1,(0+(len (o0 (fun k=>(tP).row (gL tP (x.1::x.2) k)) (List.range (List.length x.2+1))))),(app [] (o0 (fun k=>(tP).row (gL tP (x.1::x.2) k)) (List.range (List.length x.2+1))))⟩) (kk ⟨0,0,[]⟩)))
noncomputable def oa2 (x:Pln×List Pln):oa1:=Q4 (fun r=>r) x
noncomputable def Aa3 (r:oa1):DT (b7×List b8):=(.ite (Nat.beq r.alt 1) (.ret ((.sl 0 0 r.ns0 0),[⟨50,4,r.eh0,true,false,0⟩])) .fail)
theorem Wb2 {α β:Type} (F:α→β) (kk:oa1→α) (x:Pln×List Pln):F (Q4 kk x)=Q4 (fun r=>F (kk r)) x:=by unfold Q4;(repeat' apply k9 (f:=F))<;>rfl
noncomputable def db4:Sum:=S3 (je5 tP) (fun x=>Aa3 (oa2 x))
theorem Nb8:g9 prog G 100 db4:=Gb8 (bd Pe0 Kb8) fun x=>s6 (Eq.trans (b:=Q4 (fun r=>(Aa3 r).run) x) (by kernel_rfl) (Wb2 (fun r=>(Aa3 r).run) (fun r=>r) x).symm)
noncomputable def wd2:List (Nat×Sum):=[(20,ua7),(18,pa5),(100,db4),(99,la5),(103,ta8),(105,va8)]
theorem fd6:i6 prog G wd2:=⟨va3,sa8,Nb8,Ea5,La5,Pa5,trivial⟩
noncomputable def db5 (x:Pln×List Pln):Option (b7×List b8):=let t1:=(ba2 (rt tP (x.1::x.2)));let t2:=(R9 (rt tP (x.1::x.2)));let t3:=(oa2 (hC tP (fun k=>(tP).row (gL tP (x.1::x.2) k)),tC tP (List.length x.2) (fun k=>(tP).row (gL tP (x.1::x.2) k))));let t4:=(E6 ⟨t3.ns0,t3.eh0,(rt tX t2)⟩);let t5:=(T9 ⟨t4.ns0,(app (bL tP (La4 (slR tP t4.eh0 0 t4.ns0))) (e7 t4.eh0 t4.ns0))⟩);(sl (okE tP (x.1::x.2)) (sl (ba3 (rt tP (x.1::x.2))) (sl (!t1) (some ((.v (.slice none 0 0)),[])) (sl (okE tP (x.1::x.2)) (sl (S1 (rt tP (x.1::x.2))) (sl (okL tP (List.length x.2+1) (fun k=>(tP).row (gL tP (x.1::x.2) k))) (sl (Nat.beq t3.alt 1) (sl ((cnE tX t2)&&true) (sl (Nat.beq t4.alt 1) (sl (Bool.and (Nat.ble t4.ns0 room) (Bool.and (Nat.ble t4.ns0 (len t4.eh0)) (okS tP t4.eh0 0 t4.ns0))) (sl (Nat.beq t5.alt 1) (some ((.sl 0 0 t5.ns0 0),[⟨50,4,t5.eh0,true,false,0⟩])) none) none) none) none) none) none) none) none)) none) none)
noncomputable def Wb3 (x:Pln×List Pln):List Pln:=L4 (one (r1L tP)) (db5 x)
noncomputable def Wb4 (x:Pln×List Pln):Bool:=okO (one (r1L tP)) (db5 x)
noncomputable def Ec1:Sum:=S3 (je5 tP) (fun x=>.guard (Wb4 x) (.ret ((one (r1L tP)).enc (Wb3 x),[])))
theorem tc5:g9 prog G 25 Ec1:=Aa9 (bd b25 fd6) (one (r1L tP)) (o:=db5) fun x=>s6 (by kernel_rfl)
noncomputable def Ic4:List (Nat×Sum):=[(81,tc3),(18,pa5),(17,Eb1),(25,Ec1),(26,kc0),(20,ua7),(28,kc1),(22,qc9),(31,tc1),(33,fc1),(15,Jb0)]
theorem Ac5:i6 prog G Ic4:=⟨fd5,sa8,sc4,tc5,Dc9,va3,Ec0,dd1,fd3,Wc9,ec5,trivial⟩
noncomputable def Ea8  : Option (b7×List b8):=let t1:=Kb7;let t2:=(R9 [(⟨(⟨1,0,0⟩:V3),t1.d9⟩:Pln),(⟨(⟨(-1),0,0⟩:V3),t1.R2⟩:Pln),(⟨(⟨0,1,0⟩:V3),t1.R3⟩:Pln),(⟨(⟨0,(-1),0⟩:V3),t1.R4⟩:Pln),(⟨(⟨0,0,1⟩:V3),t1.R5⟩:Pln),(⟨(⟨0,0,(-1)⟩:V3),t1.R6⟩:Pln)]);let t3:=(R9 [(⟨(⟨(-1),0,0⟩:V3),0⟩:Pln),(⟨(⟨0,(-1),0⟩:V3),0⟩:Pln),(⟨(⟨0,0,(-1)⟩:V3),0⟩:Pln),(⟨(⟨2,3,4⟩:V3),1⟩:Pln)]);let t4:=(ta3 (rt tX t2) [(⟨1,1,1,1⟩:Pt),(⟨1,1,0,1⟩:Pt),(⟨1,0,1,1⟩:Pt),(⟨1,0,0,1⟩:Pt),(⟨0,1,1,1⟩:Pt),(⟨0,1,0,1⟩:Pt),(⟨0,0,1,1⟩:Pt),(⟨0,0,0,1⟩:Pt)]);let t5:=(ta3 (rt tX t3) [(⟨0,0,0,1⟩:Pt),(⟨0,0,1,4⟩:Pt),(⟨0,1,0,3⟩:Pt),(⟨1,0,0,2⟩:Pt)]);let t6:=(Wb3 ((⟨(⟨1,0,0⟩:V3),t1.d9⟩:Pln),[(⟨(⟨(-1),0,0⟩:V3),t1.R2⟩:Pln),(⟨(⟨0,1,0⟩:V3),t1.R3⟩:Pln),(⟨(⟨0,(-1),0⟩:V3),t1.R4⟩:Pln),(⟨(⟨0,0,1⟩:V3),t1.R5⟩:Pln),(⟨(⟨0,0,(-1)⟩:V3),t1.R6⟩:Pln),(⟨(⟨1,0,0⟩:V3),t1.d9⟩:Pln),(⟨(⟨1,1,1⟩:V3),3⟩:Pln),(⟨(⟨1,0,0⟩:V3),7⟩:Pln)]));let t7:=(qb8 (rt tP t6) [(⟨(⟨(-1),0,0⟩:V3),t1.R2⟩:Pln),(⟨(⟨0,(-1),0⟩:V3),t1.R4⟩:Pln),(⟨(⟨0,0,(-1)⟩:V3),t1.R6⟩:Pln),(⟨(⟨0,0,1⟩:V3),t1.R5⟩:Pln),(⟨(⟨0,1,0⟩:V3),t1.R3⟩:Pln),(⟨(⟨1,0,0⟩:V3),t1.d9⟩:Pln)]);let t8:=(ba2 []);let t9:=(ba2 [(⟨(⟨1,0,0⟩:V3),t1.d9⟩:Pln),(⟨(⟨(-1),0,0⟩:V3),t1.R2⟩:Pln),(⟨(⟨0,1,0⟩:V3),t1.R3⟩:Pln),(⟨(⟨0,(-1),0⟩:V3),t1.R4⟩:Pln),(⟨(⟨0,0,1⟩:V3),t1.R5⟩:Pln),(⟨(⟨0,0,(-1)⟩:V3),t1.R6⟩:Pln),(⟨(⟨(-1),0,0⟩:V3),(-1)⟩:Pln)]);let t10:=(Oa0 [(⟨(⟨1,0,0⟩:V3),t1.d9⟩:Pln),(⟨(⟨(-1),0,0⟩:V3),t1.R2⟩:Pln),(⟨(⟨0,1,0⟩:V3),t1.R3⟩:Pln),(⟨(⟨0,(-1),0⟩:V3),t1.R4⟩:Pln),(⟨(⟨0,0,1⟩:V3),t1.R5⟩:Pln),(⟨(⟨0,0,(-1)⟩:V3),t1.R6⟩:Pln)] (⟨1,0,0⟩:V3));let t11:=(Oa0 [(⟨(⟨1,0,0⟩:V3),t1.d9⟩:Pln),(⟨(⟨(-1),0,0⟩:V3),t1.R2⟩:Pln),(⟨(⟨0,1,0⟩:V3),t1.R3⟩:Pln),(⟨(⟨0,(-1),0⟩:V3),t1.R4⟩:Pln),(⟨(⟨0,0,1⟩:V3),t1.R5⟩:Pln),(⟨(⟨0,0,(-1)⟩:V3),t1.R6⟩:Pln)] (⟨2,0,0⟩:V3));let t12:=(jb9 [(⟨(⟨(-1),0,0⟩:V3),0⟩:Pln),(⟨(⟨0,(-1),0⟩:V3),0⟩:Pln),(⟨(⟨0,0,(-1)⟩:V3),0⟩:Pln),(⟨(⟨2,3,4⟩:V3),1⟩:Pln)]);let t13:=(Ua6 [(⟨(⟨1,0,0⟩:V3),t1.d9⟩:Pln),(⟨(⟨(-1),0,0⟩:V3),t1.R2⟩:Pln),(⟨(⟨0,1,0⟩:V3),t1.R3⟩:Pln),(⟨(⟨0,(-1),0⟩:V3),t1.R4⟩:Pln),(⟨(⟨0,0,1⟩:V3),t1.R5⟩:Pln),(⟨(⟨0,0,(-1)⟩:V3),t1.R6⟩:Pln)] [(⟨(⟨(-1),0,0⟩:V3),(-1)⟩:Pln)]);let t14:=(Ua6 [(⟨(⟨1,0,0⟩:V3),t1.d9⟩:Pln),(⟨(⟨(-1),0,0⟩:V3),t1.R2⟩:Pln),(⟨(⟨0,1,0⟩:V3),t1.R3⟩:Pln),(⟨(⟨0,(-1),0⟩:V3),t1.R4⟩:Pln),(⟨(⟨0,0,1⟩:V3),t1.R5⟩:Pln),(⟨(⟨0,0,(-1)⟩:V3),t1.R6⟩:Pln)] [(⟨(⟨(-1),(-1),0⟩:V3),(-1)⟩:Pln)]);let t15:=(La2 [(⟨(⟨1,0,0⟩:V3),t1.d9⟩:Pln),(⟨(⟨(-1),0,0⟩:V3),t1.R2⟩:Pln),(⟨(⟨0,1,0⟩:V3),t1.R3⟩:Pln),(⟨(⟨0,(-1),0⟩:V3),t1.R4⟩:Pln),(⟨(⟨0,0,1⟩:V3),t1.R5⟩:Pln),(⟨(⟨0,0,(-1)⟩:V3),t1.R6⟩:Pln)] [(⟨(⟨1,1,1⟩:V3),3⟩:Pln)]);let t16:=(La2 [(⟨(⟨1,0,0⟩:V3),t1.d9⟩:Pln),(⟨(⟨(-1),0,0⟩:V3),t1.R2⟩:Pln),(⟨(⟨0,1,0⟩:V3),t1.R3⟩:Pln),(⟨(⟨0,(-1),0⟩:V3),t1.R4⟩:Pln),(⟨(⟨0,0,1⟩:V3),t1.R5⟩:Pln),(⟨(⟨0,0,(-1)⟩:V3),t1.R6⟩:Pln)] [(⟨(⟨1,1,1⟩:V3),2⟩:Pln)]);let t17:=(Sa5 [(⟨(⟨0,0,0⟩:V3),0⟩:Pln)]);(sl (S1 [(⟨(⟨1,0,0⟩:V3),t1.d9⟩:Pln),(⟨(⟨(-1),0,0⟩:V3),t1.R2⟩:Pln),(⟨(⟨0,1,0⟩:V3),t1.R3⟩:Pln),(⟨(⟨0,(-1),0⟩:V3),t1.R4⟩:Pln),(⟨(⟨0,0,1⟩:V3),t1.R5⟩:Pln),(⟨(⟨0,0,(-1)⟩:V3),t1.R6⟩:Pln)]) (sl (S1 [(⟨(⟨(-1),0,0⟩:V3),0⟩:Pln),(⟨(⟨0,(-1),0⟩:V3),0⟩:Pln),(⟨(⟨0,0,(-1)⟩:V3),0⟩:Pln),(⟨(⟨2,3,4⟩:V3),1⟩:Pln)]) (sl (okE tX t2) (sl (ta4 (rt tX t2) [(⟨1,1,1,1⟩:Pt),(⟨1,1,0,1⟩:Pt),(⟨1,0,1,1⟩:Pt),(⟨1,0,0,1⟩:Pt),(⟨0,1,1,1⟩:Pt),(⟨0,1,0,1⟩:Pt),(⟨0,0,1,1⟩:Pt),(⟨0,0,0,1⟩:Pt)]) (sl (!t4) (some ((b false),[])) (sl (okE tX t3) (sl (ta4 (rt tX t3) [(⟨0,0,0,1⟩:Pt),(⟨0,0,1,4⟩:Pt),(⟨0,1,0,3⟩:Pt),(⟨1,0,0,2⟩:Pt)]) (sl (!t5) (some ((b false),[])) (sl (Wb4 ((⟨(⟨1,0,0⟩:V3),t1.d9⟩:Pln),[(⟨(⟨(-1),0,0⟩:V3),t1.R2⟩:Pln),(⟨(⟨0,1,0⟩:V3),t1.R3⟩:Pln),(⟨(⟨0,(-1),0⟩:V3),t1.R4⟩:Pln),(⟨(⟨0,0,1⟩:V3),t1.R5⟩:Pln),(⟨(⟨0,0,(-1)⟩:V3),t1.R6⟩:Pln),(⟨(⟨1,0,0⟩:V3),t1.d9⟩:Pln),(⟨(⟨1,1,1⟩:V3),3⟩:Pln),(⟨(⟨1,0,0⟩:V3),7⟩:Pln)])) (sl (okE tP t6) (sl (qb9 (rt tP t6) [(⟨(⟨(-1),0,0⟩:V3),t1.R2⟩:Pln),(⟨(⟨0,(-1),0⟩:V3),t1.R4⟩:Pln),(⟨(⟨0,0,(-1)⟩:V3),t1.R6⟩:Pln),(⟨(⟨0,0,1⟩:V3),t1.R5⟩:Pln),(⟨(⟨0,1,0⟩:V3),t1.R3⟩:Pln),(⟨(⟨1,0,0⟩:V3),t1.d9⟩:Pln)]) (sl (!t7) (some ((b false),[])) (sl (ba3 []) (sl (!t8) (some ((b false),[])) (sl (ba3 [(⟨(⟨1,0,0⟩:V3),t1.d9⟩:Pln),(⟨(⟨(-1),0,0⟩:V3),t1.R2⟩:Pln),(⟨(⟨0,1,0⟩:V3),t1.R3⟩:Pln),(⟨(⟨0,(-1),0⟩:V3),t1.R4⟩:Pln),(⟨(⟨0,0,1⟩:V3),t1.R5⟩:Pln),(⟨(⟨0,0,(-1)⟩:V3),t1.R6⟩:Pln),(⟨(⟨(-1),0,0⟩:V3),(-1)⟩:Pln)]) (sl t9 (some ((b false),[])) (sl (Ea6 [(⟨(⟨1,0,0⟩:V3),t1.d9⟩:Pln),(⟨(⟨(-1),0,0⟩:V3),t1.R2⟩:Pln),(⟨(⟨0,1,0⟩:V3),t1.R3⟩:Pln),(⟨(⟨0,(-1),0⟩:V3),t1.R4⟩:Pln),(⟨(⟨0,0,1⟩:V3),t1.R5⟩:Pln),(⟨(⟨0,0,(-1)⟩:V3),t1.R6⟩:Pln)] (⟨1,0,0⟩:V3)) (sl (!t10) (some ((b false),[])) (sl (Ea6 [(⟨(⟨1,0,0⟩:V3),t1.d9⟩:Pln),(⟨(⟨(-1),0,0⟩:V3),t1.R2⟩:Pln),(⟨(⟨0,1,0⟩:V3),t1.R3⟩:Pln),(⟨(⟨0,(-1),0⟩:V3),t1.R4⟩:Pln),(⟨(⟨0,0,1⟩:V3),t1.R5⟩:Pln),(⟨(⟨0,0,(-1)⟩:V3),t1.R6⟩:Pln)] (⟨2,0,0⟩:V3)) (sl t11 (some ((b false),[])) (sl (kb0 [(⟨(⟨(-1),0,0⟩:V3),0⟩:Pln),(⟨(⟨0,(-1),0⟩:V3),0⟩:Pln),(⟨(⟨0,0,(-1)⟩:V3),0⟩:Pln),(⟨(⟨2,3,4⟩:V3),1⟩:Pln)]) (sl (!((t12.1.x==0)&&((t12.1.y==0)&&((t12.1.z==0)&&true)))) (some ((b false),[])) (sl (!((t12.2.1.x==1)&&((t12.2.1.y==1)&&((t12.2.1.z==1)&&true)))) (some ((b false),[])) (sl (!t12.2.2) (some ((b false),[])) (sl (Ua7 [(⟨(⟨1,0,0⟩:V3),t1.d9⟩:Pln),(⟨(⟨(-1),0,0⟩:V3),t1.R2⟩:Pln),(⟨(⟨0,1,0⟩:V3),t1.R3⟩:Pln),(⟨(⟨0,(-1),0⟩:V3),t1.R4⟩:Pln),(⟨(⟨0,0,1⟩:V3),t1.R5⟩:Pln),(⟨(⟨0,0,(-1)⟩:V3),t1.R6⟩:Pln)] [(⟨(⟨(-1),0,0⟩:V3),(-1)⟩:Pln)]) (sl t13 (sl (Ua7 [(⟨(⟨1,0,0⟩:V3),t1.d9⟩:Pln),(⟨(⟨(-1),0,0⟩:V3),t1.R2⟩:Pln),(⟨(⟨0,1,0⟩:V3),t1.R3⟩:Pln),(⟨(⟨0,(-1),0⟩:V3),t1.R4⟩:Pln),(⟨(⟨0,0,1⟩:V3),t1.R5⟩:Pln),(⟨(⟨0,0,(-1)⟩:V3),t1.R6⟩:Pln)] [(⟨(⟨(-1),(-1),0⟩:V3),(-1)⟩:Pln)]) (sl (!t14) (sl (La3 [(⟨(⟨1,0,0⟩:V3),t1.d9⟩:Pln),(⟨(⟨(-1),0,0⟩:V3),t1.R2⟩:Pln),(⟨(⟨0,1,0⟩:V3),t1.R3⟩:Pln),(⟨(⟨0,(-1),0⟩:V3),t1.R4⟩:Pln),(⟨(⟨0,0,1⟩:V3),t1.R5⟩:Pln),(⟨(⟨0,0,(-1)⟩:V3),t1.R6⟩:Pln)] [(⟨(⟨1,1,1⟩:V3),3⟩:Pln)]) (sl t15 (sl (La3 [(⟨(⟨1,0,0⟩:V3),t1.d9⟩:Pln),(⟨(⟨(-1),0,0⟩:V3),t1.R2⟩:Pln),(⟨(⟨0,1,0⟩:V3),t1.R3⟩:Pln),(⟨(⟨0,(-1),0⟩:V3),t1.R4⟩:Pln),(⟨(⟨0,0,1⟩:V3),t1.R5⟩:Pln),(⟨(⟨0,0,(-1)⟩:V3),t1.R6⟩:Pln)] [(⟨(⟨1,1,1⟩:V3),2⟩:Pln)]) (sl (!t16) (sl (Sa6 [(⟨(⟨0,0,0⟩:V3),0⟩:Pln)]) (some ((b (t17==12)),[])) none) (some ((b false),[]))) none) (some ((b false),[]))) none) (some ((b false),[]))) none) (some ((b false),[]))) none)))) none)) none)) none)) none)) none)) none) none) none)) none) none)) none) none) none) none)
noncomputable def Ua9  : Bool:=L4 (one r1B) Ea8
noncomputable def Va0  : Bool:=okO (one r1B) Ea8
noncomputable def Wb5:Sum:=Bd1  (.guard Va0 (.ret ((one r1B).enc Ua9,[])))
theorem Ic5:g9 prog G 13 Wb5:=df3 (bd b13 Ac5) (one r1B) (o:=Ea8) (s6 (by kernel_rfl))
end Go.Ev.Ce
end
namespace Go.Ev.Ce
open Go Go.Ev Go.Ev.L Go.Proofs
noncomputable def onc (X:List Pt) (p:Pln):Nat:=X.countP fun x=>rm p x==0
noncomputable def keep (X:List Pt) (p:Pln):Bool:=!decide ((onc X p:Int) < 3)
theorem Xc4 (p:Pln) (X:List Pt) (hX:X.length≤1000000000):pa9 ⟨p.n.x,p.n.y,p.n.z,p.b,X⟩=⟨1,!keep X p,X⟩:=by
 have h:=Yb8 (step:=ta5 ⟨X,(X.length:Int),X,p.n.x,p.n.y,p.n.z,p.b⟩) (mk:=fun j (n:Nat)=>(⟨(n:Int),(j:Int)⟩:P0)) (f:=fun n x=>if rm p x==0 then n+1 else n) (fin:=1) tX X (fun j n=>n≤j) hX
  (fun j n hj hi=>by
   have hW:W ((n:Int)+1)=((n+1:Nat):Int):=by rw[Ia1 (by omega) (by omega)];omega
   refine⟨?_,by show (if rm p (gL tX X j)==0 then n+1 else n)≤j+1;split<;>omega⟩
   simp only[ta5,oa0,Int.toNat_natCast,td3,hW,p6 hj (show X.length≤4611686018427387904 by omega)]
   rw[btD (n9 hj),bt (f0 hj)]
   cases rm p (gL tX X j)==0<;>rfl)
  (fun n _=>by simp only[ta5,oa0];rw[bfD (Q3 (Nat.lt_irrefl _))]) 0 (Nat.zero_le _) 0 (Nat.le_refl _)
 have h:=h.1
 have e:∀ (l:List Pt) (n:Nat),l.foldl (fun n x=>if rm p x==0 then n+1 else n) n=n+l.countP fun x=>rm p x==0:=by
  intro l
  induction l with
  | nil=>intro n;rfl
  | cons x l ih =>
   intro n
   rw[List.foldl_cons,ih,List.countP_cons]
   split<;>omega
 rw[List.drop_zero,e,Nat.zero_add] at h
 unfold pa9 za6 keep onc
 simp only[m0,m8]
 rw[show (⟨0,0⟩:P0)=⟨((0:Nat):Int),((0:Nat):Int)⟩ from rfl,h]
 show za5.mk 1 (decide _) X=za5.mk 1 (!(!(decide _))) X
 rw[Bool.not_not]
theorem Fe5 (l:List Pln) (X:List Pt) (hl:l.length≤1000000000) (hX:X.length≤1000000000):W7 ⟨l.length,bL tP l,X⟩=⟨1,if l.any (fun p=>!keep X p) then ((l.findIdx (fun p=>!keep X p):Nat):Int) else -1,X⟩:=by
 have h:=ib9 (step:=G6 ⟨l.length,(l.length:Int),bL tP l⟩) (mk:=fun j=>(⟨(j:Int),X⟩:o8)) (c:=fun p=>!keep X p) (u:=1) (fin:=2) tP l hl
  (fun j hj=>by
   simp only[G6,D7,Int.toNat_natCast,m0,m8,sc9 hj,ac8 hj,Xc4 _ _ hX,p6 hj (show l.length≤4611686018427387904 by omega)]
   rw[btD (n9 hj),bt (f0 hj)]
   rfl)
  (by simp only[G6,D7];rw[bfD (Q3 (Nat.lt_irrefl _))]) 0 (Nat.zero_le _)
 rw[List.drop_zero] at h
 unfold W7 E4
 simp only[m0,m8]
 rw[show (⟨0,X⟩:o8)=⟨((0:Nat):Int),X⟩ from rfl,h]
 cases ha:l.any fun p=>!keep X p with
 | false=>rfl
 | true =>
  have hf:l.findIdx (fun p=>!keep X p) < l.length:=by
   rw[List.any_eq_true] at ha
   obtain⟨p,hp,hc⟩:=ha
   exact List.findIdx_lt_length_of_exists ⟨p,hp,hc⟩
  simp only[if_true,Nat.zero_add,Int.toNat_natCast,ac8 hf,Xc4 _ _ hX,m0]
  rfl
theorem tc6 {α:Type} (c:α→Bool):∀ l:List α,(l.take (l.findIdx c)).filter (fun x=>!c x)=l.take (l.findIdx c)
 | []=>rfl
 | x::l=>by
  rw[List.findIdx_cons]
  cases h:c x with
  | true=>rfl
  | false =>
   simp only[cond_false,List.take_succ_cons,List.filter_cons,h,Bool.not_false,if_true]
   rw[tc6 c l]
theorem Td1 {α:Type} (l:List α) (j:Nat) (h:j < l.length):l.take (j+1)=l.take j++[l[j]]:=by rw[List.take_succ_eq_append_getElem h]
theorem Kc3 {α:Type} (t:Ty α) {l:List α} {j:Nat} (h:j < l.length):l.take (j+1)=l.take j++[gL t l j]:=by rw[Td1 l j h,ab3 t h]
theorem Ac6 {α:Type} (t:Ty α) {l r:List α} {j:Nat} (h:l.drop j=r.drop j):gL t l j=gL t r j:=by
 have h1:=rc7 t l j 0
 have h2:=rc7 t r j 0
 rw[Nat.add_zero] at h1 h2
 rw[← h1,← h2,h]
theorem tc7 {α:Type} {l r:List α} {j:Nat} (h:l.drop j=r.drop j) (k:Nat):l.drop (j+k)=r.drop (j+k):=by rw[← List.drop_drop,← List.drop_drop,h]
structure Del (l:List Pln) (f:Pln→Bool) (cur:List Pln) (m j:Nat):Prop where
 len:cur.length=l.length
 t:cur.take m=(l.take j).filter f
 d:cur.drop j=l.drop j
 le:m≤j
 lm:m≤l.length
theorem Jd9 (l : List Pln) (X : List Pt) (hl : l.length ≤ 1000000000) (hX : X.length ≤ 1000000000) (m j : Nat) (cur : List Pln) (hd : Del l (keep X) cur m j) :
  ∃ t s,lp (B1 ⟨l.length⟩) ⟨(m:Int),(j:Int),bL tP cur,X⟩=(t,s)∧(t=1∧∃ m' cur' k,s=⟨((m':Nat):Int),((k:Nat):Int),bL tP cur',X⟩∧Del l (keep X) cur' m' k∧l.length≤k):=by
 refine va6 (step:=B1 ⟨l.length⟩) (mk:=fun j (x:Nat×List Pln)=>(⟨(x.1:Int),(j:Int),bL tP x.2,X⟩:r5)) l.length (fun j x=>Del l (keep X) x.2 x.1 j) (fun t s=>t=1∧∃ m' cur' k,s=⟨((m':Nat):Int),((k:Nat):Int),bL tP cur',X⟩∧Del l (keep X) cur' m' k∧l.length≤k) hl (fun j x hj hx=>?_) (fun j x hj hx=>?_) j (m,cur) hd
 ·obtain⟨m,cur⟩:=x
  obtain⟨h1,h2,h3,h4,h5⟩:=hx
  simp only at h1 h2 h3 h4 h5
  have hjc:j < cur.length:=by omega
  have hmc:m < cur.length:=by omega
  have hg:gL tP cur j=gL tP l j:=Ac6 tP h3
  have hWm:W ((m:Int)+1)=((m+1:Nat):Int):=by rw[Ia1 (by omega) (by omega)];omega
  have hb:Nat.blt m cur.length=true:=by rw[Nat.blt_eq];exact hmc
  have hrow:f7 (bL tP cur) m=tP.row (gL tP cur m):=Y4 tP hmc
  have sp:∀ (v:Pln) (x1 x2 x3 x4:Int),N3 (tP.row v) 0 [i x1,i x2,i x3,i x4]=tP.row ⟨⟨x1,x2,x3⟩,x4⟩:=fun _ _ _ _ _=>rfl
  have rl:∀ v:Pln,Nat.ble (0+4) (len (tP.row v))=true:=fun _=>rfl
  simp only[B1,D8,Int.toNat_natCast,m0,m8,sc9 hjc,ac8 hjc,Xc4 _ _ hX,p6 hj (show l.length≤4611686018427387904 by omega),hWm]
  rw[btD (n9 hj),bt (f0 hj)]
  simp only[Nat.zero_add,hrow,P5,hb,sp,Cb1,f0 (show m < l.length by omega),hg]
  have ht:=Kc3 tP hj
  have hd1:cur.drop (j+1)=l.drop (j+1):=tc7 h3 1
  cases hk:keep X (gL tP l j) with
  | true =>
   refine .nx ⟨(m+1,cur.set m (gL tP l j)),rfl,⟨by rw[List.length_set];exact h1,?_,?_,by omega,by show m+1≤l.length;omega⟩⟩
   ·show (cur.set m (gL tP l j)).take (m+1)=_
    rw[ht,List.filter_append,List.take_succ_eq_append_getElem (by rw[List.length_set];exact hmc),List.getElem_set_self,List.take_set_of_le (Nat.le_refl _),h2,List.filter_cons,hk,if_pos rfl,List.filter_nil]
   ·show (cur.set m (gL tP l j)).drop (j+1)=_
    rw[List.drop_set_of_lt (by omega),hd1]
  | false =>
   refine .nx ⟨(m,cur),rfl,⟨h1,?_,hd1,by omega,h5⟩⟩
   show cur.take m=_
   rw[ht,List.filter_append,h2,List.filter_cons,hk,if_neg (by simp),List.filter_nil,List.append_nil]
 ·obtain⟨m,cur⟩:=x
  refine⟨1,?_,rfl,m,cur,j,rfl,hx,hj⟩
  simp only[B1,D8]
  rw[bfD (by omega)]
theorem Yd4 (l:List Pln) (n:Nat):F7 (bL tP l) n=bL tP (l.take n):=by unfold bL;rw[F8,n8,n8,List.map_take]
theorem wd3 (l:List Pln) (n:Nat):e7 (bL tP l) n=bL tP (l.drop n):=by unfold bL;rw[F9,n8,n8,List.map_drop]
theorem Yd5 (n:Nat):List.replicate n [i 0,i 0,i 0,i 0]=bL tP (List.replicate n ⟨⟨0,0,0⟩,0⟩):=by unfold bL;rw[n8,List.map_replicate];rfl
theorem nd0 (l : List Pln) (X : List Pt) (hl : l.length ≤ 1000000000) (hX : X.length ≤ 1000000000) :
  ∃ m r,E6 ⟨l.length,bL tP l,X⟩=⟨1,m,bL tP r,X⟩∧m≤r.length∧r.take m=l.filter (keep X)∧r.length=l.length:=by
 unfold E6 E5
 simp only[m0,m8,Fe5 l X hl hX]
 cases ha:l.any fun p=>!keep X p with
 | false =>
  refine⟨l.length,l,rfl,Nat.le_refl _,?_,rfl⟩
  rw[List.take_length]
  symm
  rw[List.filter_eq_self]
  intro p hp
  have:=List.any_eq_false.1 ha p hp
  simpa using this
 | true =>
  have hf:l.findIdx (fun p=>!keep X p) < l.length:=by
   rw[List.any_eq_true] at ha
   obtain⟨p,hp,hc⟩:=ha
   exact List.findIdx_lt_length_of_exists ⟨p,hp,hc⟩
  have hk:keep X (gL tP l (l.findIdx fun p=>!keep X p))=false:=by
   have:=List.findIdx_getElem (xs:=l) (p:=fun p=>!keep X p) (w:=hf)
   rw[ab3 tP hf]
   simpa using this
  have ht:=tc6 (fun p=>!keep X p) l
  simp only[Bool.not_not] at ht
  generalize hF:l.findIdx (fun p=>!keep X p)=F at *
  have hW:W ((F:Int)+1)=((F+1:Nat):Int):=p6 hf (by omega)
  have hne:((F:Int)==-1)=false:=by rw[beq_eq_false_iff_ne];omega
  obtain⟨t,s,e1,rfl,m,cur,k,e2,e3,e4⟩:=Jd9 l X hl hX F (F+1) l ⟨rfl,by rw[Kc3 tP hf,List.filter_append,ht,List.filter_cons,hk,if_neg (by simp),List.filter_nil,List.append_nil],rfl,by omega,by omega⟩
  have hm:m≤l.length:=e3.lm
  have hin:inB (m:Int) (l.length+1)=true:=f0 (by omega)
  have hfin:cur.take m=l.filter (keep X):=by rw[e3.t,List.take_of_length_le e4]
  simp only[if_true,hW,hne,e1,e2,Int.toNat_natCast,hin,Nat.zero_add,Nat.sub_zero]
  refine⟨m,cur.take m++(List.replicate (l.length - m) ⟨⟨0,0,0⟩,0⟩++cur.drop (m+(l.length - m))),?_,?_,?_,?_⟩
  ·rw[Yd4,Yd5,wd3,Na3,Na3]
   rfl
  ·rw[List.length_append,List.length_append,List.length_take,List.length_replicate,e3.len];omega
  ·rw[List.take_append_of_le_length (by rw[List.length_take,e3.len];omega),List.take_take,Nat.min_self,hfin]
  ·rw[List.length_append,List.length_append,List.length_take,List.length_replicate,List.length_drop,e3.len];omega
def eqP (x y:Pln):Bool:=x.n.x==y.n.x&&(x.n.y==y.n.y&&(x.n.z==y.n.z&&(x.b==y.b&&true)))
theorem xb2 (x y:Pln):eqP x y=true↔x=y:=by
 unfold eqP
 simp only[Bool.and_true,Bool.and_eq_true,beq_iff_eq]
 refine⟨fun⟨h1,h2,h3,h4⟩=>?_,fun h=>by subst h;exact⟨rfl,rfl,rfl,rfl⟩⟩
 obtain⟨⟨x1,x2,x3⟩,x4⟩:=x
 obtain⟨⟨y1,y2,y3⟩,y4⟩:=y
 simp only at h1 h2 h3 h4
 subst h1 h2 h3 h4
 rfl
def ddF:Pln→List Pln→List Pln
 | _,[]=>[]
 | a,x::l=>if eqP x a then ddF x l else x::ddF x l
def dd:List Pln→List Pln
 | []=>[]
 | x::l=>x::ddF x l
theorem Yd6:∀ (a:Pln) (l:List Pln),(ddF a l).length≤l.length
 | _,[]=>Nat.le_refl _
 | a,x::l=>by
  have:=Yd6 x l
  unfold ddF
  split<;>simp only[List.length_cons]<;>omega
structure Cmp (l:List Pln) (n:Nat) (cur:List Pln) (m j:Nat) (R:List Pln):Prop where
 len:cur.length=l.length
 t:cur.take m++ddF (gL tP l (j - 1)) ((l.take n).drop j)=R
 d:cur.drop (j - 1)=l.drop (j - 1)
 le:m+1≤j
theorem wd4 (l : List Pln) (n o : Nat) (hn : n ≤ l.length) (hl : l.length ≤ 1000000000) (ho : o < n) (m : Nat) (cur : List Pln) (R : List Pln) (hd : Cmp l n cur m (o + 1) R) :
  ∃ t s,lp (r4 ⟨n,0+o,n - o⟩) ⟨(m:Int),((1:Nat):Int),bL tP cur⟩=(t,s)∧(t=1∧∃ m' cur' k,s=⟨((m':Nat):Int),k,bL tP cur'⟩∧cur'.length=l.length∧cur'.take m'=R∧m'≤n):=by
 refine va6 (step:=r4 ⟨n,0+o,n - o⟩) (mk:=fun j (x:Nat×List Pln)=>(⟨(x.1:Int),(j:Int),bL tP x.2⟩:p5)) (n - o) (fun j x=>Cmp l n x.2 x.1 (o+j) R∧1≤j∧x.1≤n) (fun t s=>t=1∧∃ m' cur' k,s=⟨((m':Nat):Int),k,bL tP cur'⟩∧cur'.length=l.length∧cur'.take m'=R∧m'≤n) (by omega) (fun j x hj hx=>?_) (fun j x hj hx=>?_) 1 (m,cur) ⟨hd,Nat.le_refl _,by have:=hd.le;show m≤n;omega⟩
 ·obtain⟨m,cur⟩:=x
  obtain⟨⟨h1,h2,h3,h4⟩,hj1,hmn⟩:=hx
  simp only at h1 h2 h3 h4 hmn
  have hoj:o+j < n:=by omega
  have hjc:o+j < cur.length:=by omega
  have hjc':o+(j - 1) < cur.length:=by omega
  have hmc:m < cur.length:=by omega
  have hg':gL tP cur (o+(j - 1))=gL tP l (o+j - 1):=by rw[show o+(j - 1)=o+j - 1 by omega];exact Ac6 tP h3
  have hd1:cur.drop (o+j)=l.drop (o+j):=by have:=tc7 h3 1;rw[show o+j - 1+1=o+j by omega] at this;exact this
  have hg:gL tP cur (o+j)=gL tP l (o+j):=Ac6 tP hd1
  have hWm:W ((m:Int)+1)=((m+1:Nat):Int):=by rw[Ia1 (by omega) (by omega)];omega
  have hWj:W ((j:Int) - 1)=((j - 1:Nat):Int):=by rw[Ia1 (by omega) (by omega)];omega
  have hb:Nat.blt m cur.length=true:=by rw[Nat.blt_eq];exact hmc
  have hrow:f7 (bL tP cur) m=tP.row (gL tP cur m):=Y4 tP hmc
  have sp:∀ (v:Pln) (x1 x2 x3 x4:Int),N3 (tP.row v) 0 [i x1,i x2,i x3,i x4]=tP.row ⟨⟨x1,x2,x3⟩,x4⟩:=fun _ _ _ _ _=>rfl
  have rl:∀ v:Pln,Nat.ble 4 (len (tP.row v))=true:=fun _=>rfl
  simp only[r4,L0,Int.toNat_natCast,Nat.zero_add,hWj,qd5 tP hjc,qd5 tP hjc',qd4 tP hjc,qd4 tP hjc',p6 hj (show n - o≤4611686018427387904 by omega),hWm,hg,hg',hrow,P5,hb,sp,rl,Cb1,f0 (show m < n by omega)]
  rw[btD (n9 hj)]
  simp only[f0 hj,f0 (show j - 1 < n - o by omega),q9,Bool.and_self]
  rw[show ((gL tP l (o+j)).n.x==(gL tP l (o+j - 1)).n.x&&((gL tP l (o+j)).n.y==(gL tP l (o+j - 1)).n.y&&((gL tP l (o+j)).n.z==(gL tP l (o+j - 1)).n.z&&((gL tP l (o+j)).b==(gL tP l (o+j - 1)).b&&true))))=eqP (gL tP l (o+j)) (gL tP l (o+j - 1)) from rfl]
  have hcons:(l.take n).drop (o+j)=gL tP l (o+j)::(l.take n).drop (o+(j+1)):=by
   rw[List.drop_eq_getElem_cons (by rw[List.length_take];omega),List.getElem_take,ab3 tP (by omega)]
   rfl
  rw[hcons] at h2
  have hlast:o+(j+1) - 1=o+j:=by omega
  unfold ddF at h2
  cases he:eqP (gL tP l (o+j)) (gL tP l (o+j - 1)) with
  | true =>
   rw[he] at h2
   simp only[if_true] at h2
   refine .nx ⟨(m,cur),rfl,⟨⟨h1,?_,?_,by show m+1≤o+(j+1);omega⟩,by omega,hmn⟩⟩
   ·rw[hlast];exact h2
   ·rw[hlast];exact hd1
  | false =>
   rw[he] at h2
   simp only[Bool.false_eq_true,if_false] at h2
   refine .nx ⟨(m+1,cur.set m (gL tP l (o+j))),rfl,⟨⟨by rw[List.length_set];exact h1,?_,?_,by show m+1+1≤o+(j+1);omega⟩,by omega,by show m+1≤n;omega⟩⟩
   ·rw[hlast]
    show (cur.set m (gL tP l (o+j))).take (m+1)++_=R
    rw[List.take_succ_eq_append_getElem (by rw[List.length_set];exact hmc),List.getElem_set_self,List.take_set_of_le (Nat.le_refl _),List.append_assoc]
    exact h2
   ·rw[hlast]
    show (cur.set m (gL tP l (o+j))).drop (o+j)=_
    rw[List.drop_set_of_lt (by omega),hd1]
 ·obtain⟨m,cur⟩:=x
  obtain⟨⟨h1,h2,h3,h4⟩,hj1,hmn⟩:=hx
  simp only at h1 h2 h3 h4 hmn
  refine⟨1,?_,rfl,m,cur,_,rfl,h1,?_,hmn⟩
  ·simp only[r4,L0]
   rw[bfD (by omega)]
  ·rw[List.drop_eq_nil_of_le (by rw[List.length_take];omega)] at h2
   unfold ddF at h2
   rw[List.append_nil] at h2
   exact h2
theorem Xc5 (l : List Pln) (n : Nat) (hn : n ≤ l.length) (hl : l.length ≤ 1000000000) :
  ∃ m r,T9 ⟨n,bL tP l⟩=⟨1,m,bL tP r⟩∧m≤r.length∧r.take m=dd (l.take n):=by
 unfold T9 M0
 simp only
 by_cases h2:(n:Int) < 2
 ·rw[btD h2]
  refine⟨n,l,rfl,hn,?_⟩
  have:n=0∨n=1:=by omega
  rcases this with rfl | rfl
  ·rfl
  ·cases l with
   | nil=>rfl
   | cons x l=>rfl
 ·rw[bfD h2]
  have h1n:1≤n:=by omega
  have hI : ∀ j, j < n → 1 ≤ j → l.take j ++ ddF (gL tP l (j - 1)) ((l.take n).drop j) = dd (l.take n) →
    (eqP (gL tP l j) (gL tP l (j - 1))=true→Cmp l n l j (j+1) (dd (l.take n)))∧(eqP (gL tP l j) (gL tP l (j - 1))=false→l.take (j+1)++ddF (gL tP l (j+1 - 1)) ((l.take n).drop (j+1))=dd (l.take n)):=by
   intro j hj hj1 hR
   have hcons:(l.take n).drop j=gL tP l j::(l.take n).drop (j+1):=by
    rw[List.drop_eq_getElem_cons (by rw[List.length_take];omega),List.getElem_take,ab3 tP (by omega)]
   rw[hcons] at hR
   unfold ddF at hR
   constructor
   ·intro he
    rw[he] at hR
    simp only[if_true] at hR
    exact⟨rfl,hR,rfl,Nat.le_refl _⟩
   ·intro he
    rw[he] at hR
    simp only[Bool.false_eq_true,if_false] at hR
    rw[Kc3 tP (show j < l.length by omega),List.append_assoc]
    exact hR
  have inner:∀ k,k < n→1≤k→Cmp l n l k (k+1) (dd (l.take n))→∃ m' cur' k',lp (r4 ⟨n,0+k,n - k⟩) ⟨(k:Int),1,bL tP l⟩=(1,⟨((m':Nat):Int),k',bL tP cur'⟩)∧cur'.length=l.length∧cur'.take m'=dd (l.take n)∧m'≤n:=by
   intro k hk hk1 hc
   obtain⟨t,s,e1,rfl,m',cur',k',rfl,e2,e3,e4⟩:=wd4 l n k hn hl hk k l _ hc
   exact⟨m',cur',k',e1,e2,e3,e4⟩
  have key:=va6 (step:=M8 ⟨n,bL tP l⟩) (mk:=fun j (_:Unit)=>(⟨(j:Int)⟩:r8)) n (fun j _=>1≤j∧j≤n∧l.take j++ddF (gL tP l (j - 1)) ((l.take n).drop j)=dd (l.take n))
   (fun t s=>(t=1∧∃ k:Nat,s=⟨(k:Int)⟩∧k < n∧1≤k∧Cmp l n l k (k+1) (dd (l.take n)))∨(t=2∧l.take n=dd (l.take n))) (by omega) (fun j x hj hx=>?_) (fun j x hj hx=>?_) 1 () ⟨Nat.le_refl _,h1n,by
    cases l with
    | nil=>simp only[List.length_nil] at hn;omega
    | cons x l =>
     cases n with
     | zero=>omega
     | succ n=>rfl⟩
  ·obtain⟨t,s,e1,e2⟩:=key
   rw[show (⟨1⟩:r8)=⟨((1:Nat):Int)⟩ from rfl,e1]
   rcases e2 with⟨rfl,k,rfl,hk,hk1,hc⟩ | ⟨rfl,he⟩
   ·obtain⟨m',cur',k',e2,e3,e4,e5⟩:=inner k hk hk1 hc
    simp only[Int.toNat_natCast,e2]
    simp only[Nat.zero_add,Nat.sub_zero]
    refine⟨m',cur'.take m'++(List.replicate (n - m') ⟨⟨0,0,0⟩,0⟩++cur'.drop (m'+(n - m'))),?_,?_,?_⟩
    ·rw[Yd4,Yd5,wd3,Na3,Na3]
     rfl
    ·rw[List.length_append,List.length_take,e3];omega
    ·rw[List.take_append_of_le_length (by rw[List.length_take,e3];omega),List.take_take,Nat.min_self,e4]
   ·exact⟨n,l,rfl,hn,he⟩
  ·obtain⟨hj1,hjn,hR⟩:=hx
   obtain⟨i1,i2⟩:=hI j hj hj1 hR
   have hWj:W ((j:Int) - 1)=((j - 1:Nat):Int):=by rw[Ia1 (by omega) (by omega)];omega
   have hjl:j < l.length:=by omega
   have hjl':j - 1 < l.length:=by omega
   simp only[M8,L1,Int.toNat_natCast,hWj,sc9 hjl,sc9 hjl',ac8 hjl,ac8 hjl',p6 hj (show n≤4611686018427387904 by omega)]
   rw[btD (n9 hj),bt (f0 hj),bt (f0 (show j - 1 < n by omega)),bt (f0 (show j < n+1 by omega))]
   simp only[q9]
   rw[show ((gL tP l j).n.x==(gL tP l (j - 1)).n.x&&((gL tP l j).n.y==(gL tP l (j - 1)).n.y&&((gL tP l j).n.z==(gL tP l (j - 1)).n.z&&((gL tP l j).b==(gL tP l (j - 1)).b&&true))))=eqP (gL tP l j) (gL tP l (j - 1)) from rfl]
   cases he:eqP (gL tP l j) (gL tP l (j - 1)) with
   | false=>exact .nx ⟨(),rfl,by omega,by omega,i2 he⟩
   | true =>
    obtain⟨m',cur',k',e2,e3,e4,e5⟩:=inner j hj hj1 (i1 he)
    rw[e2]
    simp only[f0 (show m' < n+1 by omega)]
    exact .ex (.inl ⟨rfl,j,rfl,hj,hj1,i1 he⟩)
  ·obtain⟨hj1,hjn,hR⟩:=hx
   refine⟨2,?_,.inr ⟨rfl,?_⟩⟩
   ·simp only[M8,L1]
    rw[bfD (by omega)]
   ·have:j=n:=by omega
    subst this
    rw[List.drop_eq_nil_of_le (by rw[List.length_take];omega)] at hR
    unfold ddF at hR
    rw[List.append_nil] at hR
    exact hR
theorem te0 (l:List Pln) (n:Nat) (hn:n≤l.length):slR tP (bL tP l) 0 n=l.take n:=Oc3 tP (by rw[List.length_take];omega) fun k hk=>by
 rw[Nat.zero_add,Y4 tP (by omega)]
 congr 1
 simp[gL,List.getD_eq_getElem?_getD,List.getElem?_take,hk]
theorem te1 (l:List Pln) (n:Nat) (hn:n≤l.length):okS tP (bL tP l) 0 n=true:=Gb9 tP (f:=fun k=>gL tP l k) fun k hk=>by rw[Nat.zero_add,Y4 tP (by omega)]
noncomputable def lean (c:List Pln):List Pln:=if ful c then dd (La4 (c.filter (keep (pts c)))) else []
theorem Yd7 (p:Pln) (c:List Pln) (hc:c.length≤1000000):Rd (one (r1L tP)) (db5 (p,c)) (fun r=>r=lean (p::c)):=by
 have hl:(p::c).length≤1000000000:=by simp only[List.length_cons];omega
 have hX:=sc5 (p::c)
 unfold db5 lean
 simp only[m0,K8,m8,Ue8,Ue9,Ub6 hl,Ub7 hl,pb8 hl,pb9 hl]
 cases hf:ful (p::c) with
 | false=>exact⟨_,[],rfl,rfl,rfl⟩
 | true =>
  have ec:o0 (fun k=>tP.row (gL tP (p::c) k)) (List.range (c.length+1))=bL tP (p::c):=nb2 tP (p::c)
  have hcl:oa2 (p,c)=⟨1,(p::c).length,bL tP (p::c)⟩:=by
   unfold oa2 Q4
   simp only[ec,P5]
   have z:Nat.beq (p::c).length 0=false:=rfl
   have r:Nat.ble ((0+(p::c).length)*32) room=true:=fa1 (by simp only[List.length_cons];omega)
   rw[z,r,Nat.zero_add]
   rfl
  obtain⟨m,r,e1,e2,e3,e4⟩:=nd0 (p::c) (pts (p::c)) hl (by omega)
  have hm:m≤(p::c).length:=by
   have h1:=congrArg List.length e3
   have h2:=List.length_filter_le (keep (pts (p::c))) (p::c)
   rw[List.length_take] at h1
   omega
  have hs:(La4 (r.take m)).length=m:=by rw[ac9,List.length_take];omega
  have hrows:app (bL tP (La4 (r.take m))) (e7 (bL tP r) m)=bL tP (La4 (r.take m)++r.drop m):=by rw[wd3,Na3]
  have hok:okL tP (c.length+1) (fun k=>tP.row (gL tP (p::c) k))=true:=Gb9 tP (f:=fun k=>gL tP (p::c) k) fun _ _=>rfl
  simp only[hcl,e1,te0 r m e2,te1 r m e2,hrows,hok]
  obtain⟨m2,r2,k1,k2,k3⟩:=Xc5 (La4 (r.take m)++r.drop m) m (by rw[List.length_append,hs];omega) (by rw[List.length_append,hs,List.length_drop,e4];omega)
  rw[k1,P5]
  have q1:Nat.ble m room=true:=by rw[Nat.ble_eq];unfold room;simp only[List.length_cons] at hm;omega
  have q2:Nat.ble m r.length=true:=by rw[Nat.ble_eq];exact e2
  rw[q1,q2]
  have hfin:r2.take m2=dd (La4 ((p::c).filter (keep (pts (p::c))))):=by
   rw[k3,List.take_append_of_le_length (by rw[hs];omega),List.take_of_length_le (by rw[hs];omega),e3]
  exact Sd8 k2 rfl hfin
theorem te2 (p:Pln) (c:List Pln) (hc:c.length≤1000000):Wb3 (p,c)=lean (p::c):=(Yd7 p c hc).p
theorem te3 (p:Pln) (c:List Pln) (hc:c.length≤1000000):Wb4 (p,c)=true:=(Yd7 p c hc).g
end Go.Ev.Ce
namespace Go.Ev.Ce
open Go Go.Ev Go.Ev.L Go.Proofs Go.Sort
theorem kc2 (l:List Pln):List.Perm (La4 l) l:=List.mergeSort_perm l _
theorem ge2 (x y z:Pln) (h1:(!ltOf la0 y x)=true) (h2:(!ltOf la0 z y)=true):(!ltOf la0 z x)=true:=by
 simp only[Bool.not_eq_true',Ya2,decide_eq_false_iff_not] at *
 unfold LtP at *
 omega
theorem ge3 (x y:Pln):((!ltOf la0 y x)||!ltOf la0 x y)=true:=by
 simp only[Bool.or_eq_true,Bool.not_eq_true',Ya2,decide_eq_false_iff_not]
 unfold LtP
 omega
theorem tc8 (l:List Pln):(La4 l).Pairwise fun x y=>(!ltOf la0 y x)=true:=List.pairwise_mergeSort ge2 ge3 l
theorem wd5 {l r:List Pln} (hp:List.Perm r l) (hs:r.Pairwise fun x y=>(!ltOf la0 y x)=true):La4 l=r :=
 List.Perm.eq_of_pairwise (fun x y _ _ h1 h2=>bf6 x y (by simpa using h2) (by simpa using h1)) (tc8 l) hs ((kc2 l).trans hp.symm)
instance:DecidableEq Pln:=fun x y=>decidable_of_iff _ (xb2 x y)
def U6:List Pln:=[⟨⟨1,0,0⟩,1⟩,⟨⟨-1,0,0⟩,0⟩,⟨⟨0,1,0⟩,1⟩,⟨⟨0,-1,0⟩,0⟩,⟨⟨0,0,1⟩,1⟩,⟨⟨0,0,-1⟩,0⟩]
def U8:List Pln:=[⟨⟨-1,0,0⟩,0⟩,⟨⟨0,1,0⟩,1⟩,⟨⟨0,-1,0⟩,0⟩,⟨⟨0,0,1⟩,1⟩,⟨⟨0,0,-1⟩,0⟩,⟨⟨1,0,0⟩,1⟩,⟨⟨1,1,1⟩,3⟩,⟨⟨1,0,0⟩,7⟩]
def C4:List Pln:=[⟨⟨-1,0,0⟩,0⟩,⟨⟨0,-1,0⟩,0⟩,⟨⟨0,0,-1⟩,0⟩,⟨⟨2,3,4⟩,1⟩]
def U7:List Pln:=[⟨⟨1,0,0⟩,1⟩,⟨⟨-1,0,0⟩,0⟩,⟨⟨0,1,0⟩,1⟩,⟨⟨0,-1,0⟩,0⟩,⟨⟨0,0,1⟩,1⟩,⟨⟨0,0,-1⟩,0⟩,⟨⟨-1,0,0⟩,-1⟩]
def LU:List Pln:=[⟨⟨-1,0,0⟩,0⟩,⟨⟨0,-1,0⟩,0⟩,⟨⟨0,0,-1⟩,0⟩,⟨⟨0,0,1⟩,1⟩,⟨⟨0,1,0⟩,1⟩,⟨⟨1,0,0⟩,1⟩]
def PU:List Pt:=[⟨1,1,1,1⟩,⟨1,1,0,1⟩,⟨1,0,1,1⟩,⟨1,0,0,1⟩,⟨0,1,1,1⟩,⟨0,1,0,1⟩,⟨0,0,1,1⟩,⟨0,0,0,1⟩]
def PC:List Pt:=[⟨0,0,0,1⟩,⟨0,0,1,4⟩,⟨0,1,0,3⟩,⟨1,0,0,2⟩]
theorem Re2:pts U6=PU:=by kernel_rfl
theorem Re3:pts C4=PC:=by kernel_rfl
theorem wd6:ful []=true:=by kernel_rfl
theorem Re4:ful U7=false:=by kernel_rfl
theorem Re5:has U6 ⟨1,0,0⟩=true:=by kernel_rfl
theorem Re6:has U6 ⟨2,0,0⟩=false:=by kernel_rfl
theorem cf0:bnd C4=(⟨0,0,0⟩,⟨1,1,1⟩,true):=by kernel_rfl
theorem cf1:apart U6 [⟨⟨-1,0,0⟩,-1⟩]=true:=by kernel_rfl
theorem cf2:apart U6 [⟨⟨-1,-1,0⟩,-1⟩]=false:=by kernel_rfl
theorem cf3:ge1 U6 [⟨⟨1,1,1⟩,3⟩]=true:=by kernel_rfl
theorem cf4:ge1 U6 [⟨⟨1,1,1⟩,2⟩]=false:=by kernel_rfl
theorem cf5:chk [⟨⟨0,0,0⟩,0⟩]=12:=by kernel_rfl
theorem cf6:(⟨⟨1,0,0⟩,1⟩::U8).filter (keep (pts (⟨⟨1,0,0⟩,1⟩::U8)))=[⟨⟨1,0,0⟩,1⟩,⟨⟨-1,0,0⟩,0⟩,⟨⟨0,1,0⟩,1⟩,⟨⟨0,-1,0⟩,0⟩,⟨⟨0,0,1⟩,1⟩,⟨⟨0,0,-1⟩,0⟩,⟨⟨1,0,0⟩,1⟩]:=by kernel_rfl
theorem Re7:ful (⟨⟨1,0,0⟩,1⟩::U8)=true:=by kernel_rfl
theorem Re8:lean (⟨⟨1,0,0⟩,1⟩::U8)=LU:=by
 unfold lean
 rw[Re7,if_pos rfl,cf6,wd5 (r:=[⟨⟨-1,0,0⟩,0⟩,⟨⟨0,-1,0⟩,0⟩,⟨⟨0,0,-1⟩,0⟩,⟨⟨0,0,1⟩,1⟩,⟨⟨0,1,0⟩,1⟩,⟨⟨1,0,0⟩,1⟩,⟨⟨1,0,0⟩,1⟩])]
 ·rfl
 ·exact List.isPerm_iff.1 (by kernel_rfl)
 ·exact of_decide_eq_true (by kernel_rfl)
theorem Fe6:Kb7=⟨1,0,1,0,1,0⟩:=by kernel_rfl
theorem nd1:Ea8=some (b true,[]):=by
 have le:∀ {c:List Pln},c.length≤100→c.length≤1000000000:=fun h=>by omega
 have le':∀ {c:List Pln},c.length≤100→c.length≤100000000:=fun h=>by omega
 have u:U6.length≤100:=by decide
 have u7:U7.length≤100:=by decide
 have u8:U8.length≤1000000:=by decide
 have c4:C4.length≤100:=by decide
 have n0:([]:List Pln).length≤100:=by decide
 have o1:∀ p:Pln,[p].length≤100:=fun _=>(by decide:1≤100)
 unfold Ea8
 rw[Fe6]
 simp only[m0,K8]
 rw[show ([⟨⟨1,0,0⟩,1⟩,⟨⟨-1,0,0⟩,0⟩,⟨⟨0,1,0⟩,1⟩,⟨⟨0,-1,0⟩,0⟩,⟨⟨0,0,1⟩,1⟩,⟨⟨0,0,-1⟩,0⟩,⟨⟨-1,0,0⟩,-1⟩]:List Pln)=U7 from rfl,
  show ([⟨⟨-1,0,0⟩,0⟩,⟨⟨0,1,0⟩,1⟩,⟨⟨0,-1,0⟩,0⟩,⟨⟨0,0,1⟩,1⟩,⟨⟨0,0,-1⟩,0⟩,⟨⟨1,0,0⟩,1⟩,⟨⟨1,1,1⟩,3⟩,⟨⟨1,0,0⟩,7⟩]:List Pln)=U8 from rfl,
  show ([⟨⟨1,0,0⟩,1⟩,⟨⟨-1,0,0⟩,0⟩,⟨⟨0,1,0⟩,1⟩,⟨⟨0,-1,0⟩,0⟩,⟨⟨0,0,1⟩,1⟩,⟨⟨0,0,-1⟩,0⟩]:List Pln)=U6 from rfl,
  show ([⟨⟨-1,0,0⟩,0⟩,⟨⟨0,-1,0⟩,0⟩,⟨⟨0,0,-1⟩,0⟩,⟨⟨2,3,4⟩,1⟩]:List Pln)=C4 from rfl,
  show ([⟨⟨-1,0,0⟩,0⟩,⟨⟨0,-1,0⟩,0⟩,⟨⟨0,0,-1⟩,0⟩,⟨⟨0,0,1⟩,1⟩,⟨⟨0,1,0⟩,1⟩,⟨⟨1,0,0⟩,1⟩]:List Pln)=LU from rfl]
 simp only[pb8 (le u),pb9 (le u),pb8 (le c4),pb9 (le c4),Re2,Re3,te2 _ U8 u8,te3 _ U8 u8,Re8,Ub6 (le n0),Ub7 (le n0),wd6,Ub6 (le u7),Ub7 (le u7),Re4,
  se3 (le u),se4 (le u),Re5,Re6,De4 (le c4),De5 (le c4),cf0,Ee9 (le' u) (le' (o1 _)),Fe0 (le' u) (le' (o1 _)),cf1,cf2,se6 (le u) (le (o1 _)),se7 (le u) (le (o1 _)),cf3,cf4,
  Wd7 _ (le (o1 _)),Wd8 _ (le (o1 _)),cf5]
 rw[show ([⟨1,1,1,1⟩,⟨1,1,0,1⟩,⟨1,0,1,1⟩,⟨1,0,0,1⟩,⟨0,1,1,1⟩,⟨0,1,0,1⟩,⟨0,0,1,1⟩,⟨0,0,0,1⟩]:List Pt)=PU from rfl,
  show ([⟨0,0,0,1⟩,⟨0,0,1,4⟩,⟨0,1,0,3⟩,⟨1,0,0,2⟩]:List Pt)=PC from rfl]
 simp only[sc7 PU (by decide),sc8 PU (by decide),sc7 PC (by decide),sc8 PC (by decide),qe2 LU (by decide),qe3 LU (by decide)]
 rfl
theorem te4:Ua9=true:=by unfold Ua9;rw[nd1];rfl
theorem te5:Va0=true:=by unfold Va0;rw[nd1];rfl
end Go.Ev.Ce
