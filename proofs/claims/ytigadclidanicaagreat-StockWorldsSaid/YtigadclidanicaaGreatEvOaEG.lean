/- Own work. -/
import Derived.Test.YtigadclidanicaaGreatEvOaDH
set_option linter.all false
noncomputable section
def Qia:=@List.drop_zero
def Qib:=@List.drop_eq_getElem_cons
def Qic:=@List.length_take
def Qid:=@Nat.lt_irrefl
def Qie:=@List.length_drop
def Qif:=@List.getElem_mem
def Qig:=@List.not_all_eq_any_not
def Qih:=@List.take_succ_eq_append_getElem
def Qii:=@Bool.and_true
def Qij:=@List.drop_eq_nil_of_le
def Qik:=@List.take_append_of_le_length
def Qil:=@Nat.gcd_pos_of_pos_right
def Qim:=@List.append_assoc
def Qin:=@List.findIdx_lt_length_of_exists
def Qio:=@List.filter_cons
def Qip:=@Nat.beq_refl
def Qiq:=@List.mem_append
def Qir:=@List.length_set
def Qis:=@Bool.not_false
def Qit:=@Bool.false_eq_true
def Qiu:=@List.filter_append
def Qiv:=@Nat.gcd_zero_left
def Qiw:=@Int.ofNat_lt
def Qix:=@Nat.gcd_le_right
def Qiy:=@List.not_mem_nil
def Qiz:=@Bool.not_eq_true
def Qiaa:=@List.any_eq_true
def Qiab:=@List.take_of_length_le
def Qiac:=@List.drop_drop
def Qiad:=@List.getElem_set_self
def Qiae:=@Nat.ble_eq
namespace Go.Ev.L
open Go Go.Ev
theorem jf4(n:Int):W n=(n+9223372036854775808) % 18446744073709551616-9223372036854775808:=IntKind.wrap_i64 n
theorem ja8{n:Int}(h1:-9223372036854775808<=n)(h2:n<=9223372036854775807):W n=n:=by rw[jf4];omega
theorem Ke2(n:Int):∃k,W n=n+18446744073709551616*k:=⟨-((n+9223372036854775808) / 18446744073709551616),by rw[jf4];omega⟩
theorem Hc5(n k:Int):W (n+18446744073709551616*k)=W n:=by rw[jf4,jf4];omega
theorem zc6(a b:Int):W (W a+b)=W (a+b):=by
 obtain⟨k,hk⟩:=Ke2 a;rw[hk,show a+18446744073709551616*k+b=a+b+18446744073709551616*k by omega,Hc5]
theorem gd4(a b:Int):W (a+W b)=W (a+b):=by rw[Int.add_comm,zc6,Int.add_comm]
theorem Dd7(a b:Int):W (W a-b)=W (a-b):=by
 obtain⟨k,hk⟩:=Ke2 a;rw[hk,show a+18446744073709551616*k-b=a-b+18446744073709551616*k by omega,Hc5]
theorem ce7(a b:Int):W (a-W b)=W (a-b):=by
 obtain⟨k,hk⟩:=Ke2 b;rw[hk,show a-(b+18446744073709551616*k)=a-b+18446744073709551616*(-k) by omega,Hc5]
theorem De8(a b:Int):W (W a*b)=W (a*b):=by
 obtain⟨k,hk⟩:=Ke2 a;rw[hk,show (a+18446744073709551616*k)*b=a*b+18446744073709551616*(k*b) by grind,Hc5]
theorem jf5(a b:Int):W (a*W b)=W (a*b):=by rw[Int.mul_comm,De8,Int.mul_comm]
theorem D0{j n:Nat}(h:j<n)(hn:n<=4611686018427387904):W ((j:Int)+1)=((j+1:Nat):Int):=by
 rw[ja8 (by omega) (by omega)];omega
theorem zc7{j n:Nat}(h:j<n):decide ((j:Int)<(n:Int))=true:=decide_eq_true (by omega)
theorem mc2{j n:Nat}(h:¬ j<n):decide ((j:Int)<(n:Int))=false:=decide_eq_false (by omega)
theorem j9{j n:Nat}(h:j<n):inB (j:Int) n=true:=by
 show Nat.blt j n=true;rw[Qcf];exact h
theorem Bf1(m:Int)(n:Nat):inB m n=decide (0<=m/\m<n):=by
 unfold inB;cases m with
 |ofNat k =>
  rw[Bool.eq_iff_iff,decide_eq_true_eq];show Nat.blt k n=true↔_;rw[Qcf];constructor
  ·intro h;exact⟨Int.natCast_nonneg k,Qiw.2 h⟩
  ·intro h;exact Qiw.1 h.2
 |negSucc k=>exact (decide_eq_false (λh=>by omega)).symm
theorem bt{c:Bool}(h:c=true){α:Type}(t e:α):sl c t e=t:=by rw[h];rfl
theorem bf{c:Bool}(h:c=false){α:Type}(t e:α):sl c t e=e:=by rw[h];rfl
theorem mc3{n:Nat}(h:n<=1000000000000):Nat.ble (n*32) room=true:=by
 rw[Qiae];unfold room;omega
theorem jf6{σ:Type}{step:σ->Stp σ}{I:Nat->σ->Prop}{Q:Nat->σ->Prop}(h:∀m s,I m s->(∃t,step s=.exit t/\Q t s)\/∃s' m',m=m'+1/\step s=.next s'/\I m' s') :
  ∀(m n:Nat) (s:σ),m<=n->I m s->Q (lp0 step n s).1 (lp0 step n s).2
 |m,n,s,hn,hi=>by
  rcases h m s hi with⟨t,h1,h2⟩|⟨s',m',rfl,h1,h2⟩
  ·rw[yd7 h1];exact h2
  ·cases n with
   |zero=>omega
   |succ n =>
    rw[le2 h1];exact jf6 h m' n s' (by omega) h2
theorem zc8{σ:Type}{step:σ->Stp σ}{I:Nat->σ->Prop}{Q:Nat->σ->Prop}(h:∀m s,I m s->(∃t,step s=.exit t/\Q t s)\/∃s' m',m=m'+1/\step s=.next s'/\I m' s')
  (m:Nat) (s:σ) (hm:m<=18446744073709551615) (hi:I m s):Q (lp step s).1 (lp step s).2:=by
 rw[df3];exact jf6 h m rounds s (by unfold rounds;omega) hi
section
variable{σ τ α:Type}{step:σ->Stp σ}
theorem ud4{mk:Nat->τ->σ}{f:τ->α->τ}{fin:Nat}(t:Ty α)(l:List α)(I:Nat->τ->Prop)(hl:l.length<=1000000000)
  (h:∀j a,j<l.length->I j a->step (mk j a)=.next (mk (j+1) (f a (gL t l j)))/\I (j+1) (f a (gL t l j)))
  (hf:∀a,I l.length a->step (mk l.length a)=.exit fin) (j0:Nat) (hj:j0<=l.length) (a:τ) (hi:I j0 a) :
  lp step (mk j0 a)=(fin,mk l.length ((l.drop j0).foldl f a))/\I l.length ((l.drop j0).foldl f a):=by
 have key:=zc8 (step:=step) (I:=λm s=>∃j b,m=l.length-j/\j<=l.length/\s=mk j b/\I j b/\(l.drop j).foldl f b=(l.drop j0).foldl f a)
  (Q:=λu s=>u=fin/\s=mk l.length ((l.drop j0).foldl f a)/\I l.length ((l.drop j0).foldl f a)) (λm s ⟨j,b,hm,hj,hs,hb,he⟩=>by
   subst hs;by_cases hlt:j<l.length
   ·obtain⟨h1,h2⟩:=h j b hlt hb;refine .inr ⟨_,l.length-(j+1),by omega,h1,j+1,_,rfl,by omega,rfl,h2,?_⟩
    rw[<- he,Qib hlt,List.foldl_cons];simp[gL,Qda,Qaa hlt]
   ·have:j=l.length:=by omega
    subst this;have he:b=(l.drop j0).foldl f a:=by rw[<- he];simp
    subst he;exact .inl ⟨fin,hf _ hb,rfl,rfl,hb⟩) (l.length-j0) (mk j0 a) (by omega) ⟨j0,a,rfl,hj,rfl,hi,rfl⟩
 exact⟨by rw[<- key.2.1,<- key.1],key.2.2⟩
theorem Qc0{mk:Nat->σ}{c:α->Bool}{u fin:Nat}(t:Ty α)(l:List α)(hl:l.length<=1000000000)
  (h:∀j,j<l.length->step (mk j)=sl (c (gL t l j)) (.exit u) (.next (mk (j+1)))) (hf:step (mk l.length)=.exit fin) (j0:Nat) (hj:j0<=l.length) :
  (lp step (mk j0)).1=if (l.drop j0).any c then u else fin :=
 zc8 (step:=step) (I:=λm s=>∃j,m=l.length-j/\j<=l.length/\s=mk j/\(l.drop j).any c=(l.drop j0).any c)
  (Q:=λv _=>v=if (l.drop j0).any c then u else fin) (λm s ⟨j,hm,hj,hs,he⟩=>by
   subst hs;by_cases hlt:j<l.length
   ·have h1:=h j hlt;have e:gL t l j=l[j]:=by simp[gL,Qda,Qaa hlt]
    have e2:(l.drop j).any c=(c l[j]||(l.drop (j+1)).any c):=by rw[Qib hlt,List.any_cons]
    rw[e] at h1;cases hc:c l[j] with
    |true =>
     rw[hc] at h1;refine .inl ⟨u,h1,?_⟩;rw[<- he,e2,hc];rfl
    |false =>
     rw[hc] at h1;refine .inr ⟨_,l.length-(j+1),by omega,h1,j+1,rfl,by omega,rfl,?_⟩
     rw[<- he,e2,hc];rfl
   ·have:j=l.length:=by omega
    subst this;refine .inl ⟨fin,hf,?_⟩;rw[<- he];simp) (l.length-j0) (mk j0) (by omega) ⟨j0,rfl,hj,rfl,rfl⟩
theorem Ab4{mk:Nat->σ}{c:α->Bool}{u fin:Nat}(t:Ty α)(l:List α)(hl:l.length<=1000000000)
  (h:∀j,j<l.length->step (mk j)=sl (c (gL t l j)) (.exit u) (.next (mk (j+1)))) (hf:step (mk l.length)=.exit fin) (j0:Nat) (hj:j0<=l.length) :
  lp step (mk j0)=if (l.drop j0).any c then (u,mk (j0+(l.drop j0).findIdx c)) else (fin,mk l.length):=by
 have key:=zc8 (step:=step) (I:=λm s=>∃j,m=l.length-j/\j<=l.length/\j0<=j/\s=mk j/\(l.drop j).any c=(l.drop j0).any c/\j+(l.drop j).findIdx c=j0+(l.drop j0).findIdx c)
  (Q:=λv s=>(v,s)=if (l.drop j0).any c then (u,mk (j0+(l.drop j0).findIdx c)) else (fin,mk l.length)) (λm s ⟨j,hm,hj,hj0,hs,he,hi⟩=>by
   subst hs;by_cases hlt:j<l.length
   ·have h1:=h j hlt;have e:gL t l j=l[j]:=by simp[gL,Qda,Qaa hlt]
    have e2:(l.drop j).any c=(c l[j]||(l.drop (j+1)).any c):=by rw[Qib hlt,List.any_cons]
    have e3:(l.drop j).findIdx c=if c l[j] then 0 else (l.drop (j+1)).findIdx c+1:=by rw[Qib hlt,List.findIdx_cons];cases c l[j]<;>rfl
    rw[e] at h1;cases hc:c l[j] with
    |true =>
     rw[hc] at h1;refine .inl ⟨u,h1,?_⟩;rw[<- he,e2,hc,<- hi,e3,hc];rfl
    |false =>
     rw[hc] at h1;refine .inr ⟨_,l.length-(j+1),by omega,h1,j+1,rfl,by omega,by omega,rfl,?_,?_⟩
     ·rw[<- he,e2,hc];rfl
     ·rw[<- hi,e3,hc];simp only[Qit,if_false];omega
   ·have:j=l.length:=by omega
    subst this;refine .inl ⟨fin,hf,?_⟩;rw[<- he];simp) (l.length-j0) (mk j0) (by omega) ⟨j0,rfl,hj,Qaf _,rfl,rfl,rfl⟩
 exact key
end
theorem S1{α:Type}(t:Ty α){l:List α}{j:Nat}(h:j<l.length):gL t l j∈l:=by
 simp[gL,Qda,Qaa h]
theorem eb4{α:Type}(t:Ty α){l:List α}{j:Nat}(h:j<l.length):gL t l j=l[j]:=by
 simp[gL,Qda,Qaa h]
def euF:Nat->Int->Int->Int
 |0,g,_=>g
 |k+1,g,n=>if n=0 then g else euF k n (Int.tmod g n)
def eu(g n:Int):Int:=euF (n.natAbs+1) g n
theorem wb5{g n:Int}(h:n≠0):(Int.tmod g n).natAbs<n.natAbs:=by
 rw[Int.natAbs_tmod];exact Nat.mod_lt _ (by omega)
theorem pe8:∀(k m:Nat) {g n:Int},n.natAbs<k->n.natAbs<m->euF k g n=euF m g n
 |0,_,_,_,h,_=>by omega
 |_+1,0,_,_,_,h=>by omega
 |k+1,m+1,g,n,h1,h2=>by
  unfold euF;by_cases h:n=0
  ·rw[if_pos h,if_pos h]
  ·rw[if_neg h,if_neg h]
   have:=wb5 (g:=g) h
   exact pe8 k m (by omega) (by omega)
theorem Hc6(g:Int):eu g 0=g:=by simp[eu,euF]
theorem ud5{g n:Int}(h:n≠0):eu g n=eu n (Int.tmod g n):=by
 have:=wb5 (g:=g) h
 unfold eu
 conv=>lhs;unfold euF
 rw[if_neg h];exact pe8 _ _ (by omega) (by omega)
theorem Rf4:∀(k:Nat) (g n:Int),n.natAbs<=k->(eu g n).natAbs=Int.gcd g n:=by
 intro k
 induction k with
 |zero =>
  intro g n h
  have:n=0:=by omega
  subst this;rw[Hc6];simp
 |succ k ih =>
  intro g n h;by_cases h0:n=0
  ·subst h0;rw[Hc6];simp
  ·have:=wb5 (g:=g) h0
   rw[ud5 h0,ih n (Int.tmod g n) (by omega)]
   unfold Int.gcd;rw[Int.natAbs_tmod,Nat.gcd_comm g.natAbs,Nat.gcd_comm n.natAbs,<- Nat.gcd_rec]
theorem jf7(g n:Int):(eu g n).natAbs=Int.gcd g n:=Rf4 _ g n (Qaf _)
theorem Ve8:∀(k:Nat) (g n:Int),n.natAbs<=k->0<=g->0<=n->0<=eu g n:=by
 intro k
 induction k with
 |zero =>
  intro g n h hg _
  have:n=0:=by omega
  subst this;rw[Hc6];exact hg
 |succ k ih =>
  intro g n h hg hn;by_cases h0:n=0
  ·subst h0;rw[Hc6];exact hg
  ·have:=wb5 (g:=g) h0
   rw[ud5 h0];exact ih n _ (by omega) hn (Int.tmod_nonneg _ hg)
theorem jf8{g n:Int}(hg:0<=g)(hn:0<=n):eu g n=(Int.gcd g n:Int):=by
 have h1:=Ve8 _ g n (Qaf _) hg hn;have h2:=jf7 g n;omega
section
variable{σ:Type}{step:σ->Stp σ}{mk:Int->Int->σ}
theorem Ke3(h:∀g n,n≠0->step (mk g n)=.next (mk n (Int.tmod g n)))(h0:∀g,step (mk g 0)=.exit 1)(g n:Int)(hn:n.natAbs<=9223372036854775808):lp step (mk g n)=(1,mk (eu g n) 0):=by
 have:=zc8 (step:=step) (I:=λm s=>∃a c,s=mk a c/\c.natAbs<=m/\eu a c=eu g n) (Q:=λu s=>(u,s)=(1,mk (eu g n) 0)) (λm s ⟨a,c,hs,hm,he⟩=>by
  subst hs;by_cases hc:c=0
  ·subst hc;rw[Hc6] at he;subst he;exact .inl ⟨1,h0 _,rfl⟩
  ·have ht:=wb5 (g:=a) hc;exact .inr ⟨_,m-1,by omega,h a c hc,c,_,rfl,by omega,by rw[<- he,ud5 hc]⟩) n.natAbs (mk g n) (by omega) ⟨g,n,rfl,Qaf _,rfl⟩
 exact this
theorem nd7(h:∀g n,0<n->step (mk g n)=.next (mk n (Int.tmod g n)))(h0:∀g,step (mk g 0)=.exit 1)(g n:Int)(hg:0<=g)(h1:0<=n)(hn:n<=9223372036854775808):lp step (mk g n)=(1,mk (eu g n) 0):=by
 have:=zc8 (step:=step) (I:=λm s=>∃a c,s=mk a c/\c.natAbs<=m/\0<=a/\0<=c/\eu a c=eu g n) (Q:=λu s=>(u,s)=(1,mk (eu g n) 0)) (λm s ⟨a,c,hs,hm,ha,hc0,he⟩=>by
  subst hs;by_cases hc:c=0
  ·subst hc;rw[Hc6] at he;subst he;exact .inl ⟨1,h0 _,rfl⟩
  ·have ht:=wb5 (g:=a) hc;exact .inr ⟨_,m-1,by omega,h a c (by omega),c,_,rfl,by omega,hc0,Int.tmod_nonneg _ ha,by rw[<- he,ud5 hc]⟩) n.natAbs (mk g n) (by omega) ⟨g,n,rfl,Qaf _,hg,h1,rfl⟩
 exact this
end
theorem mb{a c A C:Int}(h1:-A<=a)(h2:a<=A)(h3:-C<=c)(h4:c<=C):-(A*C)<=a*c/\a*c<=A*C:=by
 have hA:a.natAbs<=A.natAbs:=by omega
 have hC:c.natAbs<=C.natAbs:=by omega
 have h5:=Nat.mul_le_mul hA hC;rw[<- Int.natAbs_mul,<- Int.natAbs_mul] at h5;have h6:0<=A*C:=Int.mul_nonneg (by omega) (by omega)
 omega
end Go.Ev.L
namespace Go.Ev.Ce
open Go Go.Ev Go.Ev.L Go.Proofs
theorem Ve9(P:Ya1)(g n:Int)(hn:n.natAbs<=9223372036854775808):lp (db4 P) ⟨g,n⟩=(1,⟨eu g n,0⟩) :=
 Ke3 (mk:=λg n=>(⟨g,n⟩:za2)) (λg n h=>by simp[db4,pb5,Pb2,h]) (λg=>by simp[db4,pb5,Pb2]) g n hn
theorem We0(l:List Int)(hl:l.length<=1000000000)(hb:∀x∈l,x.natAbs<=9223372036854775808):lp (Na4 ⟨(l.length:Int)⟩) ⟨0,l,0⟩=(1,⟨l.foldl eu 0,l,l.length⟩):=by
 have := ud4 (step := Na4 ⟨(l.length : Int)⟩) (mk := fun j a => (⟨a, l, (j : Int)⟩ : za3)) (f := eu) (fin := 1) tI l (fun _ _ => True) hl (fun j a hj _ => ⟨by
   simp only[Na4,pb7,Int.toNat_natCast,j8,o7,Ve9 _ _ _ (hb _ (S1 tI hj)),D0 hj (by omega)]
   rw[bt (zc7 hj),bt (j9 hj)]
   rfl,trivial⟩) (λa _=>by simp[Na4,pb7,Pb2]) 0 (Qbw _) 0 trivial
 simpa using this.1
theorem Yc1:∀(l:List Int) (g:Int),(l.foldl eu g).natAbs=l.foldl (λa x=>Nat.gcd a x.natAbs) g.natAbs
 |[],_=>rfl
 |x::l,g=>by rw[List.foldl_cons,Yc1 l,List.foldl_cons,jf7];rfl
theorem Rf5(l:List Int)(hl:l.length<=1000000000)(hb:∀x∈l,x.natAbs<=9223372036854775807)(h0:(l.foldl eu 0).natAbs<=9223372036854775807):Qb6 l=some (i ((l.foldl eu 0).natAbs:Int),[]):=by
 unfold Qb6;simp only[j8,o7,We0 l hl (λx hx=>Nat.le_succ_of_le (hb x hx))]
 generalize l.foldl eu 0=e at *
 have:W (0-e)=-e:=by rw[ja8 (by omega) (by omega)];omega
 rw[this];show some (i (if -e>e then -e else e),[])=_
 congr 3
 split<;>omega
theorem Sd6(x y:Int)(hx:0<=x)(hy:0<=y)(hb:y<=9223372036854775807):ob8 x y=some (i (Int.gcd x y:Int),[]):=by
 unfold ob8
 have:=Ke3 (step:=Ka6 ⟨⟩) (mk:=λg n=>(⟨g,n⟩:ka8)) (λg n h=>by simp[Ka6,Ya0,Pb2,h]) (λg=>by simp[Ka6,Ya0,Pb2]) x y (by omega)
 simp only[this,jf8 hx hy];rfl
theorem Dd8(x y:Int)(hx:0<=x)(hy:0<=y)(hb:y<=9223372036854775807):da7 x y=(Int.gcd x y:Int):=by unfold da7;rw[Sd6 x y hx hy hb];rfl
theorem Dd9(x y:Int)(hx:0<=x)(hy:0<=y)(hb:y<=9223372036854775807):da8 x y=true:=by unfold da8;rw[Sd6 x y hx hy hb];rfl
def rm(p:Pln)(x:Pt):Int:=W (p.b*x.pw-(p.n.x*x.px+p.n.y*x.py+p.n.z*x.pz))
theorem ce8(p:Pln)(x:Pt):Ha2 p x=rm p x:=by
 unfold Ha2 jb5 rm;simp only[zc6,gd4,Dd7,ce7]
theorem Ke4(p:Pln)(x:Pt):Pb5 p x=rm p x:=by
 unfold Pb5 rm;simp only[zc6,gd4,Dd7,ce7];congr 1;omega
structure Bd(p:Pln):Prop where
 x1:-4608<=p.n.x
 x2:p.n.x<=4608
 y1:-4608<=p.n.y
 y2:p.n.y<=4608
 z1:-4608<=p.n.z
 z2:p.n.z<=4608
 b1:-2097152<=p.b
 b2:p.b<=2097152
def mv(p q r:Pln):V3 :=
 ⟨(C7 q.n r.n).x*p.b+(C7 r.n p.n).x*q.b+(C7 p.n q.n).x*r.b,
  (C7 q.n r.n).y*p.b+(C7 r.n p.n).y*q.b+(C7 p.n q.n).y*r.b,
  (C7 q.n r.n).z*p.b+(C7 r.n p.n).z*q.b+(C7 p.n q.n).z*r.b⟩
def gc(v:V3)(w:Int):Int:=(Nat.gcd (Nat.gcd v.x.natAbs v.y.natAbs) (Nat.gcd v.z.natAbs w.natAbs):Nat)
def mpt(p q r:Pln):Pt×Bool :=
 if mw p q r=0 then (⟨0,0,0,0⟩,false)
 else if mw p q r<0 then (⟨Int.tdiv (-(mv p q r).x) (gc (mv p q r) (mw p q r)),Int.tdiv (-(mv p q r).y) (gc (mv p q r) (mw p q r)),Int.tdiv (-(mv p q r).z) (gc (mv p q r) (mw p q r)),Int.tdiv (-(mw p q r)) (gc (mv p q r) (mw p q r))⟩,true)
 else (⟨Int.tdiv (mv p q r).x (gc (mv p q r) (mw p q r)),Int.tdiv (mv p q r).y (gc (mv p q r) (mw p q r)),Int.tdiv (mv p q r).z (gc (mv p q r) (mw p q r)),Int.tdiv (mw p q r) (gc (mv p q r) (mw p q r))⟩,true)
def Sm(n:Int)(x:Int):Prop:=-n<=x/\x<=n
theorem Yc2{a b:V3}(ha:Sm 4608 a.x/\Sm 4608 a.y/\Sm 4608 a.z)(hb:Sm 4608 b.x/\Sm 4608 b.y/\Sm 4608 b.z):Sm 42467328 (C7 a b).x/\Sm 42467328 (C7 a b).y/\Sm 42467328 (C7 a b).z:=by
 obtain⟨⟨a1,a2⟩,⟨a3,a4⟩,a5,a6⟩:=ha;obtain⟨⟨b1,b2⟩,⟨b3,b4⟩,b5,b6⟩:=hb;have h1:=mb a3 a4 b5 b6;have h2:=mb a5 a6 b3 b4;have h3:=mb a5 a6 b1 b2;have h4:=mb a1 a2 b5 b6;have h5:=mb a1 a2 b3 b4;have h6:=mb a3 a4 b1 b2;unfold Sm C7
 simp only
 omega
theorem Bd.n{p:Pln}(h:Bd p):Sm 4608 p.n.x/\Sm 4608 p.n.y/\Sm 4608 p.n.z:=⟨⟨h.x1,h.x2⟩,⟨h.y1,h.y2⟩,h.z1,h.z2⟩
theorem jf9{p q r:Pln}(hp:Bd p)(hq:Bd q)(hr:Bd r):Sm 600000000000 (mw p q r):=by
 obtain⟨⟨c1,c2⟩,⟨c3,c4⟩,c5,c6⟩:=Yc2 hq.n hr.n;have h1:=mb hp.x1 hp.x2 c1 c2;have h2:=mb hp.y1 hp.y2 c3 c4;have h3:=mb hp.z1 hp.z2 c5 c6;unfold Sm mw dot;omega
theorem kf0{p q r:Pln}(hp:Bd p)(hq:Bd q)(hr:Bd r):Sm 300000000000000 (mv p q r).x/\Sm 300000000000000 (mv p q r).y/\Sm 300000000000000 (mv p q r).z:=by
 obtain⟨⟨c1,c2⟩,⟨c3,c4⟩,c5,c6⟩:=Yc2 hq.n hr.n;obtain⟨⟨d1,d2⟩,⟨d3,d4⟩,d5,d6⟩:=Yc2 hr.n hp.n;obtain⟨⟨e1,e2⟩,⟨e3,e4⟩,e5,e6⟩:=Yc2 hp.n hq.n;have a1:=mb c1 c2 hp.b1 hp.b2;have a2:=mb c3 c4 hp.b1 hp.b2;have a3:=mb c5 c6 hp.b1 hp.b2;have b1:=mb d1 d2 hq.b1 hq.b2;have b2:=mb d3 d4 hq.b1 hq.b2;have b3:=mb d5 d6 hq.b1 hq.b2;have f1:=mb e1 e2 hr.b1 hr.b2;have f2:=mb e3 e4 hr.b1 hr.b2;have f3:=mb e5 e6 hr.b1 hr.b2;unfold Sm mv
 simp only
 omega
theorem ud6(a b:V3):da3 a b=⟨W (C7 a b).x,W (C7 a b).y,W (C7 a b).z⟩:=by
 unfold da3 C7;simp only[Dd7,ce7]
theorem ud7(a b:V3):sa7 a b=⟨W (C7 a b).x,W (C7 a b).y,W (C7 a b).z⟩:=by
 unfold sa7 C7;simp only[Dd7,ce7]
theorem Rf6(p q r:Pln):dot r.n (C7 p.n q.n)=mw p q r:=by unfold mw dot C7;grind
theorem qg4(a b c d:Nat):[a,b,c,d].foldl Nat.gcd 0=Nat.gcd (Nat.gcd a b) (Nat.gcd c d):=by
 simp only[List.foldl_cons,List.foldl_nil,Qiv];rw[Nat.gcd_assoc]
theorem Ed0{v:V3}{w:Int}(h:w≠0):0<gc v w:=by
 unfold gc
 have:0<Nat.gcd v.z.natAbs w.natAbs:=Qil _ (by omega)
 have:=Qil (Nat.gcd v.x.natAbs v.y.natAbs) this
 omega
theorem kf1{v:V3}{w:Int}(h:w≠0):gc v w<=w.natAbs:=by
 unfold gc;have h1:Nat.gcd v.z.natAbs w.natAbs<=w.natAbs:=Qix _ (by omega)
 have h2:0<Nat.gcd v.z.natAbs w.natAbs:=Qil _ (by omega)
 have h3:=Qix (m:=Nat.gcd v.x.natAbs v.y.natAbs) (n:=Nat.gcd v.z.natAbs w.natAbs) h2;omega
theorem ub4{x:Int}(h:Sm 1000000000000000000 x):W x=x:=ja8 (by have:=h.1;omega) (by have:=h.2;omega)
theorem Sm.mono{n m x:Int}(h:Sm n x)(hn:n<=m):Sm m x:=⟨by have:=h.1;omega,by have:=h.2;omega⟩
theorem ca6{n x g:Int}(h:Sm n x)(hg:0<g):Sm n (Int.tdiv x g):=by
 have h1:(Int.tdiv x g).natAbs<=x.natAbs:=by rw[Int.natAbs_tdiv];exact Nat.div_le_self _ _
 have:=h.1;have:=h.2
 constructor<;>omega
theorem De9{p q r:Pln}(hp:Bd p)(hq:Bd q)(hr:Bd r)(h:(mpt p q r).2=true):0<(mpt p q r).1.pw/\Sm 300000000000000 (mpt p q r).1.px/\Sm 300000000000000 (mpt p q r).1.py/\Sm 300000000000000 (mpt p q r).1.pz/\(mpt p q r).1.pw<=600000000000:=by
 have hw:=jf9 hp hq hr;obtain⟨v1,v2,v3⟩:=kf0 hp hq hr;have neg:∀{n x:Int},Sm n x->Sm n (-x):=λh=>⟨by have:=h.2;omega,by have:=h.1;omega⟩
 have pos:∀{x:Int},0<x->x.natAbs=(mw p q r).natAbs->0<Int.tdiv x (gc (mv p q r) (mw p q r)):=λ{x} hx he=>by
  have h0:mw p q r≠0:=by omega
  have h1:=Ed0 (v:=mv p q r) h0;have h2:=kf1 (v:=mv p q r) h0;rw[Int.tdiv_eq_ediv_of_nonneg (by omega)]
  exact Int.ediv_pos_of_pos_of_dvd hx (by omega) (by
   rw[<- Int.dvd_natAbs,he];exact Int.natCast_dvd_natCast.2 (Nat.dvd_trans (Nat.gcd_dvd_right _ _) (Nat.gcd_dvd_right _ _)))
 unfold mpt at h ⊢;by_cases h0:mw p q r=0
 ·rw[if_pos h0] at h;cases h
 ·rw[if_neg h0];have hg:=Ed0 (v:=mv p q r) h0;by_cases h1:mw p q r<0
  ·rw[if_pos h1];exact⟨pos (by omega) (by omega),ca6 (neg v1) hg,ca6 (neg v2) hg,ca6 (neg v3) hg,(ca6 (neg hw) hg).2⟩
  ·rw[if_neg h1];exact⟨pos (by omega) rfl,ca6 v1 hg,ca6 v2 hg,ca6 v3 hg,(ca6 hw hg).2⟩
theorem Ke5{p q r:Pln}(hp:Bd p)(hq:Bd q)(hr:Bd r):Bb5 ⟨p,q,r⟩=some (.tup [.agg (tX.row (mpt p q r).1),b (mpt p q r).2],[]):=by
 have hw:=jf9 hp hq hr;obtain⟨v1,v2,v3⟩:=kf0 hp hq hr;have e1:jb5 r.n (da3 p.n q.n)=mw p q r:=by
  rw[ud6];unfold jb5;simp only[zc6,gd4,jf5];show W (dot r.n (C7 p.n q.n))=_;rw[Rf6,ub4 (hw.mono (by omega))]
 have e2:Ha1 (Ha1 (Ha1 ⟨0,0,0⟩ (za1 (da3 q.n r.n) p.b)) (za1 (da3 r.n p.n) q.b)) (za1 (da3 p.n q.n) r.b)=mv p q r:=by
  rw[ud6,ud6,ud6];unfold Ha1 za1;simp only[zc6,gd4,De8,Int.zero_add];show (⟨W (mv p q r).x,W (mv p q r).y,W (mv p q r).z⟩:V3)=_;rw[ub4 (v1.mono (by omega)),ub4 (v2.mono (by omega)),ub4 (v3.mono (by omega))]
 unfold Bb5;simp only[e1,e2];have hb:∀x∈[(mv p q r).x,(mv p q r).y,(mv p q r).z,mw p q r],x.natAbs<=9223372036854775807:=by
  intro x hx;simp only[Qbi,Qiy,or_false] at hx;unfold Sm at *
  rcases hx with rfl|rfl|rfl|rfl<;>omega
 have hf:([(mv p q r).x,(mv p q r).y,(mv p q r).z,mw p q r].foldl eu 0).natAbs=Nat.gcd (Nat.gcd (mv p q r).x.natAbs (mv p q r).y.natAbs) (Nat.gcd (mv p q r).z.natAbs (mw p q r).natAbs):=by
  rw[Yc1,<- qg4];rfl
 unfold mpt;by_cases h0:mw p q r=0
 ·rw[bt (by rw[h0];rfl),if_pos h0]
  rfl
 ·have hz:(mw p q r==0)=false:=by simpa using h0
  rw[bf hz,if_neg h0];have hgp:=Ed0 (v:=mv p q r) h0;have hgl:=kf1 (v:=mv p q r) h0;have hge:=Rf5 _ (by simp) hb (by rw[hf];unfold gc at hgl;unfold Sm at hw;omega)
  have hgv:lc3 [(mv p q r).x,(mv p q r).y,(mv p q r).z,mw p q r]=gc (mv p q r) (mw p q r):=by
   unfold lc3;rw[hge,hf];rfl
  have hgg:lc4 [(mv p q r).x,(mv p q r).y,(mv p q r).z,mw p q r]=true:=by
   unfold lc4;rw[hge];rfl
  rw[hgv,bt hgg];generalize hG:gc (mv p q r) (mw p q r)=G at *
  have hGW:W (0-G)=-G:=by unfold Sm at hw;rw[ja8 (by omega) (by omega)];omega
  have hGn:(-G==0)=false:=by simp;omega
  have hGp:(G==0)=false:=by simp;omega
  by_cases h1:mw p q r<0
  ·rw[bt (decide_eq_true h1),if_pos h1];simp only[hGW];rw[bf hGn,bf hGn,bf hGn,bf hGn];simp only[Int.tdiv_neg,<- Int.neg_tdiv];have neg:∀{n x:Int},Sm n x->Sm n (-x):=λh=>⟨by have:=h.2;omega,by have:=h.1;omega⟩
   rw[ub4 ((ca6 (neg v1) hgp).mono (by omega)),ub4 ((ca6 (neg v2) hgp).mono (by omega)),ub4 ((ca6 (neg v3) hgp).mono (by omega)),ub4 ((ca6 (neg hw) hgp).mono (by omega))]
   rfl
  ·rw[bf (decide_eq_false h1),if_neg h1,bf hGp,bf hGp,bf hGp,bf hGp];rw[ub4 ((ca6 v1 hgp).mono (by omega)),ub4 ((ca6 v2 hgp).mono (by omega)),ub4 ((ca6 v3 hgp).mono (by omega)),ub4 ((ca6 hw hgp).mono (by omega))]
   rfl
theorem Rf7{p q r:Pln}(hp:Bd p)(hq:Bd q)(hr:Bd r):Bb6 ⟨p,q,r⟩=mpt p q r:=by unfold Bb6;rw[Ke5 hp hq hr];rfl
theorem Rf8{p q r:Pln}(hp:Bd p)(hq:Bd q)(hr:Bd r):Bb7 ⟨p,q,r⟩=true:=by unfold Bb7;rw[Ke5 hp hq hr];rfl
theorem pe9{p q r:Pln}(hp:Bd p)(hq:Bd q)(hr:Bd r):Pb7 p q r=some (.tup [.agg (tX.row (mpt p q r).1),b (mpt p q r).2],[]):=by
 have hw:=jf9 hp hq hr;obtain⟨v1,v2,v3⟩:=kf0 hp hq hr;have e1:Gc5 p.n (sa7 q.n r.n)=mw p q r:=by
  rw[ud7];unfold Gc5;simp only[zc6,gd4,jf5];show W (dot p.n (C7 q.n r.n))=_;rw[show dot p.n (C7 q.n r.n)=mw p q r from rfl,ub4 (hw.mono (by omega))]
 have e2:Nb7 (Nb7 (da6 (sa7 q.n r.n) p.b) (da6 (sa7 r.n p.n) q.b)) (da6 (sa7 p.n q.n) r.b)=mv p q r:=by
  rw[ud7,ud7,ud7];unfold Nb7 da6;simp only[zc6,gd4,De8];show (⟨W (mv p q r).x,W (mv p q r).y,W (mv p q r).z⟩:V3)=_;rw[ub4 (v1.mono (by omega)),ub4 (v2.mono (by omega)),ub4 (v3.mono (by omega))]
 have neg:∀{n x:Int},Sm n x->Sm n (-x):=λh=>⟨by have:=h.2;omega,by have:=h.1;omega⟩
 have e3:da6 (mv p q r) (-1)=⟨-(mv p q r).x,-(mv p q r).y,-(mv p q r).z⟩:=by
  unfold da6
  have:∀x:Int,x*-1=-x:=λx=>by omega
  simp only[this];rw[ub4 ((neg v1).mono (by omega)),ub4 ((neg v2).mono (by omega)),ub4 ((neg v3).mono (by omega))]
 have ab:∀{x:Int},Sm 300000000000000 x->(if W (0-x)>x then W (0-x) else x)=(x.natAbs:Int):=λ{x} h=>by
  have:W (0-x)=-x:=by rw[show 0-x=-x by omega];exact ub4 ((neg h).mono (by omega))
  rw[this]
  split<;>omega
 unfold Pb7;simp only[e1,e2,e3];rw[ab v1,ab v2,ab v3,ab (neg v1),ab (neg v2),ab (neg v3)];simp only[Int.natAbs_neg];unfold mpt;by_cases h0:mw p q r=0
 ·rw[bt (by rw[h0];rfl),if_pos h0]
  rfl
 ·have hz:(mw p q r==0)=false:=by simpa using h0
  rw[bf hz,if_neg h0];have hgp:=Ed0 (v:=mv p q r) h0;have hgl:=kf1 (v:=mv p q r) h0;have hw0:=hw;unfold Sm at hw0;have q1:((mv p q r).y.natAbs:Int)<=9223372036854775807:=by unfold Sm at v2;omega
  have k1:=Dd8 ((mv p q r).x.natAbs:Int) ((mv p q r).y.natAbs:Int) (by omega) (by omega) q1
  have k2:=Dd9 ((mv p q r).x.natAbs:Int) ((mv p q r).y.natAbs:Int) (by omega) (by omega) q1
  have c1:Int.gcd ((mv p q r).x.natAbs:Int) ((mv p q r).y.natAbs:Int)=Nat.gcd (mv p q r).x.natAbs (mv p q r).y.natAbs:=by simp[Int.gcd]
  have fin : ∀ w : Int, 0 < w → w.natAbs = (mw p q r).natAbs → da7 ((mv p q r).z.natAbs : Int) w = (Nat.gcd (mv p q r).z.natAbs (mw p q r).natAbs : Nat) ∧ da8 ((mv p q r).z.natAbs : Int) w = true ∧
    da7 (Nat.gcd (mv p q r).x.natAbs (mv p q r).y.natAbs:Nat) (Nat.gcd (mv p q r).z.natAbs (mw p q r).natAbs:Nat)=gc (mv p q r) (mw p q r)/\da8 (Nat.gcd (mv p q r).x.natAbs (mv p q r).y.natAbs:Nat) (Nat.gcd (mv p q r).z.natAbs (mw p q r).natAbs:Nat)=true:=by
   intro w hw1 hw2;have l1:Nat.gcd (mv p q r).z.natAbs (mw p q r).natAbs<=(mw p q r).natAbs:=Qix _ (by omega)
   refine⟨?_,Dd9 _ _ (by omega) (by omega) (by omega),?_,Dd9 _ _ (by omega) (by omega) (by omega)⟩
   ·rw[Dd8 _ _ (by omega) (by omega) (by omega)]
    have:Int.gcd ((mv p q r).z.natAbs:Int) w=Nat.gcd (mv p q r).z.natAbs (mw p q r).natAbs:=by unfold Int.gcd;rw[hw2];simp
    rw[this]
   ·rw[Dd8 _ _ (by omega) (by omega) (by omega)]
    rfl
  by_cases h1:mw p q r<0
  ·rw[bt (decide_eq_true h1),if_pos h1];have hWw:W (0-mw p q r)=-mw p q r:=by rw[ja8 (by omega) (by omega)];omega
   rw[hWw];obtain⟨f1,f2,f3,f4⟩:=fin (-mw p q r) (by omega) (by omega)
   simp only[k1,k2,c1,f1,f2,f3,f4];generalize gc (mv p q r) (mw p q r)=G at *
   have hGp:(G==0)=false:=by simp;omega
   simp only[hGp];rw[ub4 ((ca6 (neg v1) hgp).mono (by omega)),ub4 ((ca6 (neg v2) hgp).mono (by omega)),ub4 ((ca6 (neg v3) hgp).mono (by omega)),ub4 ((ca6 (neg hw) hgp).mono (by omega))]
   rfl
  ·rw[bf (decide_eq_false h1),if_neg h1];obtain⟨f1,f2,f3,f4⟩:=fin (mw p q r) (by omega) rfl
   simp only[k1,k2,c1,f1,f2,f3,f4];generalize gc (mv p q r) (mw p q r)=G at *
   have hGp:(G==0)=false:=by simp;omega
   simp only[hGp];rw[ub4 ((ca6 v1 hgp).mono (by omega)),ub4 ((ca6 v2 hgp).mono (by omega)),ub4 ((ca6 v3 hgp).mono (by omega)),ub4 ((ca6 hw hgp).mono (by omega))]
   rfl
theorem Bf2{p q r:Pln}(hp:Bd p)(hq:Bd q)(hr:Bd r):Pb8 p q r=mpt p q r:=by unfold Pb8;rw[pe9 hp hq hr];rfl
theorem Bf3{p q r:Pln}(hp:Bd p)(hq:Bd q)(hr:Bd r):Pb9 p q r=true:=by unfold Pb9;rw[pe9 hp hq hr];rfl
def inn(l:PLq)(x:Pt):Bool:=l.all λp=>!decide (rm p x<0)
theorem Ke6(l:PLq)(x:Pt):inn l x=!l.any λp=>decide (rm p x<0):=by unfold inn;rw[List.not_any_eq_all_not]
theorem dg7(p:Pln)(x:Pt):Fb9 ⟨p.n.x,p.n.y,p.n.z,p.b,x.px,x.py,x.pz,x.pw⟩=⟨decide (rm p x<0)⟩:=by
 show gb0.mk (decide (Ha2 p x<0))=_;rw[ce8]
theorem Bf4(l:PLq)(x:Pt)(hl:l.length<=1000000000):ha3 ⟨l,x.px,x.py,x.pz,x.pw⟩=⟨1,if l.any (λp=>decide (rm p x<0)) then ((l.findIdx (λp=>decide (rm p x<0)):Nat):Int) else -1⟩:=by
 have h:=Ab4 (step:=Q3 ⟨l,(l.length:Int),x.px,x.py,x.pz,x.pw⟩) (mk:=λj=>(⟨(j:Int)⟩:D1)) (c:=λp=>decide (rm p x<0)) (u:=1) (fin:=2) tP l hl
  (λj hj=>by
   simp only[Q3,Y3,Int.toNat_natCast,dg7,D0 hj (by omega)]
   rw[bt (zc7 hj),bt (j9 hj)])
  (by simp only[Q3,Y3];rw[bf (mc2 (Qid _))]) 0 (Qbw _)
 rw[Qia] at h;unfold ha3 va8;simp only[j8,o7];rw[show (⟨0⟩:D1)=⟨((0:Nat):Int)⟩ from rfl,h]
 split
 ·simp only[Qar];rfl
 ·rfl
theorem Sd7(l:PLq)(x:Pt)(hl:l.length<=1000000000):db5 l x=some (b (inn l x),[]):=by
 unfold db5 na7 na6;simp only[j8,o7,Bf4 l x hl,Ke6];split
 ·rename_i h;rw[h,show decide (((l.findIdx (λp=>decide (rm p x<0)):Nat):Int)>=0)=true from decide_eq_true (by omega)];rfl
 ·rename_i h;rw[Qiz] at h;rw[h];rfl
theorem kf2(l:PLq)(x:Pt)(hl:l.length<=1000000000):Na5 l x=inn l x:=by unfold Na5;rw[Sd7 l x hl];rfl
theorem kf3(l:PLq)(x:Pt)(hl:l.length<=1000000000):Na6 l x=true:=by unfold Na6;rw[Sd7 l x hl];rfl
theorem Kf9(l:PLq)(x:Pt)(hl:l.length<=1000000000):xc9 l x=some (b (inn l x),[]):=by
 have h:=Qc0 (step:=Bb1 ⟨l,x.px,x.py,x.pz,x.pw⟩) (mk:=λj=>(⟨(j:Int)⟩:Ia4)) (c:=λp=>decide (rm p x<0)) (u:=1) (fin:=2) tP l hl
  (λj hj=>by
   simp only[Bb1,Lb4,Int.toNat_natCast,Ke4,D0 hj (by omega)]
   rw[bt (zc7 hj),bt (j9 hj)])
  (by simp only[Bb1,Lb4];rw[bf (mc2 (Qid _))]) 0 (Qbw _)
 rw[Qia] at h;unfold xc9;simp only[j8,o7,Ke6];rw[show (⟨0⟩:Ia4)=⟨((0:Nat):Int)⟩ from rfl,h]
 split
 ·rename_i h;rw[h];rfl
 ·rename_i h;rw[Qiz] at h;rw[h];rfl
theorem qg5(l:PLq)(x:Pt)(hl:l.length<=1000000000):ec5 l x=inn l x:=by unfold ec5;rw[Kf9 l x hl];rfl
theorem qg6(l:PLq)(x:Pt)(hl:l.length<=1000000000):ec6 l x=true:=by unfold ec6;rw[Kf9 l x hl];rfl
def eqX(x q:Pt):Bool:=q.px==x.px&&(q.py==x.py&&(q.pz==x.pz&&(q.pw==x.pw&&true)))
theorem Ke7(x q:Pt):eqX x q=true↔q=x:=by
 unfold eqX;simp only[Qii,Qas,beq_iff_eq];exact⟨λ⟨h1,h2,h3,h4⟩=>by cases q;cases x;simp_all,λh=>by subst h;exact⟨rfl,rfl,rfl,rfl⟩⟩
def zc9(l:List Pt)(x:Pt):Bool:=l.any (eqX x)
theorem kf4(l:List Pt)(x:Pt):zc9 l x=true↔x∈l:=by
 unfold zc9;rw[Qiaa];exact⟨λ⟨q,h,e⟩=>(Ke7 x q).1 e ▸ h,λh=>⟨x,h,(Ke7 x x).2 rfl⟩⟩
theorem qe0(l:List Pt)(x:Pt)(hl:l.length<=1000000000):Bb2 l x=some (b (zc9 l x),[]):=by
 have h:=Qc0 (step:=Ra7 ⟨l,x.px,x.py,x.pz,x.pw⟩) (mk:=λj=>(⟨(j:Int)⟩:Ia4)) (c:=eqX x) (u:=1) (fin:=2) tX l hl
  (λj hj=>by
   simp only[Ra7,fb8,Int.toNat_natCast,D0 hj (by omega)]
   rw[bt (zc7 hj),bt (j9 hj)]
   rfl)
  (by simp only[Ra7,fb8];rw[bf (mc2 (Qid _))]) 0 (Qbw _)
 rw[Qia] at h;unfold Bb2;simp only[j8,o7];rw[show (⟨0⟩:Ia4)=⟨((0:Nat):Int)⟩ from rfl,h]
 unfold zc9;split
 ·rename_i h;rw[h];rfl
 ·rename_i h;rw[Qiz] at h;rw[h];rfl
theorem Bf5(l:List Pt)(x:Pt)(hl:l.length<=1000000000):jb3 l x=zc9 l x:=by unfold jb3;rw[qe0 l x hl];rfl
theorem Bf6(l:List Pt)(x:Pt)(hl:l.length<=1000000000):jb4 l x=true:=by unfold jb4;rw[qe0 l x hl];rfl
def smb(n x:Int):Bool:=!decide (x < -n)&&!decide (x>n)
theorem ud8(n x:Int):smb n x=true↔Sm n x:=by unfold smb Sm;simp only[Qas,Qcc,decide_eq_false_iff_not];omega
theorem Ed1(n:Int)(l:List Int)(hn:0<=n/\n<=1000000000)(hl:l.length<=1000000000):Sa2 n l=some (b (l.all (smb n)),[]):=by
 have hW:W (0-n)=-n:=by rw[ja8 (by omega) (by omega)];omega
 have h:=Qc0 (step:=za4 ⟨n,l,(l.length:Int)⟩) (mk:=λj=>(⟨(j:Int)⟩:W4)) (c:=λx=>!smb n x) (u:=1) (fin:=2) tI l hl
  (λj hj=>by
   simp only[za4,Ia5,Int.toNat_natCast,D0 hj (by omega),hW]
   rw[bt (zc7 hj),bt (j9 hj)];unfold smb;cases decide (gL tI l j < -n)<;>cases decide (gL tI l j>n)<;>rfl)
  (by simp only[za4,Ia5];rw[bf (mc2 (Qid _))]) 0 (Qbw _)
 rw[Qia] at h;unfold Sa2;simp only[j8,o7];rw[show (⟨0⟩:W4)=⟨((0:Nat):Int)⟩ from rfl,h]
 have e:(l.any λx=>!smb n x)=!l.all (smb n):=by rw[Qig]
 rw[e];cases l.all (smb n)<;>rfl
theorem Sd8(n:Int)(l:List Int)(hn:0<=n/\n<=1000000000)(hl:l.length<=1000000000):Sa3 n l=l.all (smb n):=by unfold Sa3;rw[Ed1 n l hn hl];rfl
theorem Sd9(n:Int)(l:List Int)(hn:0<=n/\n<=1000000000)(hl:l.length<=1000000000):Sa4 n l=true:=by unfold Sa4;rw[Ed1 n l hn hl];rfl
theorem qe1{n:Int}(h:Sm 1000000000000000000 n):Ya2 n=(n.natAbs:Int):=by
 unfold Ya2;obtain⟨h1,h2⟩:=h;rw[ja8 (by omega) (by omega)]
 split<;>omega
theorem Yc3{n:Int}(h:Sm 1000000000000000000 n):Ra8 n=some (i (n.natAbs:Int),[]):=by
 unfold Ra8;obtain⟨h1,h2⟩:=h;rw[ja8 (by omega) (by omega)]
 by_cases h:n<0
 ·rw[bt (decide_eq_true h)];congr 3;omega
 ·rw[bf (decide_eq_false h)];congr 3;omega
theorem Ac0{n:Int}(h:Sm 1000000000000000000 n):Ea4 n=(n.natAbs:Int):=by unfold Ea4;rw[Yc3 h];rfl
theorem Ac1{n:Int}(h:Sm 1000000000000000000 n):Ea5 n=true:=by unfold Ea5;rw[Yc3 h];rfl
def g3(v:V3):Int:=(Nat.gcd (Nat.gcd v.x.natAbs v.y.natAbs) v.z.natAbs:Nat)
theorem kf5(g n:Nat):eu (g:Int) (n:Int)=(Nat.gcd g n:Nat):=by rw[jf8 (by omega) (by omega)];rfl
theorem Ld6(P:Ya1)(g n:Nat)(hn:n<=1000000000000000000):lp (ia3 P) ⟨(g:Int),(n:Int)⟩=(1,⟨(Nat.gcd g n:Nat),0⟩):=by
 have:=nd7 (step:=ia3 P) (mk:=λg n=>(⟨g,n⟩:za2)) (λg n h=>by
  have h0:n≠0:=by omega
  simp[ia3,Da0,Pb2,h,h0]) (λg=>by simp[ia3,Da0,Pb2]) (g:Int) (n:Int) (by omega) (by omega) (by omega)
 rw[this,kf5]
theorem Ee0(l:List Int)(hl:l.length<=1000000000)(hb:∀x∈l,Sm 1000000000000000000 x):Ka9 l=some (i (l.foldl (λg x=>Nat.gcd g x.natAbs) 0:Nat),[]):=by
 have h := ud4 (step := ta2 ⟨(l.length : Int)⟩) (mk := fun j (a : Nat) => (⟨(a : Int), l, (j : Int)⟩ : za3)) (f := fun g x => Nat.gcd g x.natAbs) (fin := 2) tI l (fun _ _ => True) hl (fun j a hj _ => ⟨by
   have hm:=hb _ (S1 tI hj);have hne:(gL tI l j==(-9223372036854775808:Int))=false:=by
    have:=hm.1
    rw[beq_eq_false_iff_ne];omega
   have hs:(gL tI l j).natAbs<=1000000000000000000:=by obtain⟨h1,h2⟩:=hm;omega
   simp only[ta2,Da1,Int.toNat_natCast,j8,o7,qe1 hm,Ld6 _ _ _ hs,D0 hj (by omega)]
   rw[bt (zc7 hj),bt (j9 hj),bf hne]
   rfl,trivial⟩) (λa _=>by simp only[ta2,Da1];rw[bf (mc2 (Qid _))]) 0 (Qbw _) 0 trivial
 have h:=h.1;rw[Qia] at h;unfold Ka9;simp only[j8,o7];rw[show (⟨0,l,0⟩:za3)=⟨((0:Nat):Int),l,((0:Nat):Int)⟩ from rfl,h]
 rfl
def okp(p:Pln):Bool:=[p.n.x,p.n.y,p.n.z].all (smb 4608)&&(g3 p.n==1&&[p.b].all (smb 2097152))
theorem Rf9(p:Pln):Bd p↔[p.n.x,p.n.y,p.n.z].all (smb 4608)=true/\[p.b].all (smb 2097152)=true:=by
 simp only[List.all_cons,List.all_nil,Qii,Qas,ud8,Sm];exact⟨λh=>⟨⟨⟨h.x1,h.x2⟩,⟨h.y1,h.y2⟩,h.z1,h.z2⟩,h.b1,h.b2⟩,λ⟨⟨⟨a,b⟩,⟨c,d⟩,e,f⟩,g,h⟩=>⟨a,b,c,d,e,f,g,h⟩⟩
theorem gd5{p:Pln}(h:okp p=true):Bd p:=by
 unfold okp at h;rw[Qas,Qas] at h;exact (Rf9 p).2 ⟨h.1,h.2.2⟩
theorem sm3{v:V3}(h:[v.x,v.y,v.z].all (smb 4608)=true):Sm 4608 v.x/\Sm 4608 v.y/\Sm 4608 v.z:=by
 simpa only[List.all_cons,List.all_nil,Qii,Qas,ud8] using h
theorem qe2(p:Pln):db6 p=some (b (okp p),[]):=by
 unfold db6 okp;have l3:[p.n.x,p.n.y,p.n.z].length<=1000000000:=by simp
 have l1:[p.b].length<=1000000000:=by simp
 simp only[Sd8 4608 _ (by omega) l3,Sd9 4608 _ (by omega) l3,Sd8 2097152 _ (by omega) l1,Sd9 2097152 _ (by omega) l1]
 cases hw:[p.n.x,p.n.y,p.n.z].all (smb 4608) with
 |false=>rfl
 |true =>
  obtain⟨h1,h2,h3⟩:=sm3 hw;have hd:=Ee0 [p.n.x,p.n.y,p.n.z] l3 (by
   intro x hx;simp only[Qbi,Qiy,or_false] at hx
   rcases hx with rfl|rfl|rfl
   ·exact h1.mono (by omega)
   ·exact h2.mono (by omega)
   ·exact h3.mono (by omega))
  have hg:([p.n.x,p.n.y,p.n.z].foldl (λg x=>Nat.gcd g x.natAbs) 0:Nat)=Nat.gcd (Nat.gcd p.n.x.natAbs p.n.y.natAbs) p.n.z.natAbs:=by
   simp only[List.foldl_cons,List.foldl_nil,Qiv]
  have hp:gb1 [p.n.x,p.n.y,p.n.z]=g3 p.n:=by unfold gb1;rw[hd,hg];rfl
  have hgd:gb2 [p.n.x,p.n.y,p.n.z]=true:=by unfold gb2;rw[hd];rfl
  rw[hp,hgd];cases g3 p.n==1<;>rfl
theorem Bf7(p:Pln):zb9 p=okp p:=by unfold zb9;rw[qe2 p];rfl
theorem Bf8(p:Pln):Ab0 p=true:=by unfold Ab0;rw[qe2 p];rfl
theorem gd6(P:ya9)(g n:Nat)(hn:n<=1000000000000000000):lp (sa8 P) ⟨(g:Int),(n:Int)⟩=(1,⟨(Nat.gcd g n:Nat),0⟩):=by
 have:=nd7 (step:=sa8 P) (mk:=λg n=>(⟨g,n⟩:da9)) (λg n h=>by
  have h0:n≠0:=by omega
  simp[sa8,pb0,Pb2,h,h0]) (λg=>by simp[sa8,pb0,Pb2]) (g:Int) (n:Int) (by omega) (by omega) (by omega)
 rw[this,kf5]
theorem Ke8{v:V3}(h1:Sm 1000000000000000000 v.x)(h2:Sm 1000000000000000000 v.y)(h3:Sm 1000000000000000000 v.z) :
  Qb1 v=if g3 v=0 then some (.tup [.agg (tV.row ⟨0,0,0⟩),i 0],[]) else some (.tup [.agg (tV.row ⟨W (Int.tdiv v.x (g3 v)),W (Int.tdiv v.y (g3 v)),W (Int.tdiv v.z (g3 v))⟩),i (g3 v)],[]):=by
 have ne:∀{x:Int},Sm 1000000000000000000 x->(x==(-9223372036854775808:Int))=false:=λ{x} h=>by
  have:=h.1
  rw[beq_eq_false_iff_ne];omega
 have bd:∀{x:Int},Sm 1000000000000000000 x->x.natAbs<=1000000000000000000:=λ{x} h=>by obtain⟨h1,h2⟩:=h;omega
 have l1:=gd6 ⟨0,v.x,v.y,v.z,v.x,v.y,v.z⟩ 0 v.x.natAbs (bd h1);rw[Qiv] at l1;have l2:=gd6 ⟨1,v.x,v.y,v.z,v.x,v.y,v.z⟩ v.x.natAbs v.y.natAbs (bd h2);have l3:=gd6 ⟨2,v.x,v.y,v.z,v.x,v.y,v.z⟩ (Nat.gcd v.x.natAbs v.y.natAbs) v.z.natAbs (bd h3);unfold Qb1;simp only[Ac0 h1,Ac0 h2,Ac0 h3,Ac1 h1,Ac1 h2,Ac1 h3];rw[show (⟨0,(v.x.natAbs:Int)⟩:da9)=⟨((0:Nat):Int),(v.x.natAbs:Int)⟩ from rfl]
 simp only[l1,l2,l3,ne h1,ne h2,ne h3];rw[show ((Nat.gcd (Nat.gcd v.x.natAbs v.y.natAbs) v.z.natAbs:Nat):Int)=g3 v from rfl]
 by_cases h:g3 v=0
 ·rw[if_pos h,show (g3 v==0)=true from by rw[h];rfl];rfl
 ·rw[if_neg h,show (g3 v==0)=false from by rw[beq_eq_false_iff_ne];exact h];rfl
theorem Ee1{v:V3}(h1:Sm 1000000000000000000 v.x)(h2:Sm 1000000000000000000 v.y)(h3:Sm 1000000000000000000 v.z):(kc4 v).2=g3 v:=by
 unfold kc4;rw[Ke8 h1 h2 h3];split
 ·rename_i h;rw[h];rfl
 ·rfl
theorem Sf0{v:V3}(h1:Sm 1000000000000000000 v.x)(h2:Sm 1000000000000000000 v.y)(h3:Sm 1000000000000000000 v.z):kc5 v=true:=by
 unfold kc5;rw[Ke8 h1 h2 h3]
 split<;>rfl
theorem Td0(p:Pln):Bb3 p=some (b (okp p),[]):=by
 unfold Bb3 okp;cases hw:[p.n.x,p.n.y,p.n.z].all (smb 4608) with
 |false =>
  simp only[List.all_cons,List.all_nil,Qii,smb] at hw;cases h1:decide (p.n.x < -4608)<;>cases h2:decide (p.n.x>4608)<;>cases h3:decide (p.n.y < -4608)<;>cases h4:decide (p.n.y>4608)<;>cases h5:decide (p.n.z < -4608)<;>cases h6:decide (p.n.z>4608)<;>simp only[h1,h2,h3,h4,h5,h6] at hw ⊢<;>first | rfl | cases hw
 |true =>
  obtain⟨h1,h2,h3⟩:=sm3 hw;rw[bf (decide_eq_false (by have:=h1.1;omega)),bf (decide_eq_false (by have:=h1.2;omega)),bf (decide_eq_false (by have:=h2.1;omega)),bf (decide_eq_false (by have:=h2.2;omega)),bf (decide_eq_false (by have:=h3.1;omega)),bf (decide_eq_false (by have:=h3.2;omega))]
  have k1:=h1.mono (m:=1000000000000000000) (by omega)
  have k2:=h2.mono (m:=1000000000000000000) (by omega)
  have k3:=h3.mono (m:=1000000000000000000) (by omega)
  rw[bt (Sf0 k1 k2 k3),Ee1 k1 k2 k3];cases g3 p.n==1 with
  |false=>rfl
  |true =>
   simp only[List.all_cons,List.all_nil,Qii,smb,Bool.true_and];rw[i6];by_cases ha:p.b < -2097152
   ·rw[bf (decide_eq_false (by omega)),show decide (p.b < -2097152)=true from decide_eq_true ha];rfl
   ·rw[bt (decide_eq_true (by omega)),show decide (p.b < -2097152)=false from decide_eq_false ha]
    congr 3;by_cases hc:p.b<=2097152
    ·rw[decide_eq_true hc,decide_eq_false (by omega)];rfl
    ·rw[decide_eq_false hc,decide_eq_true (by omega)];rfl
theorem kf6(p:Pln):Xb5 p=okp p:=by unfold Xb5;rw[Td0 p];rfl
theorem kf7(p:Pln):Xb6 p=true:=by unfold Xb6;rw[Td0 p];rfl
def chk(l:PLq):Int:=if (l.length:Int)>48 then 2 else if l.all okp then 0 else 12
theorem qe3(l:PLq)(hl:l.length<=1000000000):qb4 l=some (i (chk l),[]):=by
 have hk1:∀p,Sa5 p=some (b (!okp p),[]):=λp=>by unfold Sa5;rw[Bf8,Bf7];rfl
 have hp1:∀p,qb2 p=!okp p:=λp=>by unfold qb2;rw[hk1];rfl
 have hg1:∀p,qb3 p=true:=λp=>by unfold qb3;rw[hk1];rfl
 have h:=Ab4 (step:=Q4 ⟨l,(l.length:Int)⟩) (mk:=λj=>(⟨(j:Int)⟩:D1)) (c:=λp=>!okp p) (u:=1) (fin:=2) tP l hl
  (λj hj=>by
   simp only[Q4,Y5,Int.toNat_natCast,hp1,hg1,D0 hj (by omega)]
   rw[bt (zc7 hj),bt (j9 hj),i6])
  (by simp only[Q4,Y5];rw[bf (mc2 (Qid _))]) 0 (Qbw _)
 rw[Qia] at h;have e:(l.any λx=>!okp x)=!l.all okp:=by rw[Qig]
 unfold qb4 oa1 oa0 wa2 wa1 chk;simp only[j8,o7];rw[show (⟨0⟩:D1)=⟨((0:Nat):Int)⟩ from rfl,h,e]
 by_cases hn:(l.length:Int)>48
 ·rw[bt (decide_eq_true hn),if_pos hn]
 ·rw[bf (decide_eq_false hn),if_neg hn];cases l.all okp with
  |true=>rfl
  |false =>
   simp only[Qis,if_true,Qar];show sl true (sl (Nat.beq 1 1) (sl (decide (((l.findIdx λp=>!okp p:Nat):Int)>=0)) _ _) _) _=_
   rw[show decide (((l.findIdx λp=>!okp p:Nat):Int)>=0)=true from decide_eq_true (by omega)]
   rfl
theorem Hc7(l:PLq)(hl:l.length<=1000000000):ea0 l=chk l:=by unfold ea0;rw[qe3 l hl];rfl
theorem ud9(l:PLq)(hl:l.length<=1000000000):Ia6 l=true:=by unfold Ia6;rw[qe3 l hl];rfl
theorem Td1(l:PLq)(hl:l.length<=1000000000):Bb4 l=some (i (chk l),[]):=by
 have h:=Qc0 (step:=Ra9 ⟨l⟩) (mk:=λj=>(⟨(j:Int)⟩:ja7)) (c:=λp=>!okp p) (u:=1) (fin:=2) tP l hl
  (λj hj=>by
   simp only[Ra9,fb9,Int.toNat_natCast,kf6,kf7,D0 hj (by omega)]
   rw[bt (zc7 hj),bt (j9 hj),i6])
  (by simp only[Ra9,fb9];rw[bf (mc2 (Qid _))]) 0 (Qbw _)
 rw[Qia] at h;have e:(l.any λx=>!okp x)=!l.all okp:=by rw[Qig]
 unfold Bb4 chk;simp only[j8,o7];rw[show (⟨0⟩:ja7)=⟨((0:Nat):Int)⟩ from rfl,h,e]
 by_cases hn:(l.length:Int)>48
 ·rw[bt (decide_eq_true hn),if_pos hn]
 ·rw[bf (decide_eq_false hn),if_neg hn];cases l.all okp<;>rfl
theorem kf8(l:PLq)(hl:l.length<=1000000000):Xb7 l=chk l:=by unfold Xb7;rw[Td1 l hl];rfl
theorem kf9(l:PLq)(hl:l.length<=1000000000):Xb8 l=true:=by unfold Xb8;rw[Td1 l hl];rfl
theorem Ua3{l:PLq}:chk l=0↔l.length<=48/\∀p∈l,okp p=true:=by
 unfold chk;by_cases hn:(l.length:Int)>48
 ·rw[if_pos hn];exact⟨λh=>absurd h (by decide),λh=>by omega⟩
 ·rw[if_neg hn];cases h:l.all okp with
  |true=>exact⟨λ_=>⟨by omega,Qcb.1 h⟩,λ_=>rfl⟩
  |false=>exact⟨λh=>absurd h (by decide),λh'=>by rw[Qcb.2 h'.2] at h;cases h⟩
theorem btD{p:Prop}{inst:Decidable p}(h:p){α:Type}(t e:α):sl (@decide p inst) t e=t:=bt (decide_eq_true h) t e
theorem bfD{p:Prop}{inst:Decidable p}(h:¬ p){α:Type}(t e:α):sl (@decide p inst) t e=e:=bf (decide_eq_false h) t e
theorem s8{j n:Nat}(h:j<n):(j:Int)<(n:Int):=Qiw.2 h
theorem E2{j n:Nat}(h:¬ j<n):¬ (j:Int)<(n:Int):=λh'=>h (Qiw.1 h')
theorem Ma1{σ τ α:Type}{step:σ->Stp σ}{mk:Nat->τ->σ}{f:α->List α->τ->τ}{g:List α->τ->τ}{fin:τ->Nat}(l:List α)(I:Nat->τ->Prop)(hl:l.length<=1000000000)
  (g0:∀a,g [] a=a) (g1:∀x r a,g (x::r) a=g r (f x r a))
  (h:∀j a (hj:j<l.length),I j a->step (mk j a)=.next (mk (j+1) (f l[j] (l.drop (j+1)) a))/\I (j+1) (f l[j] (l.drop (j+1)) a))
  (hf:∀j a,l.length<=j->I j a->step (mk j a)=.exit (fin a)) (j0:Nat) (a:τ) (hi:I j0 a) :
  lp step (mk j0 a)=(fin (g (l.drop j0) a),mk (max j0 l.length) (g (l.drop j0) a))/\I (max j0 l.length) (g (l.drop j0) a):=by
 have key:=zc8 (step:=step) (I:=λm s=>∃j b,m=l.length-j/\max j l.length=max j0 l.length/\s=mk j b/\I j b/\g (l.drop j) b=g (l.drop j0) a)
  (Q:=λu s=>u=fin (g (l.drop j0) a)/\s=mk (max j0 l.length) (g (l.drop j0) a)/\I (max j0 l.length) (g (l.drop j0) a)) (λm s ⟨j,b,hm,hj,hs,hb,he⟩=>by
   subst hs;by_cases hlt:j<l.length
   ·obtain⟨h1,h2⟩:=h j b hlt hb;refine .inr ⟨_,l.length-(j+1),by omega,h1,j+1,_,rfl,by omega,rfl,h2,?_⟩
    rw[<- he,Qib hlt,g1]
   ·have hd:l.drop j=[]:=Qij (by omega)
    rw[hd,g0] at he;have hj':j=max j0 l.length:=by omega
    subst he;rw[<- hj'];exact .inl ⟨_,hf j _ (by omega) hb,rfl,rfl,hb⟩) (l.length-j0) (mk j0 a) (by omega) ⟨j0,a,rfl,rfl,rfl,hi,rfl⟩
 exact⟨Prod.ext key.1 key.2.1,key.2.2⟩
def Ua4(r:PLq)(p q:Pln)(out:List Pt)(s:Pln):List Pt :=
 if (mpt p q s).2&&(!zc9 out (mpt p q s).1&&inn r (mpt p q s).1) then out++[(mpt p q s).1] else out
def Hb4(r:PLq)(p q:Pln)(l:PLq)(out:List Pt):List Pt:=l.foldl (Ua4 r p q) out
def rb8(r:PLq)(p:Pln):PLq->List Pt->List Pt
 |[],out=>out
 |q::l,out=>rb8 r p l (Hb4 r p q l out)
def Yc4(r:PLq):PLq->List Pt->List Pt
 |[],out=>out
 |p::l,out=>Yc4 r l (rb8 r p l out)
def cor(r:PLq):List Pt:=Yc4 r r []
def Bds(r:PLq):Prop:=∀p∈r,Bd p
theorem gd7(r:PLq)(p q:Pln)(out:List Pt)(s:Pln):(Ua4 r p q out s).length<=out.length+1:=by
 unfold Ua4;split
 ·simp
 ·omega
theorem Yc5(r:PLq)(p q:Pln):∀(l:PLq) (out:List Pt),(Hb4 r p q l out).length<=out.length+l.length
 |[],out=>Qaf _
 |s::l,out=>by
  have h1:=gd7 r p q out s;have h2:=Yc5 r p q l (Ua4 r p q out s);show (Hb4 r p q l (Ua4 r p q out s)).length<=_;simp only[List.length_cons];omega
theorem Ed2(r:PLq)(p:Pln):∀(l:PLq) (out:List Pt),l.length<=200->(rb8 r p l out).length<=out.length+200*l.length
 |[],out,_=>by simp[rb8]
 |q::l,out,h=>by
  simp only[List.length_cons] at h ⊢;have h1:=Yc5 r p q l out;have h2:=Ed2 r p l (Hb4 r p q l out) (by omega)
  show (rb8 r p l (Hb4 r p q l out)).length<=_;omega
theorem qe4(r:PLq):∀(l:PLq) (out:List Pt),l.length<=200->(Yc4 r l out).length<=out.length+40000*l.length
 |[],out,_=>by simp[Yc4]
 |p::l,out,h=>by
  simp only[List.length_cons] at h ⊢;have h1:=Ed2 r p l out (by omega)
  have h2:=qe4 r l (rb8 r p l out) (by omega)
  show (Yc4 r l (rb8 r p l out)).length<=_;omega
theorem ce9(r:PLq)(_:Bds r)(hr:r.length<=200):(cor r).length<=8000000:=by
 have:=qe4 r r [] hr
 rw[List.length_nil] at this;show (Yc4 r r []).length<=_;omega
def ph(out:List Pt):Nat:=match out with
 |[]=>0
 |_::_=>1
theorem qe5(x:Pt):zc9 [] x=false:=rfl
theorem vd0{α:Type}(t:Ty α)(l:List α)(n k:Nat):gL t (l.drop n) k=gL t l (n+k):=by simp[gL,Qda,Qbf]
theorem qe6{n:Nat}{l:List Pt}(hn:n=l.length)(h:l.length<=1000000000):(Nat.beq n (len (bL tX l))&&Nat.ble ((n+1)*32) room)=true:=by
 subst hn;rw[O3,Qip,Bool.true_and];exact mc3 (by omega)
theorem Ke9(l:List Pt)(x:Pt):app (bL tX l) [[i x.px,i x.py,i x.pz,i x.pw]]=bL tX (l++[x]):=ob5 tX l [x]
@[reducible] noncomputable def Ic9(k:Nat)(out:List Pt):F8:=⟨ph out,(k:Int),out.length,bL tX out⟩
theorem Sf1(l:List Pt):slR tX (bL tX l) 0 l.length=l:=Oc9 tX l
theorem Bf9(r:PLq)(hb:Bds r)(hr:r.length<=200)(a c k:Nat)(ha:a<r.length)(hc:c<r.length)(out:List Pt)(ho:out.length<=1000000000)(hk:k<r.length) :
  ba9 ⟨r,a,c⟩ (Ic9 k out)=.next (Ic9 (k+1) (Ua4 r r[a] r[c] out r[k])):=by
 have hin:∀x,ec5 r x=inn r x:=λx=>qg5 r x (by omega)
 have hig:∀x,ec6 r x=true:=λx=>qg6 r x (by omega)
 have hth:∀x,jb3 out x=zc9 out x:=λx=>Bf5 out x ho
 have htg:∀x,jb4 out x=true:=λx=>Bf6 out x ho
 have hme:=Bf2 (hb _ (Qif ha)) (hb _ (Qif hc)) (hb _ (Qif hk));have hmg:=Bf3 (hb _ (Qif ha)) (hb _ (Qif hc)) (hb _ (Qif hk));unfold ba9;cases out with
 |nil =>
  show ma0 Stp.next Stp.exit Stp.fail _ (Ic9 k [])=_;simp only[ma0,Ic9,Int.toNat_natCast,j8,B8,eb4 tP ha,eb4 tP hc,eb4 tP hk,hme,hmg,hin,hig,hth,htg,D0 hk (by omega)]
  rw[btD (s8 hk),bt (j9 ha),bt (j9 hc),bt (j9 hk),i6];unfold Ua4;rw[qe5];cases (mpt r[a] r[c] r[k]).2 with
  |false=>rfl
  |true =>
   cases inn r (mpt r[a] r[c] r[k]).1 with
   |false=>rfl
   |true=>rfl
 |cons o os =>
  show ma1 Stp.next Stp.exit Stp.fail _ (Ic9 k (o::os))=_;simp only[ma1,Ic9,Int.toNat_natCast,j8,B8,eb4 tP ha,eb4 tP hc,eb4 tP hk,hme,hmg,hin,hig,Sf1,Pc0,hth,htg,D0 hk (by omega)]
  rw[btD (s8 hk),bt (j9 ha),bt (j9 hc),bt (j9 hk),i6,qe6 rfl ho,Ke9];unfold Ua4;cases (mpt r[a] r[c] r[k]).2 with
  |false=>rfl
  |true =>
   cases inn r (mpt r[a] r[c] r[k]).1 with
   |false=>cases zc9 (o::os) (mpt r[a] r[c] r[k]).1<;>rfl
   |true =>
    cases zc9 (o::os) (mpt r[a] r[c] r[k]).1 with
    |true=>rfl
    |false =>
     show Stp.next (⟨1,((k+1:Nat):Int),(o::os).length+1,bL tX (o::os++[(mpt r[a] r[c] r[k]).1])⟩:F8)=_;simp[ph]
theorem Sf2(r:PLq)(a c k:Nat)(out:List Pt)(hk:r.length<=k):ba9 ⟨r,a,c⟩ (Ic9 k out)=.exit (ph out+1):=by
 unfold ba9;have this:¬ ((k:Int)<(r.length:Int)):=by omega
 cases out with
 |nil =>
  show ma0 Stp.next Stp.exit Stp.fail _ (Ic9 k [])=_;simp only[ma0,Ic9];rw[bfD this];rfl
 |cons o os =>
  show ma1 Stp.next Stp.exit Stp.fail _ (Ic9 k (o::os))=_;simp only[ma1,Ic9];rw[bfD this];rfl
theorem Cf0(r:PLq)(hb:Bds r)(hr:r.length<=200)(a c:Nat)(ha:a<r.length)(hc:c<r.length)(k:Nat)(out:List Pt)(ho:out.length<=100000000) :
  ∃m,lp (ba9 ⟨r,a,c⟩) (Ic9 k out)=(ph (Hb4 r r[a] r[c] (r.drop k) out)+1,Ic9 m (Hb4 r r[a] r[c] (r.drop k) out)) :=
 ⟨_,(Ma1 (mk:=Ic9) (f:=λs _ out=>Ua4 r r[a] r[c] out s) (g:=λl out=>Hb4 r r[a] r[c] l out) (fin:=λout=>ph out+1) r (λj o=>o.length+k<=out.length+j) (by omega)
  (λ_=>rfl) (λ_ _ _=>rfl) (λj o hj hi=>⟨Bf9 r hb hr a c j ha hc o (by omega) hj,by have:=gd7 r r[a] r[c] o r[j];show (Ua4 r r[a] r[c] o r[j]).length+k<=out.length+(j+1);omega⟩)
  (λj o hj _=>Sf2 r a c j o hj) k out (by omega)).1⟩
@[reducible] noncomputable def Jc0(r:PLq)(j:Nat)(out:List Pt):I4:=⟨ph out,r,(j:Int),out.length,bL tX out⟩
theorem Cf1(r:PLq)(hb:Bds r)(hr:r.length<=200)(a j:Nat)(ha:a<r.length)(out:List Pt)(ho:out.length<=100000000)(hj:j<r.length) :
  V9 ⟨a⟩ (Jc0 r j out)=.next (Jc0 r (j+1) (Hb4 r r[a] r[j] (r.drop (j+1)) out)):=by
 obtain⟨m,hm⟩:=Cf0 r hb hr a j ha hj (j+1) out ho;unfold V9;generalize Hb4 r r[a] r[j] (r.drop (j+1)) out=res at *
 cases out with
 |nil =>
  show ma2 Stp.next Stp.exit Stp.fail _ (Jc0 r j [])=_;simp only[ma2,Jc0,j8,o7,D0 hj (by omega)]
  rw[show (⟨0,((j+1:Nat):Int),0,[]⟩:F8)=Ic9 (j+1) [] from rfl,hm,btD (s8 hj)]
  cases res<;>rfl
 |cons o os =>
  show ma3 Stp.next Stp.exit Stp.fail _ (Jc0 r j (o::os))=_;simp only[ma3,Jc0,j8,o7,D0 hj (by omega)]
  rw[show (⟨1,((j+1:Nat):Int),(o::os).length,bL tX (o::os)⟩:F8)=Ic9 (j+1) (o::os) from rfl,hm,btD (s8 hj)]
  cases res<;>rfl
theorem Sf3(r:PLq)(a j:Nat)(out:List Pt)(hj:r.length<=j):V9 ⟨a⟩ (Jc0 r j out)=.exit (ph out+1):=by
 unfold V9;have this:¬ ((j:Int)<(r.length:Int)):=by omega
 cases out with
 |nil =>
  show ma2 Stp.next Stp.exit Stp.fail _ (Jc0 r j [])=_;simp only[ma2,Jc0];rw[bfD this];rfl
 |cons o os =>
  show ma3 Stp.next Stp.exit Stp.fail _ (Jc0 r j (o::os))=_;simp only[ma3,Jc0];rw[bfD this];rfl
theorem Cf2(r:PLq)(hb:Bds r)(hr:r.length<=200)(a:Nat)(ha:a<r.length)(j:Nat)(out:List Pt)(ho:out.length<=40000*a) :
  ∃m,lp (V9 ⟨a⟩) (Jc0 r j out)=(ph (rb8 r r[a] (r.drop j) out)+1,Jc0 r m (rb8 r r[a] (r.drop j) out))/\(rb8 r r[a] (r.drop j) out).length<=40000*(a+1):=by
 have hk:=Ma1 (step:=V9 ⟨a⟩) (mk:=Jc0 r) (f:=λq l out=>Hb4 r r[a] q l out) (g:=λl out=>rb8 r r[a] l out) (fin:=λout=>ph out+1) r (λk o=>o.length<=40000*a+200*(k-j)/\j<=k/\k<=j+r.length) (by omega)
  (λ_=>rfl) (λ_ _ _=>rfl) (λk o hj hi=>⟨Cf1 r hb hr a k ha o (by omega) hj,by
   have:=Yc5 r r[a] r[k] (r.drop (k+1)) o
   rw[Qie] at this;show (Hb4 r r[a] r[k] (r.drop (k+1)) o).length<=40000*a+200*(k+1-j)/\j<=k+1/\k+1<=j+r.length
   omega⟩)
  (λk o hj _=>Sf3 r a k o hj) j out (by omega)
 exact⟨_,hk.1,by have:=hk.2;omega⟩
@[reducible] noncomputable def Qc1(r:PLq)(j:Nat)(out:List Pt):L4:=⟨ph out,r,(j:Int),out.length,bL tX out⟩
theorem Le0(r:PLq)(hb:Bds r)(hr:r.length<=200)(a:Nat)(ha:a<r.length)(out:List Pt)(ho:out.length<=40000*a) :
  ca0 ⟨⟩ (Qc1 r a out)=.next (Qc1 r (a+1) (rb8 r r[a] (r.drop (a+1)) out))/\(rb8 r r[a] (r.drop (a+1)) out).length<=40000*(a+1):=by
 obtain⟨m,hm,hl⟩:=Cf2 r hb hr a ha (a+1) out ho;refine⟨?_,hl⟩
 clear hl
 unfold ca0;generalize rb8 r r[a] (r.drop (a+1)) out=res at *
 cases out with
 |nil =>
  show ma4 Stp.next Stp.exit Stp.fail _ (Qc1 r a [])=_;simp only[ma4,Qc1,j8,o7,D0 ha (by omega)]
  rw[show (⟨0,r,((a+1:Nat):Int),0,[]⟩:I4)=Jc0 r (a+1) [] from rfl,hm,btD (s8 ha)]
  cases res<;>rfl
 |cons o os =>
  show ma5 Stp.next Stp.exit Stp.fail _ (Qc1 r a (o::os))=_;simp only[ma5,Qc1,j8,o7,D0 ha (by omega)]
  rw[show (⟨1,r,((a+1:Nat):Int),(o::os).length,bL tX (o::os)⟩:I4)=Jc0 r (a+1) (o::os) from rfl,hm,btD (s8 ha)]
  cases res<;>rfl
theorem Sf4(r:PLq)(j:Nat)(out:List Pt)(hj:r.length<=j):ca0 ⟨⟩ (Qc1 r j out)=.exit (ph out+1):=by
 unfold ca0;have this:¬ ((j:Int)<(r.length:Int)):=by omega
 cases out with
 |nil =>
  show ma4 Stp.next Stp.exit Stp.fail _ (Qc1 r j [])=_;simp only[ma4,Qc1];rw[bfD this];rfl
 |cons o os =>
  show ma5 Stp.next Stp.exit Stp.fail _ (Qc1 r j (o::os))=_;simp only[ma5,Qc1];rw[bfD this];rfl
theorem Cf3(r:PLq)(hb:Bds r)(hr:r.length<=200):∃m,lp (ca0 ⟨⟩) (Qc1 r 0 [])=(ph (cor r)+1,Qc1 r m (cor r))/\(cor r).length<=8000000:=by
 have hk:=Ma1 (step:=ca0 ⟨⟩) (mk:=Qc1 r) (f:=λq l out=>rb8 r q l out) (g:=λl out=>Yc4 r l out) (fin:=λout=>ph out+1) r (λk o=>o.length<=40000*k/\k<=r.length) (by omega)
  (λ_=>rfl) (λ_ _ _=>rfl) (λk o hj hi=>⟨(Le0 r hb hr k hj o hi.1).1,(Le0 r hb hr k hj o hi.1).2,hj⟩)
  (λk o hj _=>Sf4 r k o hj) 0 [] (by simp)
 exact⟨_,hk.1,by have:=hk.2;rw[show max 0 r.length=r.length by omega] at this;have h1:=this.1;show (Yc4 r r []).length<=_;rw[Qia] at h1;omega⟩
def slX(l:List Pt):c7×List c8:=match l with
 |[]=>(.v (.slice none 0 0),[])
 |_::_=>(.sl 0 0 l.length 0,[⟨114,4,bL tX l,true,false,0⟩])
theorem de0(l:List Pt):(one (r1L tX)).rd (slX l)=some l:=by
 cases l with
 |nil=>rfl
 |cons x l =>
  show Bool.rec (motive:=λ_=>Option (List Pt)) none (some (slR tX (bL tX (x::l)) 0 (x::l).length)) (Bool.and true (okS tX (bL tX (x::l)) 0 (x::l).length))=_
  rw[Oc9,Pc0];rfl
theorem nd8(r:PLq)(hb:Bds r)(hr:r.length<=200):db1 r=some (slX (cor r)):=by
 obtain⟨m,hm,_⟩:=Cf3 r hb hr;unfold db1;simp only[j8,o7];rw[show (⟨0,r,0,0,[]⟩:L4)=Qc1 r 0 [] from rfl,hm]
 cases cor r<;>rfl
theorem kb1{ρ:Type}(R:RR ρ){x:c7×List c8}{r:ρ}(h:R.rd x=some r):aa3 R (some x)=r:=by
 show Option.rec (motive:=λ_=>ρ) R.d (λx=>x) (R.rd x)=r
 rw[h]
theorem Db1{ρ:Type}(R:RR ρ){x:c7×List c8}{r:ρ}(h:R.rd x=some r):okO R (some x)=true:=by
 show Option.rec (motive:=λ_=>Bool) false (λ_=>true) (R.rd x)=true
 rw[h]
theorem Ee2(r:PLq)(hb:Bds r)(hr:r.length<=200):zb7 r=cor r:=by unfold zb7;rw[nd8 r hb hr];exact kb1 _ (de0 _)
theorem Ee3(r:PLq)(hb:Bds r)(hr:r.length<=200):zb8 r=true:=by unfold zb8;rw[nd8 r hb hr];exact Db1 _ (de0 _)
def Ld7(x:Pt):List c7:=[i x.px,i x.py,i x.pz,i x.pw,b true]
def rc3(l:List Pt):List (List c7):=l.map Ld7
@[reducible] noncomputable def flK:List (Nat×CK):=[(0,.int .i64),(1,.int .i64),(2,.int .i64),(3,.int .i64)]
theorem qe7(x q:Pt):Ic5 flK [i x.px,i x.py,i x.pz,i x.pw] (Ld7 q)=eqX x q:=by
 show Bool.and (decide (x.px=q.px)) (Bool.and (decide (x.py=q.py)) (Bool.and (decide (x.pz=q.pz)) (Bool.and (decide (x.pw=q.pw)) true)))=_;unfold eqX;have h:∀a c:Int,decide (a=c)=(c==a):=λa c=>by rw[Bool.eq_iff_iff,decide_eq_true_eq,beq_iff_eq];exact eq_comm
 rw[h,h,h,h]
theorem Ed3(x:Pt):∀l,Tc2 4 flK [i x.px,i x.py,i x.pz,i x.pw] (rc3 l)=zc9 l x
 |[]=>rfl
 |q::l=>by
  have ih:=Ed3 x l;unfold Tc2 at ih ⊢;show Option.rec (motive:=λ_=>Bool) false (λr=>toB (hdA (l9 r 4))) (Bool.rec (motive:=λ_=>Option (List c7)) (kd7 flK [i x.px,i x.py,i x.pz,i x.pw] (rc3 l)) (some (Ld7 q)) (Ic5 flK [i x.px,i x.py,i x.pz,i x.pw] (Ld7 q)))=zc9 (q::l) x
  rw[qe7];unfold zc9 at ih ⊢;rw[List.any_cons];cases eqX x q with
  |true=>rfl
  |false=>exact ih
theorem Td2(x:Pt):∀l,zc9 l x=false->Zb1 flK [i x.px,i x.py,i x.pz,i x.pw] (Ld7 x) (rc3 l)=rc3 (l++[x])
 |[],_=>rfl
 |q::l,h=>by
  unfold zc9 at h;rw[List.any_cons,Bool.or_eq_false_iff] at h;show Bool.rec (motive:=λ_=>List (List c7)) (Ld7 q::Zb1 flK [i x.px,i x.py,i x.pz,i x.pw] (Ld7 x) (rc3 l)) (Ld7 x::rc3 l) (Ic5 flK [i x.px,i x.py,i x.pz,i x.pw] (Ld7 q))=_
  rw[qe7,h.1,Td2 x l h.2];rfl
@[reducible] noncomputable def Jc1(k:Nat)(out:List Pt):s6:=⟨ph out,(k:Int),out.length,bL tX out,rc3 out⟩
structure C2(P:s5)(r:PLq)(p q:Pln)(lo:Nat):Prop where
 ns:P.tf5=(r.drop lo).length
 gs:P.tf6=λk=>tP.row (gL tP r (lo+k))
 is:P.Ga8=((r.drop lo).length:Int)
 p1:(⟨⟨P.Ja8,P.Ja9,P.Ka0⟩,P.Ka1⟩:Pln)=p
 q1:(⟨⟨P.oc9,P.Z4,P.pc0⟩,P.cd1⟩:Pln)=q
 r1:P.Ya6=r
theorem de1(s:Pln):(⟨⟨toI (hdA (tP.row s)),toI (hdA (tlA (tP.row s))),toI (hdA (tlA (tlA (tP.row s))))⟩,toI (hdA (tlA (tlA (tlA (tP.row s)))))⟩:Pln)=s:=rfl
theorem de2(s:Pln):((Nat.ble 4 (len (tP.row s)))&&(sa5 [CK.int .i64,CK.int .i64,CK.int .i64,CK.int .i64] (tP.row s)))=true:=rfl
theorem Cf4{P:s5}{r:PLq}{p q:Pln}{lo:Nat}(h:C2 P r p q lo)(hb:Bds r)(hr:r.length<=200)(hp:Bd p)(hq:Bd q)(k:Nat)(out:List Pt)(ho:out.length<=1000000000)(hk:k<(r.drop lo).length) :
  J2 P (Jc1 k out)=.next (Jc1 (k+1) (Ua4 r p q out (r.drop lo)[k])):=by
 have hwi:∀x,Na5 r x=inn r x:=λx=>kf2 r x (by omega)
 have hwg:∀x,Na6 r x=true:=λx=>kf3 r x (by omega)
 have hs:gL tP r (lo+k)=(r.drop lo)[k]:=by rw[<- vd0,eb4 tP hk]
 have hbs:Bd (r.drop lo)[k]:=hb _ (List.mem_of_mem_drop (Qif hk));have hd:(r.drop lo).length<=200:=by rw[Qie];omega
 have hme:=Rf7 hp hq hbs;have hmg:=Rf8 hp hq hbs;obtain⟨x1,x2,x3,x4,x5,x6,x7,x8,x9,x10,x11,x12,x13,x14,x15,x16,x17,x18,x19,x20,x21⟩:=P;obtain⟨ns,gs,is,p1,q1,r1⟩:=h
 simp only at ns gs is p1 q1 r1
 have r1:=r1.symm;subst ns gs is r1;unfold J2;cases out with
 |nil =>
  show O6 Stp.next Stp.exit Stp.fail _ (Jc1 k [])=_;simp only[O6,Jc1,Int.toNat_natCast,j8,B8,p1,q1,hs,de1,de2,hme,hmg,hwi,hwg,D0 hk (by omega)]
  rw[btD (s8 hk),bt (j9 hk),i6,i6];unfold Ua4;rw[qe5];cases (mpt p q (r.drop lo)[k]).2 with
  |false=>rfl
  |true =>
   cases inn r (mpt p q (r.drop lo)[k]).1 with
   |false=>rfl
   |true=>rfl
 |cons o os =>
  show O7 Stp.next Stp.exit Stp.fail _ (Jc1 k (o::os))=_;simp only[O7,Jc1,Int.toNat_natCast,j8,B8,p1,q1,hs,de1,de2,hme,hmg,hwi,hwg,D0 hk (by omega),Ed3]
  rw[btD (s8 hk),bt (j9 hk),i6,i6,qe6 rfl ho,Ke9];unfold Ua4;cases (mpt p q (r.drop lo)[k]).2 with
  |false=>rfl
  |true =>
   cases hx:zc9 (o::os) (mpt p q (r.drop lo)[k]).1 with
   |true=>rfl
   |false =>
    cases inn r (mpt p q (r.drop lo)[k]).1 with
    |false=>rfl
    |true =>
     show Stp.next (⟨1,((k+1:Nat):Int),(o::os).length+1,bL tX (o::os++[(mpt p q (r.drop lo)[k]).1]),Zb1 flK [i (mpt p q (r.drop lo)[k]).1.px,i (mpt p q (r.drop lo)[k]).1.py,i (mpt p q (r.drop lo)[k]).1.pz,i (mpt p q (r.drop lo)[k]).1.pw] (Ld7 (mpt p q (r.drop lo)[k]).1) (rc3 (o::os))⟩:s6)=_;rw[Td2 _ _ hx];simp[ph]
theorem Sf5{P:s5}{r:PLq}{p q:Pln}{lo:Nat}(h:C2 P r p q lo)(k:Nat)(out:List Pt)(hk:(r.drop lo).length<=k):J2 P (Jc1 k out)=.exit (ph out+1):=by
 obtain⟨x1,x2,x3,x4,x5,x6,x7,x8,x9,x10,x11,x12,x13,x14,x15,x16,x17,x18,x19,x20,x21⟩:=P;obtain⟨ns,gs,is,p1,q1,r1⟩:=h
 simp only at ns gs is p1 q1 r1
 have r1:=r1.symm;subst ns gs is r1;unfold J2;have this:¬ ((k:Int)<((r.drop lo).length:Int)):=by omega
 cases out with
 |nil =>
  show O6 Stp.next Stp.exit Stp.fail _ (Jc1 k [])=_;simp only[O6,Jc1];rw[bfD this];rfl
 |cons o os =>
  show O7 Stp.next Stp.exit Stp.fail _ (Jc1 k (o::os))=_;simp only[O7,Jc1];rw[bfD this];rfl
theorem Cf5{P:s5}{r:PLq}{p q:Pln}{lo:Nat}(h:C2 P r p q lo)(hb:Bds r)(hr:r.length<=200)(hp:Bd p)(hq:Bd q)(out:List Pt)(ho:out.length<=100000000) :
  ∃m,lp (J2 P) (Jc1 0 out)=(ph (Hb4 r p q (r.drop lo) out)+1,Jc1 m (Hb4 r p q (r.drop lo) out)):=by
 have hd:(r.drop lo).length<=200:=by rw[Qie];omega
 exact⟨_,(Ma1 (mk:=Jc1) (f:=λs _ out=>Ua4 r p q out s) (g:=λl out=>Hb4 r p q l out) (fin:=λout=>ph out+1) (r.drop lo) (λj o=>o.length<=out.length+j) (by omega)
  (λ_=>rfl) (λ_ _ _=>rfl) (λj o hj hi=>⟨Cf4 h hb hr hp hq j o (by omega) hj,by have:=gd7 r p q o (r.drop lo)[j];show (Ua4 r p q o (r.drop lo)[j]).length<=out.length+(j+1);omega⟩)
  (λj o hj _=>Sf5 h j o hj) 0 out (by omega)).1⟩
@[reducible] noncomputable def Jc2(r:PLq)(j:Nat)(out:List Pt):A0:=⟨ph out,r,(j:Int),r,r,out.length,bL tX out,rc3 out⟩
structure C1(P:s7)(r:PLq)(p:Pln)(a:Nat):Prop where
 i3:P.is3=(a:Int)
 ns:P.Nd5=(r.drop (a+1)).length
 gs:P.Nd6=λk=>tP.row (gL tP r (a+1+k))
 is:P.sd8=((r.drop (a+1)).length:Int)
 p1:(⟨⟨P.Ja8,P.Ja9,P.Ka0⟩,P.Ka1⟩:Pln)=p
theorem Cf6{P:s7}{r:PLq}{p:Pln}{a:Nat}(h:C1 P r p a)(hb:Bds r)(hr:r.length<=200)(hp:Bd p)(j:Nat)(out:List Pt)(ho:out.length<=100000000)(hj:j<(r.drop (a+1)).length) :
  J3 P (Jc2 r j out)=.next (Jc2 r (j+1) (Hb4 r p (r.drop (a+1))[j] ((r.drop (a+1)).drop (j+1)) out)):=by
 have hs:gL tP r (a+1+j)=(r.drop (a+1))[j]:=by rw[<- vd0,eb4 tP hj]
 have hbs:Bd (r.drop (a+1))[j]:=hb _ (List.mem_of_mem_drop (Qif hj));have hd:=hj;rw[Qie] at hd;have hW:W (W ((a:Int)+(j:Int))+2)=((a+1+(j+1):Nat):Int):=by rw[zc6,ja8 (by omega) (by omega)];omega
 have hdl:(r.drop (a+1)).length<=4611686018427387904:=by rw[Qie];omega
 have hlo:inB ((a+1+(j+1):Nat):Int) (r.length+1)=true:=j9 (by omega)
 rw[Qiac];generalize hq:(r.drop (a+1))[j]=q at *
 obtain⟨x1,x2,x3,x4,x5,x6,x7,x8,x9,x10⟩:=P;obtain⟨i3,ns,gs,is,p1⟩:=h
 simp only at i3 ns gs is p1
 subst i3 ns gs is;unfold J3;have key:∀(P2:s5),C2 P2 r p q (a+1+(j+1))->_:=λP2 h2=>Cf5 h2 hb hr hp hbs out ho
 cases out with
 |nil =>
  show O8 Stp.next Stp.exit Stp.fail _ (Jc2 r j [])=_;simp only[O8,Jc2,j8,o7,D0 hj hdl,hW,Int.toNat_natCast,hs,de2,hlo];rw[show (⟨0,0,0,[],[]⟩:s6)=Jc1 0 [] from rfl]
  generalize hP:s5.mk _ _ _ _ _ _ _ _ _ _ _ _ _ _ _ _ _ _ _ _ _=P2;obtain⟨m,hm⟩:=key P2 (by
   subst hP;exact⟨by simp,rfl,by simp,p1,de1 q,rfl⟩)
  rw[hm,btD (s8 hj),bt (j9 hj)];cases Hb4 r p q (r.drop (a+1+(j+1))) []<;>rfl
 |cons o os =>
  show O9 Stp.next Stp.exit Stp.fail _ (Jc2 r j (o::os))=_;simp only[O9,Jc2,j8,o7,D0 hj hdl,hW,Int.toNat_natCast,hs,de2,hlo];rw[show (⟨1,0,(o::os).length,bL tX (o::os),rc3 (o::os)⟩:s6)=Jc1 0 (o::os) from rfl]
  generalize hP:s5.mk _ _ _ _ _ _ _ _ _ _ _ _ _ _ _ _ _ _ _ _ _=P2;obtain⟨m,hm⟩:=key P2 (by
   subst hP;exact⟨by simp,rfl,by simp,p1,de1 q,rfl⟩)
  rw[hm,btD (s8 hj),bt (j9 hj)];cases Hb4 r p q (r.drop (a+1+(j+1))) (o::os)<;>rfl
theorem Sf6{P:s7}{r:PLq}{p:Pln}{a:Nat}(h:C1 P r p a)(j:Nat)(out:List Pt)(hj:(r.drop (a+1)).length<=j):J3 P (Jc2 r j out)=.exit (ph out+1):=by
 obtain⟨x1,x2,x3,x4,x5,x6,x7,x8,x9,x10⟩:=P;obtain⟨i3,ns,gs,is,p1⟩:=h
 simp only at i3 ns gs is p1
 subst i3 ns gs is;unfold J3;have this:¬ ((j:Int)<((r.drop (a+1)).length:Int)):=by omega
 cases out with
 |nil =>
  show O8 Stp.next Stp.exit Stp.fail _ (Jc2 r j [])=_;simp only[O8,Jc2];rw[bfD this];rfl
 |cons o os =>
  show O9 Stp.next Stp.exit Stp.fail _ (Jc2 r j (o::os))=_;simp only[O9,Jc2];rw[bfD this];rfl
theorem Cf7{P:s7}{r:PLq}{p:Pln}{a:Nat}(h:C1 P r p a)(hb:Bds r)(hr:r.length<=200)(hp:Bd p)(out:List Pt)(ho:out.length<=10000000) :
  ∃m,lp (J3 P) (Jc2 r 0 out)=(ph (rb8 r p (r.drop (a+1)) out)+1,Jc2 r m (rb8 r p (r.drop (a+1)) out)):=by
 have hd:(r.drop (a+1)).length<=200:=by rw[Qie];omega
 exact⟨_,(Ma1 (mk:=Jc2 r) (f:=λq l out=>Hb4 r p q l out) (g:=λl out=>rb8 r p l out) (fin:=λout=>ph out+1) (r.drop (a+1)) (λk o=>o.length<=out.length+200*k) (by omega)
  (λ_=>rfl) (λ_ _ _=>rfl) (λk o hj hi=>⟨Cf6 h hb hr hp k o (by omega) hj,by
   have:=Yc5 r p (r.drop (a+1))[k] ((r.drop (a+1)).drop (k+1)) o
   rw[Qie] at this;show (Hb4 r p (r.drop (a+1))[k] ((r.drop (a+1)).drop (k+1)) o).length<=out.length+200*(k+1)
   omega⟩)
  (λk o hj _=>Sf6 h k o hj) 0 out (by omega)).1⟩
@[reducible] noncomputable def Qc2(r:PLq)(j:Nat)(out:List Pt):B0:=⟨ph out,r,(j:Int),r,r,out.length,bL tX out,rc3 out⟩
theorem Cf8{P:E4}(r:PLq)(h:P.N7=(r.length:Int))(hb:Bds r)(hr:r.length<=200)(a:Nat)(ha:a<r.length)(out:List Pt)(ho:out.length<=40000*a) :
  J4 P (Qc2 r a out)=.next (Qc2 r (a+1) (rb8 r r[a] (r.drop (a+1)) out)):=by
 have hbs:Bd r[a]:=hb _ (Qif ha);have hlo:inB ((a+1:Nat):Int) (r.length+1)=true:=j9 (by omega)
 have key:∀(P2:s7),C1 P2 r r[a] a->_:=λP2 h2=>Cf7 h2 hb hr hbs out (by omega)
 obtain⟨x1⟩:=P
 simp only at h
 subst h;unfold J4;cases out with
 |nil =>
  show P0 Stp.next Stp.exit Stp.fail _ (Qc2 r a [])=_;simp only[P0,Qc2,j8,o7,D0 ha (by omega),Int.toNat_natCast,hlo,eb4 tP ha]
  rw[show (⟨0,r,0,r,r,0,[],[]⟩:A0)=Jc2 r 0 [] from rfl]
  generalize hP:s7.mk _ _ _ _ _ _ _ _ _ _=P2;obtain⟨m,hm⟩:=key P2 (by
   subst hP;exact⟨rfl,by simp,rfl,by simp,rfl⟩)
  rw[hm,btD (s8 ha),bt (j9 ha)];cases rb8 r r[a] (r.drop (a+1)) []<;>rfl
 |cons o os =>
  show P1 Stp.next Stp.exit Stp.fail _ (Qc2 r a (o::os))=_;simp only[P1,Qc2,j8,o7,D0 ha (by omega),Int.toNat_natCast,hlo,eb4 tP ha]
  rw[show (⟨1,r,0,r,r,(o::os).length,bL tX (o::os),rc3 (o::os)⟩:A0)=Jc2 r 0 (o::os) from rfl]
  generalize hP:s7.mk _ _ _ _ _ _ _ _ _ _=P2;obtain⟨m,hm⟩:=key P2 (by
   subst hP;exact⟨rfl,by simp,rfl,by simp,rfl⟩)
  rw[hm,btD (s8 ha),bt (j9 ha)];cases rb8 r r[a] (r.drop (a+1)) (o::os)<;>rfl
theorem Sf7{P:E4}(r:PLq)(h:P.N7=(r.length:Int))(j:Nat)(out:List Pt)(hj:r.length<=j):J4 P (Qc2 r j out)=.exit (ph out+1):=by
 obtain⟨x1⟩:=P
 simp only at h
 subst h;unfold J4;have this:¬ ((j:Int)<(r.length:Int)):=by omega
 cases out with
 |nil =>
  show P0 Stp.next Stp.exit Stp.fail _ (Qc2 r j [])=_;simp only[P0,Qc2];rw[bfD this];rfl
 |cons o os =>
  show P1 Stp.next Stp.exit Stp.fail _ (Qc2 r j (o::os))=_;simp only[P1,Qc2];rw[bfD this];rfl
theorem Cf9(r:PLq)(hb:Bds r)(hr:r.length<=200):∃m,lp (J4 ⟨(r.length:Int)⟩) (Qc2 r 0 [])=(ph (cor r)+1,Qc2 r m (cor r)) :=
 ⟨_,(Ma1 (step:=J4 ⟨(r.length:Int)⟩) (mk:=Qc2 r) (f:=λq l out=>rb8 r q l out) (g:=λl out=>Yc4 r l out) (fin:=λout=>ph out+1) r (λk o=>o.length<=40000*k) (by omega)
  (λ_=>rfl) (λ_ _ _=>rfl) (λk o hj hi=>⟨Cf8 r rfl hb hr k hj o hi,by
   have h1:=Ed2 r r[k] (r.drop (k+1)) o (by rw[Qie];omega)
   rw[Qie] at h1;show (rb8 r r[k] (r.drop (k+1)) o).length<=40000*(k+1)
   omega⟩)
  (λk o hj _=>Sf7 r rfl k o hj) 0 [] (by simp)).1⟩
theorem Ed4(r:PLq)(hb:Bds r)(hr:r.length<=200):ha7 r=some (slX (cor r)):=by
 obtain⟨m,hm⟩:=Cf9 r hb hr;unfold ha7;simp only[j8,o7];rw[show (⟨0,r,0,r,r,0,[],[]⟩:B0)=Qc2 r 0 [] from rfl,hm]
 cases cor r<;>rfl
theorem Td3(r:PLq)(hb:Bds r)(hr:r.length<=200):ha8 r=cor r:=by unfold ha8;rw[Ed4 r hb hr];exact kb1 _ (de0 _)
theorem Td4(r:PLq)(hb:Bds r)(hr:r.length<=200):ha9 r=true:=by unfold ha9;rw[Ed4 r hb hr];exact Db1 _ (de0 _)
def slP(l:PLq):c7×List c8:=(.sl 0 0 l.length 0,[⟨66,4,bL tP l,true,false,0⟩])
theorem gd8(l:PLq):(one (r1L tP)).rd (slP l)=some l:=by
 show Bool.rec (motive:=λ_=>Option PLq) none (some (slR tP (bL tP l) 0 l.length)) (Bool.and true (okS tP (bL tP l) 0 l.length))=_
 rw[Oc9,Pc0];rfl
theorem lf0{α:Type}(t:Ty α)(l:List α):(one (r1L t)).rd (eL t l,[])=some l:=by
 show Bool.rec (motive:=λ_=>Option (List α)) none (some (rt t l)) (Bool.and (Nat.beq t.es t.es) (okE t l))=_
 rw[j8,B8,Qip];rfl
def ws:PLq:=[⟨⟨1,0,0⟩,24⟩,⟨⟨-1,0,0⟩,24⟩,⟨⟨0,1,0⟩,24⟩,⟨⟨0,-1,0⟩,24⟩,⟨⟨0,0,1⟩,24⟩,⟨⟨0,0,-1⟩,24⟩]
theorem Lf0:Bds ws:=by
 intro p hp
 have:okp p=true:=by
  have h:ws.all okp=true:=by decide
  exact Qcb.1 h p hp
 exact gd5 this
def Df0(lo hi:V3):PLq:=[⟨⟨1,0,0⟩,hi.x⟩,⟨⟨-1,0,0⟩,W (0-lo.x)⟩,⟨⟨0,1,0⟩,hi.y⟩,⟨⟨0,-1,0⟩,W (0-lo.y)⟩,⟨⟨0,0,1⟩,hi.z⟩,⟨⟨0,0,-1⟩,W (0-lo.z)⟩]
theorem lf1(lo hi:V3):Gc6 lo hi=some (slP (Df0 lo hi)):=rfl
theorem dg8(lo hi:V3):Gc7 lo hi=Df0 lo hi:=by unfold Gc7;rw[lf1];exact kb1 _ (gd8 _)
theorem dg9(lo hi:V3):Gc8 lo hi=true:=by unfold Gc8;rw[lf1];exact Db1 _ (gd8 _)
theorem Sf8:Df0 ⟨-24,-24,-24⟩ ⟨24,24,24⟩=ws:=by
 simp only[Df0,ws];rw[show W (0 - -24)=24 from by rw[jf4];rfl]
theorem Df1{l:PLq}:Nat.beq (len (bL tP l)) 0=l.isEmpty:=by rw[O3];cases l<;>rfl
theorem lf2(c:PLq)(hc:c.length<=1000000000):ec7 c=some (slP (c++ws)):=by
 unfold ec7;simp only[Ka4,dg8,dg9,Sf8,Df1];have h6:(0+len (bL tP c))=c.length:=by rw[O3];omega
 have hw:len (bL tP ws)=6:=rfl;rw[h6,hw];have e1:Nat.ble (c.length*32) room=true:=mc3 (by omega)
 have e2:Nat.ble ((c.length+6)*32) room=true:=mc3 (by omega)
 have e3:app (app [] (bL tP c)) (bL tP ws)=bL tP (c++ws):=ob5 tP c ws;have e4:Nat.beq c.length (len (app [] (bL tP c)))=true:=by
  rw[show app [] (bL tP c)=bL tP c from rfl,O3,Qip]
 rw[e1,e2,e3,e4];cases c with
 |nil=>rfl
 |cons p c =>
  show some (c7.sl 0 0 ((p::c).length+6) 0,[(⟨66,4,bL tP (p::c++ws),true,false,0⟩:c8)])=_;unfold slP;rw[Qdc];rfl
theorem eg0(c:PLq)(hc:c.length<=1000000000):Gc9 c=c++ws:=by unfold Gc9;rw[lf2 c hc];exact kb1 _ (gd8 _)
theorem eg1(c:PLq)(hc:c.length<=1000000000):Hc0 c=true:=by unfold Hc0;rw[lf2 c hc];exact Db1 _ (gd8 _)
theorem lf3{l:LPq}{j:Nat}(h:j<l.length):gL tLq l j=l[j]:=eb4 tLq h
theorem qe8(ls:LPq)(hn:ls.length<=1000000000)(hl:ls.flatten.length<=1000000000):∃m,lp (R5 ⟨ls,ls,(ls.length:Int)⟩) ⟨0,0⟩=(1,⟨(ls.flatten.length:Int),m⟩):=by
 have h:=Ma1 (step:=R5 ⟨ls,ls,(ls.length:Int)⟩) (mk:=λj (n:Nat)=>(⟨(n:Int),(j:Int)⟩:E5)) (f:=λl _ n=>n+l.length) (g:=λl n=>n+l.flatten.length) (fin:=λ_=>1) ls
  (λj n=>n+(ls.drop j).flatten.length=ls.flatten.length) hn (λ_=>rfl) (λx r a=>by simp only[List.flatten_cons,Qdc];omega)
  (λj n hj hi=>by
   rw[Qib hj,List.flatten_cons,Qdc] at hi;have hW:W ((n:Int)+(ls[j].length:Int))=((n+ls[j].length:Nat):Int):=by rw[ja8 (by omega) (by omega)];omega
   refine⟨?_,by show n+ls[j].length+(ls.drop (j+1)).flatten.length=_;omega⟩
   simp only[R5,ha4,Int.toNat_natCast,lf3 hj,hW,D0 hj (by omega)]
   rw[btD (s8 hj),bt (j9 hj),bfD (by omega)])
  (λj n hj _=>by
   simp only[R5,ha4];rw[bfD (by omega)]) 0 0 (by simp)
 have h:=h.1;rw[Qia,Qar] at h;exact⟨_,h⟩
theorem lf4{ls:LPq}(h:ls.flatten=[]){j:Nat}(hj:j<ls.length):ls[j]=[]:=by
 rw[List.flatten_eq_nil_iff] at h;exact h _ (Qif hj)
theorem Le1(ls:LPq)(hn:ls.length<=1000000000)(hl:ls.flatten=[]):∃s,lp (M4 ⟨ls,(ls.length:Int)⟩) ⟨0,0,0,[]⟩=(1,s):=by
 have h:=Ma1 (step:=M4 ⟨ls,(ls.length:Int)⟩) (mk:=λj (_:Unit)=>(⟨0,(j:Int),0,[]⟩:A5)) (f:=λ_ _ n=>n) (g:=λ_ n=>n) (fin:=λ_=>1) ls
  (λ_ _=>True) hn (λ_=>rfl) (λx r a=>rfl)
  (λj n hj hi=>by
   refine⟨?_,trivial⟩;show P3 Stp.next Stp.exit Stp.fail _ _=_;simp only[P3,Int.toNat_natCast,lf3 hj,lf4 hl hj,D0 hj (by omega)]
   rw[btD (s8 hj),bt (j9 hj)]
   rfl)
  (λj n hj _=>by
   show P3 Stp.next Stp.exit Stp.fail _ _=_;simp only[P3];rw[bfD (by omega)]) 0 () trivial
 exact⟨_,h.1⟩
def bc8(t:Nat)(d:PLq):List (List c7):=app (bL tP d) (List.replicate (t-d.length) be9)
theorem lf5(t:Nat)(d:PLq)(h:d.length<=t):len (bc8 t d)=t:=by
 unfold bc8;rw[J9,A3,Qdc,<- A3,O3,Qbm];omega
theorem lf6(t:Nat)(d l:PLq)(h:d.length+l.length<=t):app (N0 (bc8 t d) d.length) (app (bL tP l) (l9 (bc8 t d) (d.length+len (bL tP l))))=bc8 t (d++l):=by
 have hd:(bL tP d).length=d.length:=by rw[<- A3,O3]
 unfold bc8;rw[O3,<- ob5];simp only[J9,L9,M1];rw[List.take_left' hd,Qim];congr 2;rw[List.drop_append,Qij (by omega),List.nil_append,hd,List.drop_replicate,Qdc]
 congr 1;omega
theorem qe9(ls:LPq)(hn:ls.length<=1000000000):∃m,lp (M4 ⟨ls,(ls.length:Int)⟩) ⟨1,0,0,List.replicate ls.flatten.length be9⟩=(2,⟨1,m,ls.flatten.length,bL tP ls.flatten⟩):=by
 have h:=Ma1 (step:=M4 ⟨ls,(ls.length:Int)⟩) (mk:=λj (d:PLq)=>(⟨1,(j:Int),d.length,bc8 ls.flatten.length d⟩:A5)) (f:=λl _ d=>d++l) (g:=λl d=>d++l.flatten) (fin:=λ_=>2) ls
  (λj d=>d.length+(ls.drop j).flatten.length=ls.flatten.length) hn (λ_=>by simp) (λx r a=>by simp)
  (λj d hj hi=>by
   rw[Qib hj,List.flatten_cons,Qdc] at hi;refine⟨?_,by show (d++ls[j]).length+(ls.drop (j+1)).flatten.length=_;rw[Qdc];omega⟩
   show P4 Stp.next Stp.exit Stp.fail _ _=_;simp only[P4,Int.toNat_natCast,lf3 hj,D0 hj (by omega),Ka4]
   rw[lf6 _ _ _ (by omega),lf5 _ _ (by omega),O3,btD (s8 hj),bt (j9 hj),bt (by rw[Qiae];omega),Qdc])
  (λj d hj _=>by
   show P4 Stp.next Stp.exit Stp.fail _ _=_;simp only[P4];rw[bfD (by omega)]) 0 [] (by simp)
 have h:=h.1;rw[Qia,List.nil_append] at h;have e:bc8 ls.flatten.length ls.flatten=bL tP ls.flatten:=by unfold bc8;rw[Nat.sub_self,J9];simp
 rw[e] at h;exact⟨_,h⟩
theorem Lf1(ls:LPq)(hn:ls.length<=1000000000)(hl:ls.flatten.length<=1000000000):fc4 ls=some (slP (ls.flatten++ws)):=by
 have hc:F4 ls=if ls.flatten=[] then ⟨1,0,[]⟩ else ⟨2,ls.flatten.length,bL tP ls.flatten⟩:=by
  unfold F4 va2;simp only[j8,o7];obtain⟨m,hm⟩:=qe8 ls hn hl;rw[hm];by_cases h0:ls.flatten=[]
  ·obtain⟨s,hs⟩:=Le1 ls hn h0;rw[if_pos h0,hs];rw[show (⟨(ls.flatten.length:Int),m⟩:E5)=⟨0,m⟩ by rw[h0];rfl]
   rfl
  ·obtain⟨m',hm'⟩:=qe9 ls hn;rw[if_neg h0];simp only[Int.toNat_natCast];rw[hm'];have h1:0<ls.flatten.length:=List.length_pos_iff.2 h0;have e1:((ls.flatten.length:Int)==0)=false:=by rw[beq_eq_false_iff_ne];omega
   have e2:Bool.and (decide ((0:Int)<(ls.flatten.length:Int))) (Nat.ble (ls.flatten.length*32) room)=true:=by
    rw[mc3 (by omega),decide_eq_true (by omega)]
    rfl
   rw[e1,e2];rfl
 unfold fc4;simp only[j8,B8,hc];by_cases h0:ls.flatten=[]
 ·rw[if_pos h0,h0];rfl
 ·rw[if_neg h0];generalize ls.flatten=c at *
  have e:∀(d:PLq) (p:Pln),app (bL tP d) [[i p.n.x,i p.n.y,i p.n.z,i p.b]]=bL tP (d++[p]):=λd p=>ob5 tP d [p]
  have c1:=e c ⟨⟨1,0,0⟩,24⟩;have c2:=e (c++[⟨⟨1,0,0⟩,24⟩]) ⟨⟨-1,0,0⟩,24⟩;have c3:=e (c++[⟨⟨1,0,0⟩,24⟩]++[⟨⟨-1,0,0⟩,24⟩]) ⟨⟨0,1,0⟩,24⟩;have c4:=e (c++[⟨⟨1,0,0⟩,24⟩]++[⟨⟨-1,0,0⟩,24⟩]++[⟨⟨0,1,0⟩,24⟩]) ⟨⟨0,-1,0⟩,24⟩;have c5:=e (c++[⟨⟨1,0,0⟩,24⟩]++[⟨⟨-1,0,0⟩,24⟩]++[⟨⟨0,1,0⟩,24⟩]++[⟨⟨0,-1,0⟩,24⟩]) ⟨⟨0,0,1⟩,24⟩;have c6:=e (c++[⟨⟨1,0,0⟩,24⟩]++[⟨⟨-1,0,0⟩,24⟩]++[⟨⟨0,1,0⟩,24⟩]++[⟨⟨0,-1,0⟩,24⟩]++[⟨⟨0,0,1⟩,24⟩]) ⟨⟨0,0,-1⟩,24⟩
  simp only at c1 c2 c3 c4 c5 c6
  simp only[c1,c2,c3,c4,c5,c6,O3,Qdc,List.length_singleton];have g:∀n:Nat,n<=1000000010->(Nat.beq n n&&Nat.ble ((n+1)*32) room)=true:=λn h=>by rw[Qip,mc3 (by omega)];rfl
  rw[g _ (by omega),g _ (by omega),g _ (by omega),g _ (by omega),g _ (by omega),g _ (by omega)]
  show some (c7.sl 0 0 (c.length+1+1+1+1+1+1) 0,[(⟨66,4,bL tP _,true,false,0⟩:c8)])=_;unfold slP;rw[Qdc];simp only[Qim];rfl
theorem eg2(ls:LPq)(hn:ls.length<=1000000000)(hl:ls.flatten.length<=1000000000):xb6 ls=ls.flatten++ws:=by unfold xb6;rw[Lf1 ls hn hl];exact kb1 _ (gd8 _)
theorem eg3(ls:LPq)(hn:ls.length<=1000000000)(hl:ls.flatten.length<=1000000000):xb7 ls=true:=by unfold xb7;rw[Lf1 ls hn hl];exact Db1 _ (gd8 _)
theorem Lf2(c:PLq)(hc:c.length<=1000000000):xb6 [c]=c++ws:=by
 have:[c].flatten=c:=by simp
 rw[eg2 [c] (by simp) (by rw[this];exact hc),this]
theorem Lf3(c:PLq)(hc:c.length<=1000000000):xb7 [c]=true:=by
 have:[c].flatten=c:=by simp
 exact eg3 [c] (by simp) (by rw[this];exact hc)
theorem Td5(ls:LPq)(hn:ls.length<=1000000000)(hl:∀c∈ls,c.length<=1000000000):rb0 ls=some (b (ls.all λc=>chk c==0),[]):=by
 have hv:∀c∈ls,qb6 c=!(chk c==0)/\qb7 c=true:=λc hc=>by
  have:Sa8 c=some (b (!(chk c==0)),[]):=by
   unfold Sa8;simp only[j8,B8,Hc7 c (hl c hc),ud9 c (hl c hc)];rfl
  unfold qb6 qb7;rw[this];exact⟨rfl,rfl⟩
 have h:=Ab4 (step:=Q5 ⟨ls,(ls.length:Int)⟩) (mk:=λj=>(⟨(j:Int)⟩:D1)) (c:=λc=>!(chk c==0)) (u:=1) (fin:=2) tLq ls hn
  (λj hj=>by
   have hm:=hv _ (S1 tLq hj);simp only[Q5,Y6,Int.toNat_natCast,j8,B8,hm.1,hm.2,D0 hj (by omega)]
   rw[btD (s8 hj),bt (j9 hj),i6,i6])
  (by simp only[Q5,Y6];rw[bfD (E2 (Qid _))]) 0 (Qbw _)
 rw[Qia] at h;have e:(ls.any λc=>!(chk c==0))=!ls.all λc=>chk c==0:=by rw[Qig]
 unfold rb0 oa5 oa4 wa6 wa5;simp only[j8,o7];rw[show (⟨0⟩:D1)=⟨((0:Nat):Int)⟩ from rfl,h,e]
 cases ls.all λc=>chk c==0 with
 |true=>rfl
 |false =>
  simp only[Qis,if_true,Qar];show sl true (sl (Nat.beq 1 1) (some (b (!(decide (((ls.findIdx λc=>!(chk c==0):Nat):Int)>=0))),[])) _) _=_
  rw[show decide (((ls.findIdx λc=>!(chk c==0):Nat):Int)>=0)=true from decide_eq_true (by omega)]
  rfl
theorem re0(ls:LPq)(hn:ls.length<=1000000000)(hl:∀c∈ls,c.length<=1000000000):Ia8 ls=ls.all λc=>chk c==0:=by unfold Ia8;rw[Td5 ls hn hl];rfl
theorem re1(ls:LPq)(hn:ls.length<=1000000000)(hl:∀c∈ls,c.length<=1000000000):Ia9 ls=true:=by unfold Ia9;rw[Td5 ls hn hl];rfl
theorem re2(c:PLq)(hc:c.length<=1000000000):Ia8 [c]=(chk c==0):=by
 rw[re0 [c] (by simp) (by simpa using hc)]
 simp
theorem re3(c:PLq)(hc:c.length<=1000000000):Ia9 [c]=true:=re1 [c] (by simp) (by simpa using hc)
def pos(X:List Pt)(p:Pln):Bool:=X.any λx=>decide (rm p x>0)
def rd4(r:PLq):Bool:=r.all (pos (cor r))
theorem lf7(p:Pln)(X:List Pt)(hX:X.length<=1000000000):za7 ⟨p.n.x,p.n.y,p.n.z,p.b,X⟩=⟨1,!pos X p⟩:=by
 have hw:∀x:Pt,Ja1 ⟨x.px,x.py,x.pz,x.pw,p.n.x,p.n.y,p.n.z,p.b⟩=⟨decide (rm p x>0)⟩:=λx=>by
  show gb0.mk (decide (Ha2 p x>0))=_;rw[ce8]
 have h:=Ab4 (step:=T0 ⟨X,(X.length:Int),p.n.x,p.n.y,p.n.z,p.b⟩) (mk:=λj=>(⟨(j:Int)⟩:D1)) (c:=λx=>decide (rm p x>0)) (u:=1) (fin:=2) tX X hX
  (λj hj=>by
   simp only[T0,aa6,Int.toNat_natCast,hw,D0 hj (by omega)]
   rw[btD (s8 hj),bt (j9 hj)])
  (by simp only[T0,aa6];rw[bfD (E2 (Qid _))]) 0 (Qbw _)
 rw[Qia] at h;unfold za7 Ta2 ra2 ra1 Ba3 Ba2 pos;simp only[j8,o7];rw[show (⟨0⟩:D1)=⟨((0:Nat):Int)⟩ from rfl,h]
 cases X.any λx=>decide (rm p x>0) with
 |false=>rfl
 |true =>
  simp only[if_true,Qar];show na5.mk 1 (!(decide (((X.findIdx λx=>decide (rm p x>0):Nat):Int)>=0)))=_
  rw[show decide (((X.findIdx λx=>decide (rm p x>0):Nat):Int)>=0)=true from decide_eq_true (by omega)]
theorem Le2(r:PLq)(hb:Bds r)(hr:r.length<=200):ta4 r=some (b (rd4 r),[]):=by
 have hX:(cor r).length<=1000000000:=Qai (ce9 r hb hr) (by omega)
 have h:=Ab4 (step:=Q6 ⟨r,(r.length:Int)⟩) (mk:=λj=>(⟨(j:Int),cor r⟩:D4)) (c:=λp=>!pos (cor r) p) (u:=1) (fin:=2) tP r (by omega)
  (λj hj=>by
   simp only[Q6,Y7,Int.toNat_natCast,j8,o7,lf7 _ _ hX,D0 hj (by omega)]
   rw[btD (s8 hj),bt (j9 hj)]
   rfl)
  (by simp only[Q6,Y7];rw[bfD (E2 (Qid _))]) 0 (Qbw _)
 rw[Qia] at h;have e:(r.any λp=>!pos (cor r) p)=!r.all (pos (cor r)):=by rw[Qig]
 unfold ta4 oa9 oa8 xa0 wa9 rd4;simp only[j8,o7,B8,Td3 r hb hr,Td4 r hb hr];rw[show (⟨0,cor r⟩:D4)=⟨((0:Nat):Int),cor r⟩ from rfl,h,e]
 cases r.all (pos (cor r)) with
 |true=>rfl
 |false =>
  simp only[Qis,if_true,Qar];show some (b (!(decide (((r.findIdx λp=>!pos (cor r) p:Nat):Int)>=0))),[])=_
  rw[show decide (((r.findIdx λp=>!pos (cor r) p:Nat):Int)>=0)=true from decide_eq_true (by omega)]
  rfl
theorem lf8(r:PLq)(hb:Bds r)(hr:r.length<=200):ta5 r=rd4 r:=by unfold ta5;rw[Le2 r hb hr];rfl
theorem lf9(r:PLq)(hb:Bds r)(hr:r.length<=200):ta6 r=true:=by unfold ta6;rw[Le2 r hb hr];rfl
theorem Ee4(r:PLq)(X:List Pt)(hr:r.length<=200)(hX:X.length<=1000000000)(a:Nat)(ha:a<r.length):∃m,lp (Na3 ⟨r,X,(a:Int)⟩) ⟨false,0⟩=(1,⟨pos X r[a],m⟩):=by
 have h:=ud4 (step:=Na3 ⟨r,X,(a:Int)⟩) (mk:=λj (c:Bool)=>(⟨c,(j:Int)⟩:za0)) (f:=λc x=>c||decide (rm r[a] x>0)) (fin:=1) tX X (λ_ _=>True) hX
  (λj c hj _=>⟨by
   simp only[Na3,pb2,Int.toNat_natCast,Ke4,D0 hj (by omega),eb4 tP ha,j9 ha,j9 hj]
   rw[btD (s8 hj)];cases c<;>rfl,trivial⟩)
  (λc _=>by simp only[Na3,pb2];rw[bfD (E2 (Qid _))]) 0 (Qbw _) false trivial
 have h:=h.1;rw[Qia] at h;have e:∀(l:List Pt) (c:Bool),l.foldl (λc x=>c||decide (rm r[a] x>0)) c=(c||l.any λx=>decide (rm r[a] x>0)):=by
  intro l
  induction l with
  |nil=>intro c;simp
  |cons x l ih=>intro c;rw[List.foldl_cons,ih,List.any_cons,Bool.or_assoc]
 rw[e,Bool.false_or] at h;exact⟨_,h⟩
theorem Le3(r:PLq)(hb:Bds r)(hr:r.length<=200):Qb2 r=some (b (rd4 r),[]):=by
 have hX:(cor r).length<=1000000000:=Qai (ce9 r hb hr) (by omega)
 have h:=Qc0 (step:=db3 ⟨⟩) (mk:=λj=>(⟨r,cor r,(j:Int)⟩:pb1)) (c:=λp=>!pos (cor r) p) (u:=1) (fin:=2) tP r (by omega)
  (λj hj=>by
   obtain⟨m,hm⟩:=Ee4 r (cor r) hr hX j hj;simp only[db3,pb4,j8,o7,hm,D0 hj (by omega),eb4 tP hj]
   rw[btD (s8 hj)]
   rfl)
  (by simp only[db3,pb4];rw[bfD (E2 (Qid _))]) 0 (Qbw _)
 rw[Qia] at h;have e:(r.any λp=>!pos (cor r) p)=!r.all (pos (cor r)):=by rw[Qig]
 unfold Qb2 rd4;simp only[j8,o7,B8,Ee2 r hb hr,Ee3 r hb hr];rw[show (⟨r,cor r,0⟩:pb1)=⟨r,cor r,((0:Nat):Int)⟩ from rfl,h,e]
 cases r.all (pos (cor r))<;>rfl
theorem Sf9(r:PLq)(hb:Bds r)(hr:r.length<=200):kc8 r=rd4 r:=by unfold kc8;rw[Le3 r hb hr];rfl
theorem Tf0(r:PLq)(hb:Bds r)(hr:r.length<=200):kc9 r=true:=by unfold kc9;rw[Le3 r hb hr];rfl
theorem Mb3{c:PLq}(h:(chk c==0)=true):Bds (c++ws)/\(c++ws).length<=200:=by
 rw[beq_iff_eq,Ua3] at h;refine⟨λp hp=>?_,by rw[Qdc,show ws.length=6 from rfl];omega⟩
 rcases Qiq.1 hp with hp|hp
 ·exact gd5 (h.2 p hp)
 ·exact Lf0 p hp
def pts(c:PLq):List Pt:=if chk c==0 then cor (c++ws) else []
def ful(c:PLq):Bool:=(chk c==0)&&rd4 (c++ws)
theorem re4{c:PLq}(hc:c.length<=1000000000):∃x,db9 c=some x/\(one (r1L tX)).rd x=some (pts c):=by
 unfold db9 pts;simp only[j8,B8,re2 c hc,re3 c hc,Lf2 c hc,Lf3 c hc];cases h:chk c==0 with
 |false=>exact⟨_,rfl,rfl⟩
 |true =>
  obtain⟨h1,h2⟩:=Mb3 h;rw[Td3 _ h1 h2,Td4 _ h1 h2];exact⟨_,rfl,lf0 tX _⟩
theorem Ed5{c:PLq}(hc:c.length<=1000000000):Na7 c=pts c:=by
 obtain⟨x,h1,h2⟩:=re4 hc;unfold Na7;rw[h1];exact kb1 _ h2
theorem Ed6{c:PLq}(hc:c.length<=1000000000):Na8 c=true:=by
 obtain⟨x,h1,h2⟩:=re4 hc;unfold Na8;rw[h1];exact Db1 _ h2
theorem Le4{c:PLq}(hc:c.length<=1000000000):Cb8 c=some (b (ful c),[]):=by
 unfold Cb8 ful;simp only[j8,B8,re2 c hc,re3 c hc,Lf2 c hc,Lf3 c hc];cases h:chk c==0 with
 |false=>rfl
 |true =>
  obtain⟨h1,h2⟩:=Mb3 h;rw[lf8 _ h1 h2,lf9 _ h1 h2];rfl
theorem gd9{c:PLq}(hc:c.length<=1000000000):za8 c=ful c:=by unfold za8;rw[Le4 hc];rfl
theorem hd4{c:PLq}(hc:c.length<=1000000000):za9 c=true:=by unfold za9;rw[Le4 hc];rfl
theorem re5{c:PLq}(hc:c.length<=1000000000):Qb3 c=some (b (ful c),[]):=by
 unfold Qb3 ful;simp only[j8,B8,kf8 c hc,kf9 c hc,eg0 c hc,eg1 c hc];cases h:chk c==0 with
 |false=>rfl
 |true =>
  obtain⟨h1,h2⟩:=Mb3 h;rw[Sf9 _ h1 h2,Tf0 _ h1 h2];rfl
theorem Le5{c:PLq}(hc:c.length<=1000000000):Qb4 c=ful c:=by unfold Qb4;rw[re5 hc];rfl
theorem Le6{c:PLq}(hc:c.length<=1000000000):Qb5 c=true:=by unfold Qb5;rw[re5 hc];rfl
theorem re6{Q:Pt->Prop}(r:PLq)(p q:Pln):∀(l:PLq) (out:List Pt),(∀s∈l,(mpt p q s).2=true->inn r (mpt p q s).1=true->Q (mpt p q s).1)->(∀x∈out,Q x)->∀x∈Hb4 r p q l out,Q x
 |[],out,_,h=>h
 |s::l,out,hs,h=>re6 r p q l (Ua4 r p q out s) (λt ht=>hs t (Qck _ ht)) λx hx=>by
  unfold Ua4 at hx
  split at hx
  ·rename_i hc;rw[Qas,Qas] at hc
   rcases Qiq.1 hx with hx|hx
   ·exact h x hx
   ·rw[List.mem_singleton] at hx;subst hx;exact hs s Qch hc.1 hc.2.2
  ·exact h x hx
theorem re7{Q:Pt->Prop}(r:PLq)(p:Pln):∀(l:PLq) (out:List Pt),(∀q∈l,∀s∈l,(mpt p q s).2=true->inn r (mpt p q s).1=true->Q (mpt p q s).1)->(∀x∈out,Q x)->∀x∈rb8 r p l out,Q x
 |[],out,_,h=>h
 |q::l,out,hs,h=>re7 r p l _ (λa ha t ht=>hs a (Qck _ ha) t (Qck _ ht)) (re6 r p q l out (λt ht=>hs q Qch t (Qck _ ht)) h)
theorem re8{Q:Pt->Prop}(r:PLq):∀(l:PLq) (out:List Pt),(∀p∈l,∀q∈l,∀s∈l,(mpt p q s).2=true->inn r (mpt p q s).1=true->Q (mpt p q s).1)->(∀x∈out,Q x)->∀x∈Yc4 r l out,Q x
 |[],out,_,h=>h
 |p::l,out,hs,h=>re8 r l _ (λa ha c hc t ht=>hs a (Qck _ ha) c (Qck _ hc) t (Qck _ ht)) (re7 r p l out (λc hc t ht=>hs p Qch c (Qck _ hc) t (Qck _ ht)) h)
theorem Le7{Q:Pt->Prop}{r:PLq}(hs:∀p∈r,∀q∈r,∀s∈r,(mpt p q s).2=true->inn r (mpt p q s).1=true->Q (mpt p q s).1):∀x∈cor r,Q x :=
 re8 r r [] hs λx hx=>by cases hx
structure Okx(x:Pt):Prop where
 w1:0<x.pw
 w2:x.pw<=600000000000
 c1:Sm 300000000000000 x.px
 c2:Sm 300000000000000 x.py
 c3:Sm 300000000000000 x.pz
theorem Yc6{r:PLq}(hb:Bds r):∀x∈cor r,Okx x:=Le7 λp hp q hq s hs h _=>by
 obtain⟨h1,h2,h3,h4,h5⟩:=De9 (hb p hp) (hb q hq) (hb s hs) h;exact⟨h1,h5,h2,h3,h4⟩
theorem Le8(c:PLq):(pts c).length<=8000000:=by
 unfold pts;cases h:chk c==0 with
 |false=>exact Qbw _
 |true=>exact ce9 _ (Mb3 h).1 (Mb3 h).2
theorem mf0{x y:Int}(hy:0<y):Int.tmod x y+y*Int.tdiv x y=x/\-y<Int.tmod x y/\Int.tmod x y<y:=by
 refine⟨Int.tmod_add_mul_tdiv x y,?_,Int.tmod_lt_of_pos x hy⟩
 have:=Int.lt_tmod_of_pos x hy
 omega
theorem mf1(x:Int){y:Int}(hy:0<y)(hy2:y<=4000000000000000000):ec8 x y=some (i (x % y),[]):=by
 have hz:(y==0)=false:=by rw[beq_eq_false_iff_ne];omega
 obtain⟨h1,h2,h3⟩:=mf0 (x:=x) hy;unfold ec8;rw[bfD (by omega),bf hz,bf hz,ja8 (by omega) (by omega),Int.tmod_eq_emod_of_nonneg (by omega)]
 congr 3;rw[Int.add_emod_right]
 conv=>rhs;rw[<- h1]
 rw[Int.add_mul_emod_self_left]
theorem eg4(x:Int){y:Int}(hy:0<y)(hy2:y<=4000000000000000000):Hc1 x y=x % y:=by unfold Hc1;rw[mf1 x hy hy2];rfl
theorem eg5(x:Int){y:Int}(hy:0<y)(hy2:y<=4000000000000000000):Hc2 x y=true:=by unfold Hc2;rw[mf1 x hy hy2];rfl
theorem Sm.neg{n x:Int}(h:Sm n x):Sm n (-x):=⟨by have:=h.2;omega,by have:=h.1;omega⟩
theorem mf2(x:Pln):(x.n.x==x.n.x&&(x.n.y==x.n.y&&(x.n.z==x.n.z&&(x.b==x.b&&true))))=true:=by simp
theorem Le9(l:PLq)(hl:l.length<=1000000000):Rb8 l l=some (b true,[]):=by
 have h:=Qc0 (step:=eb3 ⟨l,l⟩) (mk:=λj=>(⟨(j:Int)⟩:Ia4)) (c:=λ_=>false) (u:=1) (fin:=2) tP l hl
  (λj hj=>by
   simp only[eb3,rb6,Int.toNat_natCast,D0 hj (by omega),mf2]
   rw[btD (s8 hj),bt (j9 hj),bt (j9 hj)]
   rfl)
  (by simp only[eb3,rb6];rw[bfD (E2 (Qid _))]) 0 (Qbw _)
 rw[Qia,show (l.any λ_=>false)=false by simp] at h
 unfold Rb8;simp only[j8,o7];rw[show (⟨0⟩:Ia4)=⟨((0:Nat):Int)⟩ from rfl,h,bf (by simp)]
 rfl
theorem Tf1(l:PLq)(hl:l.length<=1000000000):mc0 l l=true:=by unfold mc0;rw[Le9 l hl];rfl
theorem Tf2(l:PLq)(hl:l.length<=1000000000):mc1 l l=true:=by unfold mc1;rw[Le9 l hl];rfl
def Nx{σ:Type}(x:Stp σ)(E:Nat->Prop)(N:σ->Prop):Prop:=(∃t,x=.exit t/\E t)\/∃s,x=.next s/\N s
theorem Nx.sl{σ:Type}{c:Bool}{t e:Stp σ}{E:Nat->Prop}{N:σ->Prop}(h1:c=true->Nx t E N)(h2:c=false->Nx e E N):Nx (sl c t e) E N:=by cases c;exact h2 rfl;exact h1 rfl
theorem Nx.ex{σ:Type}{t:Nat}{E:Nat->Prop}{N:σ->Prop}(h:E t):Nx (.exit t) E N:=.inl ⟨t,rfl,h⟩
theorem Nx.nx{σ:Type}{s:σ}{E:Nat->Prop}{N:σ->Prop}(h:N s):Nx (.next s) E N:=.inr ⟨s,rfl,h⟩
theorem va3{σ τ:Type}{step:σ->Stp σ}{mk:Nat->τ->σ}(n:Nat)(I:Nat->τ->Prop)(E:Nat->σ->Prop)(hn:n<=1000000000)
  (h:∀j a,j<n->I j a->Nx (step (mk j a)) (λt=>E t (mk j a)) (λs=>∃a',s=mk (j+1) a'/\I (j+1) a'))
  (hf:∀j a,n<=j->I j a->∃t,step (mk j a)=.exit t/\E t (mk j a)) (j0:Nat) (a:τ) (hi:I j0 a):∃t s,lp step (mk j0 a)=(t,s)/\E t s:=by
 have key:=zc8 (step:=step) (I:=λm s=>∃j a,m=n-j/\s=mk j a/\I j a) (Q:=E) (λm s ⟨j,a,hm,hs,ha⟩=>by
  subst hs;by_cases hlt:j<n
  ·rcases h j a hlt ha with h1|⟨s',h1,a',h2,h3⟩
   ·exact .inl h1
   ·subst h2;exact .inr ⟨_,n-(j+1),by omega,h1,j+1,a',rfl,rfl,h3⟩
  ·exact .inl (hf j a (by omega) ha)) (n-j0) (mk j0 a) (by omega) ⟨j0,a,rfl,rfl,hi⟩
 exact⟨_,_,rfl,key⟩
def Rd{ρ:Type}(R:RR ρ)(o:ROq)(P:ρ->Prop):Prop:=∃x r,o=some x/\R.rd x=some r/\P r
theorem Rd.p{ρ:Type}{R:RR ρ}{o:ROq}{P:ρ->Prop}(h:Rd R o P):P (aa3 R o):=by
 obtain⟨x,r,h1,h2,h3⟩:=h;rw[h1,kb1 R h2];exact h3
theorem Rd.g{ρ:Type}{R:RR ρ}{o:ROq}{P:ρ->Prop}(h:Rd R o P):okO R o=true:=by
 obtain⟨x,r,h1,h2,h3⟩:=h;rw[h1];exact Db1 R h2
theorem Rd.sl{ρ:Type}{R:RR ρ}{c:Bool}{t e:ROq}{P:ρ->Prop}(h1:c=true->Rd R t P)(h2:c=false->Rd R e P):Rd R (sl c t e) P:=by cases c;exact h2 rfl;exact h1 rfl
theorem ra9(n:Int)(l:List Int)(j:Int)(h1:0<=j)(h2:j<=1000000)(hn:0<n)(hn2:n<=1000000) :
  ∃v j',g9 ⟨n,l,j⟩=⟨1,v,j'⟩/\0<=v/\v<n/\j<=j'/\j'<=j+1:=by
 unfold g9 Hb2
 simp only
 by_cases h:j>=(l.length:Int)
 ·rw[btD h];exact⟨0,j,rfl,by omega,hn,by omega,by omega⟩
 ·rw[bfD h];have hW:W (W (j+1)-1)=j:=by rw[Dd7,ja8 (by omega) (by omega)];omega
  have hW2:W (j+1)=j+1:=ja8 (by omega) (by omega)
  have hin:inB j l.length=true:=by rw[Bf1];exact decide_eq_true (by omega)
  rw[hW,hW2,hin,eg5 _ hn (by omega),eg4 _ hn (by omega)]
  exact⟨_,_,rfl,Int.emod_nonneg _ (by omega),Int.emod_lt_of_pos _ hn,by omega,by omega⟩
def inV(v:V3):Bool:=smb 24 v.x&&(smb 24 v.y&&smb 24 v.z)
def sub(a b:V3):V3:=⟨a.x-b.x,a.y-b.y,a.z-b.z⟩
def Ee5(a b c:V3):Pln×Bool :=
 if inV a&&(inV b&&inV c) then
  if g3 (C7 (sub b a) (sub c a))=0 then (⟨⟨0,0,0⟩,0⟩,false)
  else (⟨⟨Int.tdiv (C7 (sub b a) (sub c a)).x (g3 (C7 (sub b a) (sub c a))),Int.tdiv (C7 (sub b a) (sub c a)).y (g3 (C7 (sub b a) (sub c a))),Int.tdiv (C7 (sub b a) (sub c a)).z (g3 (C7 (sub b a) (sub c a)))⟩,
   dot ⟨Int.tdiv (C7 (sub b a) (sub c a)).x (g3 (C7 (sub b a) (sub c a))),Int.tdiv (C7 (sub b a) (sub c a)).y (g3 (C7 (sub b a) (sub c a))),Int.tdiv (C7 (sub b a) (sub c a)).z (g3 (C7 (sub b a) (sub c a)))⟩ a⟩,true)
 else (⟨⟨0,0,0⟩,0⟩,false)
structure Fc(ph:Nat)(out:PLq)(m:Nat):Prop where
 h:(ph=0/\out=[])\/ph=1
 l:out.length<=m
theorem Fc.more{ph m m':Nat}{out:PLq}(h:Fc ph out m)(hm:m<=m'):Fc ph out m':=⟨h.h,Qai h.l hm⟩
theorem vd1{l:PLq}{k:Nat}(h:k<l.length):ldR tP (bL tP l) (0+k)=true:=by rw[Qar];exact Ae6 tP h
theorem Yc7{l:PLq}{k:Nat}(h:k<l.length):rdR tP (bL tP l) (0+k)=gL tP l k:=by rw[Qar];exact Ae5 tP h
theorem Tf3{α:Type}(t:Ty α)(k:Nat)(l:List α):(one (r1L t)).rd (.sl 0 0 l.length 0,[⟨k,t.es,bL t l,true,false,0⟩])=some l:=by
 show Bool.rec (motive:=λ_=>Option (List α)) none (some (slR t (bL t l) 0 l.length)) (Bool.and (Nat.beq t.es t.es) (okS t (bL t l) 0 l.length))=_
 rw[Oc9,Pc0,Qip];rfl
theorem mf3{l:PLq}{n:Nat}{r:List (List c7)}{P:PLq->Prop}(hn:n<=l.length)(hr:r=bL tP l)(h:P (l.take n)):Rd (one (r1L tP)) (some (.sl 0 0 n 0,[⟨66,4,r,true,false,0⟩])) P:=by
 subst hr;have e1:slR tP (bL tP l) 0 n=l.take n:=wc6 tP (by rw[Qic];omega) λk hk=>by
  rw[Qar,ba8 tP (by omega)]
  congr 1;simp[gL,Qda,Qap,hk]
 have e2:okS tP (bL tP l) 0 n=true:=jc2 tP (f:=λk=>gL tP l k) λk hk=>by rw[Qar,ba8 tP (by omega)]
 refine⟨_,l.take n,rfl,?_,h⟩;show Bool.rec (motive:=λ_=>Option PLq) none (some (slR tP (bL tP l) 0 n)) (Bool.and true (okS tP (bL tP l) 0 n))=_
 rw[e1,e2];rfl
def has(c:PLq)(v:V3):Bool:=(chk c==0)&&(inV v&&inn c ⟨v.x,v.y,v.z,1⟩)
theorem re9{a c:PLq}(ha:(chk a==0)=true)(hc:(chk c==0)=true):Bds (a++c++ws)/\(a++c++ws).length<=200:=by
 rw[beq_iff_eq,Ua3] at ha hc;refine⟨λp hp=>?_,by rw[Qdc,Qdc,show ws.length=6 from rfl];omega⟩
 rcases Qiq.1 hp with hp|hp
 ·rcases Qiq.1 hp with hp|hp
  ·exact gd5 (ha.2 p hp)
  ·exact gd5 (hc.2 p hp)
 ·exact Lf0 p hp
def apart(a c:PLq):Bool:=!((chk a==0)&&(chk c==0))||!rd4 (a++c++ws)
theorem se0{a c:PLq}(ha:a.length<=100000000)(hc:c.length<=100000000):rb3 a c=some (b (apart a c),[]):=by
 have hn:[a,c].length<=1000000000:=by simp
 have hl:∀x∈[a,c],x.length<=1000000000:=by
  intro x hx;simp only[Qbi,Qiy,or_false] at hx
  rcases hx with rfl|rfl<;>omega
 have hf:[a,c].flatten=a++c:=by simp
 have hfl:[a,c].flatten.length<=1000000000:=by rw[hf,Qdc];omega
 unfold rb3 apart;simp only[j8,B8,re0 _ hn hl,re1 _ hn hl,eg2 _ hn hfl,eg3 _ hn hfl,hf,List.all_cons,List.all_nil,Qii];cases h1:chk a==0 with
 |false=>rfl
 |true =>
  cases h2:chk c==0 with
  |false=>rfl
  |true =>
   obtain⟨q1,q2⟩:=re9 h1 h2;rw[lf8 _ q1 q2,lf9 _ q1 q2];rfl
theorem vd2{a c:PLq}(ha:a.length<=100000000)(hc:c.length<=100000000):ra6 a c=apart a c:=by unfold ra6;rw[se0 ha hc];rfl
theorem vd3{a c:PLq}(ha:a.length<=100000000)(hc:c.length<=100000000):ra7 a c=true:=by unfold ra7;rw[se0 ha hc];rfl
def lies(a c:PLq):Bool:=ful a&&((chk c==0)&&(pts a).all (inn c))
def onc(X:List Pt)(p:Pln):Nat:=X.countP λx=>rm p x==0
def keep(X:List Pt)(p:Pln):Bool:=!decide ((onc X p:Int)<3)
theorem Ed7(p:Pln)(X:List Pt)(hX:X.length<=1000000000):Ba4 ⟨p.n.x,p.n.y,p.n.z,p.b,X⟩=⟨1,!keep X p,X⟩:=by
 have h:=ud4 (step:=Fa2 ⟨X,(X.length:Int),X,p.n.x,p.n.y,p.n.z,p.b⟩) (mk:=λj (n:Nat)=>(⟨(n:Int),(j:Int)⟩:aa7)) (f:=λn x=>if rm p x==0 then n+1 else n) (fin:=1) tX X (λj n=>n<=j) hX
  (λj n hj hi=>by
   have hW:W ((n:Int)+1)=((n+1:Nat):Int):=by rw[ja8 (by omega) (by omega)];omega
   refine⟨?_,by show (if rm p (gL tX X j)==0 then n+1 else n)<=j+1;split<;>omega⟩
   simp only[Fa2,Qa1,Int.toNat_natCast,ce8,hW,D0 hj (show X.length<=4611686018427387904 by omega)]
   rw[btD (s8 hj),bt (j9 hj)];cases rm p (gL tX X j)==0<;>rfl)
  (λn _=>by simp only[Fa2,Qa1];rw[bfD (E2 (Qid _))]) 0 (Qbw _) 0 (Qaf _)
 have h:=h.1;have e:∀(l:List Pt) (n:Nat),l.foldl (λn x=>if rm p x==0 then n+1 else n) n=n+l.countP λx=>rm p x==0:=by
  intro l
  induction l with
  |nil=>intro n;rfl
  |cons x l ih =>
   intro n;rw[List.foldl_cons,ih,List.countP_cons]
   split<;>omega
 rw[Qia,e,Qar] at h;unfold Ba4 bc6 keep onc;simp only[j8,o7];rw[show (⟨0,0⟩:aa7)=⟨((0:Nat):Int),((0:Nat):Int)⟩ from rfl,h]
 show oa7.mk 1 (decide _) X=oa7.mk 1 (!(!(decide _))) X;rw[Bool.not_not]
theorem Df2(l:PLq)(X:List Pt)(hl:l.length<=1000000000)(hX:X.length<=1000000000):ha5 ⟨l.length,bL tP l,X⟩=⟨1,if l.any (λp=>!keep X p) then ((l.findIdx (λp=>!keep X p):Nat):Int) else -1,X⟩:=by
 have h:=Ab4 (step:=Q7 ⟨l.length,(l.length:Int),bL tP l⟩) (mk:=λj=>(⟨(j:Int),X⟩:D5)) (c:=λp=>!keep X p) (u:=1) (fin:=2) tP l hl
  (λj hj=>by
   simp only[Q7,Y8,Int.toNat_natCast,j8,o7,vd1 hj,Yc7 hj,Ed7 _ _ hX,D0 hj (show l.length<=4611686018427387904 by omega)]
   rw[btD (s8 hj),bt (j9 hj)]
   rfl)
  (by simp only[Q7,Y8];rw[bfD (E2 (Qid _))]) 0 (Qbw _)
 rw[Qia] at h;unfold ha5 xa3;simp only[j8,o7];rw[show (⟨0,X⟩:D5)=⟨((0:Nat):Int),X⟩ from rfl,h]
 cases ha:l.any λp=>!keep X p with
 |false=>rfl
 |true =>
  have hf:l.findIdx (λp=>!keep X p)<l.length:=by
   rw[Qiaa] at ha;obtain⟨p,hp,hc⟩:=ha;exact Qin ⟨p,hp,hc⟩
  simp only[if_true,Qar,Int.toNat_natCast,Yc7 hf,Ed7 _ _ hX,j8];rfl
theorem Yc8{α:Type}(c:α->Bool):∀l:List α,(l.take (l.findIdx c)).filter (λx=>!c x)=l.take (l.findIdx c)
 |[]=>rfl
 |x::l=>by
  rw[List.findIdx_cons];cases h:c x with
  |true=>rfl
  |false =>
   simp only[cond_false,List.take_succ_cons,Qio,h,Qis,if_true];rw[Yc8 c l]
theorem Ee6{α:Type}(l:List α)(j:Nat)(h:j<l.length):l.take (j+1)=l.take j++[l[j]]:=by rw[Qih h]
theorem Yc9{α:Type}(t:Ty α){l:List α}{j:Nat}(h:j<l.length):l.take (j+1)=l.take j++[gL t l j]:=by rw[Ee6 l j h,eb4 t h]
theorem hd5{α:Type}(t:Ty α){l r:List α}{j:Nat}(h:l.drop j=r.drop j):gL t l j=gL t r j:=by
 have h1:=vd0 t l j 0;have h2:=vd0 t r j 0;rw[Nat.add_zero] at h1 h2;rw[<- h1,<- h2,h]
theorem Zc0{α:Type}{l r:List α}{j:Nat}(h:l.drop j=r.drop j)(k:Nat):l.drop (j+k)=r.drop (j+k):=by rw[<- Qiac,<- Qiac,h]
structure Del(l:PLq)(f:Pln->Bool)(cur:PLq)(m j:Nat):Prop where
 len:cur.length=l.length
 t:cur.take m=(l.take j).filter f
 d:cur.drop j=l.drop j
 le:m<=j
 lm:m<=l.length
theorem se1(l:PLq)(X:List Pt)(hl:l.length<=1000000000)(hX:X.length<=1000000000)(m j:Nat)(cur:PLq)(hd:Del l (keep X) cur m j) :
  ∃t s,lp (L5 ⟨l.length⟩) ⟨(m:Int),(j:Int),bL tP cur,X⟩=(t,s)/\(t=1/\∃m' cur' k,s=⟨((m':Nat):Int),((k:Nat):Int),bL tP cur',X⟩/\Del l (keep X) cur' m' k/\l.length<=k):=by
 refine va3 (step:=L5 ⟨l.length⟩) (mk:=λj (x:Nat×PLq)=>(⟨(x.1:Int),(j:Int),bL tP x.2,X⟩:F5)) l.length (λj x=>Del l (keep X) x.2 x.1 j) (λt s=>t=1/\∃m' cur' k,s=⟨((m':Nat):Int),((k:Nat):Int),bL tP cur',X⟩/\Del l (keep X) cur' m' k/\l.length<=k) hl (λj x hj hx=>?_) (λj x hj hx=>?_) j (m,cur) hd
 ·obtain⟨m,cur⟩:=x;obtain⟨h1,h2,h3,h4,h5⟩:=hx
  simp only at h1 h2 h3 h4 h5
  have hjc:j<cur.length:=by omega
  have hmc:m<cur.length:=by omega
  have hg:gL tP cur j=gL tP l j:=hd5 tP h3;have hWm:W ((m:Int)+1)=((m+1:Nat):Int):=by rw[ja8 (by omega) (by omega)];omega
  have hb:Nat.blt m cur.length=true:=by rw[Qcf];exact hmc
  have hrow:g8 (bL tP cur) m=tP.row (gL tP cur m):=ba8 tP hmc;have sp:∀(v:Pln) (x1 x2 x3 x4:Int),V6 (tP.row v) 0 [i x1,i x2,i x3,i x4]=tP.row ⟨⟨x1,x2,x3⟩,x4⟩:=λ_ _ _ _ _=>rfl
  have rl:∀v:Pln,Nat.ble (0+4) (len (tP.row v))=true:=λ_=>rfl
  simp only[L5,Y9,Int.toNat_natCast,j8,o7,vd1 hjc,Yc7 hjc,Ed7 _ _ hX,D0 hj (show l.length<=4611686018427387904 by omega),hWm]
  rw[btD (s8 hj),bt (j9 hj)];simp only[Qar,hrow,O3,hb,sp,zd1,j9 (show m<l.length by omega),hg]
  have ht:=Yc9 tP hj;have hd1:cur.drop (j+1)=l.drop (j+1):=Zc0 h3 1;cases hk:keep X (gL tP l j) with
  |true =>
   refine .nx ⟨(m+1,cur.set m (gL tP l j)),rfl,⟨by rw[Qir];exact h1,?_,?_,by omega,by show m+1<=l.length;omega⟩⟩
   ·show (cur.set m (gL tP l j)).take (m+1)=_;rw[ht,Qiu,Qih (by rw[Qir];exact hmc),Qiad,List.take_set_of_le (Qaf _),h2,Qio,hk,if_pos rfl,List.filter_nil]
   ·show (cur.set m (gL tP l j)).drop (j+1)=_;rw[List.drop_set_of_lt (by omega),hd1]
  |false =>
   refine .nx ⟨(m,cur),rfl,⟨h1,?_,hd1,by omega,h5⟩⟩
   show cur.take m=_;rw[ht,Qiu,h2,Qio,hk,if_neg (by simp),List.filter_nil,Qbv]
 ·obtain⟨m,cur⟩:=x;refine⟨1,?_,rfl,m,cur,j,rfl,hx,hj⟩;simp only[L5,Y9];rw[bfD (by omega)]
theorem Me0(l:PLq)(n:Nat):N0 (bL tP l) n=bL tP (l.take n):=by unfold bL;rw[L9,A2,A2,List.map_take]
theorem de3(l:PLq)(n:Nat):l9 (bL tP l) n=bL tP (l.drop n):=by unfold bL;rw[M1,A2,A2,List.map_drop]
theorem Me1(n:Nat):List.replicate n [i 0,i 0,i 0,i 0]=bL tP (List.replicate n ⟨⟨0,0,0⟩,0⟩):=by unfold bL;rw[A2,List.map_replicate];rfl
theorem Td6(l:PLq)(X:List Pt)(hl:l.length<=1000000000)(hX:X.length<=1000000000) :
  ∃m r,P5 ⟨l.length,bL tP l,X⟩=⟨1,m,bL tP r,X⟩/\m<=r.length/\r.take m=l.filter (keep X)/\r.length=l.length:=by
 unfold P5 xa6;simp only[j8,o7,Df2 l X hl hX];cases ha:l.any λp=>!keep X p with
 |false =>
  refine⟨l.length,l,rfl,Qaf _,?_,rfl⟩;rw[List.take_length]
  symm
  rw[List.filter_eq_self];intro p hp
  have:=Qbq.1 ha p hp
  simpa using this
 |true =>
  have hf:l.findIdx (λp=>!keep X p)<l.length:=by
   rw[Qiaa] at ha;obtain⟨p,hp,hc⟩:=ha;exact Qin ⟨p,hp,hc⟩
  have hk:keep X (gL tP l (l.findIdx λp=>!keep X p))=false:=by
   have:=List.findIdx_getElem (xs:=l) (p:=λp=>!keep X p) (w:=hf)
   rw[eb4 tP hf];simpa using this
  have ht:=Yc8 (λp=>!keep X p) l
  simp only[Bool.not_not] at ht;generalize hF:l.findIdx (λp=>!keep X p)=F at *
  have hW:W ((F:Int)+1)=((F+1:Nat):Int):=D0 hf (by omega)
  have hne:((F:Int)==-1)=false:=by rw[beq_eq_false_iff_ne];omega
  obtain⟨t,s,e1,rfl,m,cur,k,e2,e3,e4⟩:=se1 l X hl hX F (F+1) l ⟨rfl,by rw[Yc9 tP hf,Qiu,ht,Qio,hk,if_neg (by simp),List.filter_nil,Qbv],rfl,by omega,by omega⟩
  have hm:m<=l.length:=e3.lm;have hin:inB (m:Int) (l.length+1)=true:=j9 (by omega)
  have hfin:cur.take m=l.filter (keep X):=by rw[e3.t,Qiab e4]
  simp only[if_true,hW,hne,e1,e2,Int.toNat_natCast,hin,Qar,Nat.sub_zero];refine⟨m,cur.take m++(List.replicate (l.length-m) ⟨⟨0,0,0⟩,0⟩++cur.drop (m+(l.length-m))),?_,?_,?_,?_⟩
  ·rw[Me0,Me1,de3,ob5,ob5];rfl
  ·rw[Qdc,Qdc,Qic,Qbm,e3.len];omega
  ·rw[Qik (by rw[Qic,e3.len];omega),List.take_take,Nat.min_self,hfin]
  ·rw[Qdc,Qdc,Qic,Qbm,Qie,e3.len];omega
def eqP(x y:Pln):Bool:=x.n.x==y.n.x&&(x.n.y==y.n.y&&(x.n.z==y.n.z&&(x.b==y.b&&true)))
theorem Yb1(x y:Pln):eqP x y=true↔x=y:=by
 unfold eqP;simp only[Qii,Qas,beq_iff_eq];refine⟨λ⟨h1,h2,h3,h4⟩=>?_,λh=>by subst h;exact⟨rfl,rfl,rfl,rfl⟩⟩
 obtain⟨⟨x1,x2,x3⟩,x4⟩:=x;obtain⟨⟨y1,y2,y3⟩,y4⟩:=y
 simp only at h1 h2 h3 h4
 subst h1 h2 h3 h4;rfl
def ddF:Pln->PLq->PLq
 |_,[]=>[]
 |a,x::l=>if eqP x a then ddF x l else x::ddF x l
def dd:PLq->PLq
 |[]=>[]
 |x::l=>x::ddF x l
theorem Me2:∀(a:Pln) (l:PLq),(ddF a l).length<=l.length
 |_,[]=>Qaf _
 |a,x::l=>by
  have:=Me2 x l
  unfold ddF
  split<;>simp only[List.length_cons]<;>omega
structure Cmp(l:PLq)(n:Nat)(cur:PLq)(m j:Nat)(R:PLq):Prop where
 len:cur.length=l.length
 t:cur.take m++ddF (gL tP l (j-1)) ((l.take n).drop j)=R
 d:cur.drop (j-1)=l.drop (j-1)
 le:m+1<=j
theorem de4(l:PLq)(n o:Nat)(hn:n<=l.length)(hl:l.length<=1000000000)(ho:o<n)(m:Nat)(cur:PLq)(R:PLq)(hd:Cmp l n cur m (o+1) R) :
  ∃t s,lp (E6 ⟨n,0+o,n-o⟩) ⟨(m:Int),((1:Nat):Int),bL tP cur⟩=(t,s)/\(t=1/\∃m' cur' k,s=⟨((m':Nat):Int),k,bL tP cur'⟩/\cur'.length=l.length/\cur'.take m'=R/\m'<=n):=by
 refine va3 (step:=E6 ⟨n,0+o,n-o⟩) (mk:=λj (x:Nat×PLq)=>(⟨(x.1:Int),(j:Int),bL tP x.2⟩:D8)) (n-o) (λj x=>Cmp l n x.2 x.1 (o+j) R/\1<=j/\x.1<=n) (λt s=>t=1/\∃m' cur' k,s=⟨((m':Nat):Int),k,bL tP cur'⟩/\cur'.length=l.length/\cur'.take m'=R/\m'<=n) (by omega) (λj x hj hx=>?_) (λj x hj hx=>?_) 1 (m,cur) ⟨hd,Qaf _,by have:=hd.le;show m<=n;omega⟩
 ·obtain⟨m,cur⟩:=x;obtain⟨⟨h1,h2,h3,h4⟩,hj1,hmn⟩:=hx
  simp only at h1 h2 h3 h4 hmn
  have hoj:o+j<n:=by omega
  have hjc:o+j<cur.length:=by omega
  have hjc':o+(j-1)<cur.length:=by omega
  have hmc:m<cur.length:=by omega
  have hg':gL tP cur (o+(j-1))=gL tP l (o+j-1):=by rw[show o+(j-1)=o+j-1 by omega];exact hd5 tP h3
  have hd1:cur.drop (o+j)=l.drop (o+j):=by have:=Zc0 h3 1;rw[show o+j-1+1=o+j by omega] at this;exact this
  have hg:gL tP cur (o+j)=gL tP l (o+j):=hd5 tP hd1;have hWm:W ((m:Int)+1)=((m+1:Nat):Int):=by rw[ja8 (by omega) (by omega)];omega
  have hWj:W ((j:Int)-1)=((j-1:Nat):Int):=by rw[ja8 (by omega) (by omega)];omega
  have hb:Nat.blt m cur.length=true:=by rw[Qcf];exact hmc
  have hrow:g8 (bL tP cur) m=tP.row (gL tP cur m):=ba8 tP hmc;have sp:∀(v:Pln) (x1 x2 x3 x4:Int),V6 (tP.row v) 0 [i x1,i x2,i x3,i x4]=tP.row ⟨⟨x1,x2,x3⟩,x4⟩:=λ_ _ _ _ _=>rfl
  have rl:∀v:Pln,Nat.ble 4 (len (tP.row v))=true:=λ_=>rfl
  simp only[E6,ea1,Int.toNat_natCast,Qar,hWj,Ae6 tP hjc,Ae6 tP hjc',Ae5 tP hjc,Ae5 tP hjc',D0 hj (show n-o<=4611686018427387904 by omega),hWm,hg,hg',hrow,O3,hb,sp,rl,zd1,j9 (show m<n by omega)]
  rw[btD (s8 hj)];simp only[j9 hj,j9 (show j-1<n-o by omega),i6,Bool.and_self]
  rw[show ((gL tP l (o+j)).n.x==(gL tP l (o+j-1)).n.x&&((gL tP l (o+j)).n.y==(gL tP l (o+j-1)).n.y&&((gL tP l (o+j)).n.z==(gL tP l (o+j-1)).n.z&&((gL tP l (o+j)).b==(gL tP l (o+j-1)).b&&true))))=eqP (gL tP l (o+j)) (gL tP l (o+j-1)) from rfl]
  have hcons:(l.take n).drop (o+j)=gL tP l (o+j)::(l.take n).drop (o+(j+1)):=by
   rw[Qib (by rw[Qic];omega),List.getElem_take,eb4 tP (by omega)]
   rfl
  rw[hcons] at h2;have hlast:o+(j+1)-1=o+j:=by omega
  unfold ddF at h2;cases he:eqP (gL tP l (o+j)) (gL tP l (o+j-1)) with
  |true =>
   rw[he] at h2;simp only[if_true] at h2;refine .nx ⟨(m,cur),rfl,⟨⟨h1,?_,?_,by show m+1<=o+(j+1);omega⟩,by omega,hmn⟩⟩
   ·rw[hlast];exact h2
   ·rw[hlast];exact hd1
  |false =>
   rw[he] at h2;simp only[Qit,if_false] at h2;refine .nx ⟨(m+1,cur.set m (gL tP l (o+j))),rfl,⟨⟨by rw[Qir];exact h1,?_,?_,by show m+1+1<=o+(j+1);omega⟩,by omega,by show m+1<=n;omega⟩⟩
   ·rw[hlast];show (cur.set m (gL tP l (o+j))).take (m+1)++_=R;rw[Qih (by rw[Qir];exact hmc),Qiad,List.take_set_of_le (Qaf _),Qim]
    exact h2
   ·rw[hlast];show (cur.set m (gL tP l (o+j))).drop (o+j)=_;rw[List.drop_set_of_lt (by omega),hd1]
 ·obtain⟨m,cur⟩:=x;obtain⟨⟨h1,h2,h3,h4⟩,hj1,hmn⟩:=hx
  simp only at h1 h2 h3 h4 hmn
  refine⟨1,?_,rfl,m,cur,_,rfl,h1,?_,hmn⟩
  ·simp only[E6,ea1];rw[bfD (by omega)]
  ·rw[Qij (by rw[Qic];omega)] at h2
   unfold ddF at h2;rw[Qbv] at h2;exact h2
theorem Ed8(l:PLq)(n:Nat)(hn:n<=l.length)(hl:l.length<=1000000000) :
  ∃m r,ea3 ⟨n,bL tP l⟩=⟨1,m,bL tP r⟩/\m<=r.length/\r.take m=dd (l.take n):=by
 unfold ea3 Ja4
 simp only
 by_cases h2:(n:Int)<2
 ·rw[btD h2];refine⟨n,l,rfl,hn,?_⟩
  have:n=0\/n=1:=by omega
  rcases this with rfl|rfl
  ·rfl
  ·cases l with
   |nil=>rfl
   |cons x l=>rfl
 ·rw[bfD h2];have h1n:1<=n:=by omega
  have hI : ∀ j, j < n → 1 ≤ j → l.take j ++ ddF (gL tP l (j - 1)) ((l.take n).drop j) = dd (l.take n) →
    (eqP (gL tP l j) (gL tP l (j-1))=true->Cmp l n l j (j+1) (dd (l.take n)))/\(eqP (gL tP l j) (gL tP l (j-1))=false->l.take (j+1)++ddF (gL tP l (j+1-1)) ((l.take n).drop (j+1))=dd (l.take n)):=by
   intro j hj hj1 hR;have hcons:(l.take n).drop j=gL tP l j::(l.take n).drop (j+1):=by
    rw[Qib (by rw[Qic];omega),List.getElem_take,eb4 tP (by omega)]
   rw[hcons] at hR;unfold ddF at hR;constructor
   ·intro he;rw[he] at hR;simp only[if_true] at hR;exact⟨rfl,hR,rfl,Qaf _⟩
   ·intro he;rw[he] at hR;simp only[Qit,if_false] at hR;rw[Yc9 tP (show j<l.length by omega),Qim]
    exact hR
  have inner:∀k,k<n->1<=k->Cmp l n l k (k+1) (dd (l.take n))->∃m' cur' k',lp (E6 ⟨n,0+k,n-k⟩) ⟨(k:Int),1,bL tP l⟩=(1,⟨((m':Nat):Int),k',bL tP cur'⟩)/\cur'.length=l.length/\cur'.take m'=dd (l.take n)/\m'<=n:=by
   intro k hk hk1 hc;obtain⟨t,s,e1,rfl,m',cur',k',rfl,e2,e3,e4⟩:=de4 l n k hn hl hk k l _ hc;exact⟨m',cur',k',e1,e2,e3,e4⟩
  have key:=va3 (step:=X4 ⟨n,bL tP l⟩) (mk:=λj (_:Unit)=>(⟨(j:Int)⟩:ja7)) n (λj _=>1<=j/\j<=n/\l.take j++ddF (gL tP l (j-1)) ((l.take n).drop j)=dd (l.take n))
   (λt s=>(t=1/\∃k:Nat,s=⟨(k:Int)⟩/\k<n/\1<=k/\Cmp l n l k (k+1) (dd (l.take n)))\/(t=2/\l.take n=dd (l.take n))) (by omega) (λj x hj hx=>?_) (λj x hj hx=>?_) 1 () ⟨Qaf _,h1n,by
    cases l with
    |nil=>simp only[List.length_nil] at hn;omega
    |cons x l =>
     cases n with
     |zero=>omega
     |succ n=>rfl⟩
  ·obtain⟨t,s,e1,e2⟩:=key;rw[show (⟨1⟩:ja7)=⟨((1:Nat):Int)⟩ from rfl,e1]
   rcases e2 with⟨rfl,k,rfl,hk,hk1,hc⟩|⟨rfl,he⟩
   ·obtain⟨m',cur',k',e2,e3,e4,e5⟩:=inner k hk hk1 hc;simp only[Int.toNat_natCast,e2];simp only[Qar,Nat.sub_zero];refine⟨m',cur'.take m'++(List.replicate (n-m') ⟨⟨0,0,0⟩,0⟩++cur'.drop (m'+(n-m'))),?_,?_,?_⟩
    ·rw[Me0,Me1,de3,ob5,ob5];rfl
    ·rw[Qdc,Qic,e3];omega
    ·rw[Qik (by rw[Qic,e3];omega),List.take_take,Nat.min_self,e4]
   ·exact⟨n,l,rfl,hn,he⟩
  ·obtain⟨hj1,hjn,hR⟩:=hx;obtain⟨i1,i2⟩:=hI j hj hj1 hR;have hWj:W ((j:Int)-1)=((j-1:Nat):Int):=by rw[ja8 (by omega) (by omega)];omega
   have hjl:j<l.length:=by omega
   have hjl':j-1<l.length:=by omega
   simp only[X4,ea2,Int.toNat_natCast,hWj,vd1 hjl,vd1 hjl',Yc7 hjl,Yc7 hjl',D0 hj (show n<=4611686018427387904 by omega)]
   rw[btD (s8 hj),bt (j9 hj),bt (j9 (show j-1<n by omega)),bt (j9 (show j<n+1 by omega))]
   simp only[i6];rw[show ((gL tP l j).n.x==(gL tP l (j-1)).n.x&&((gL tP l j).n.y==(gL tP l (j-1)).n.y&&((gL tP l j).n.z==(gL tP l (j-1)).n.z&&((gL tP l j).b==(gL tP l (j-1)).b&&true))))=eqP (gL tP l j) (gL tP l (j-1)) from rfl]
   cases he:eqP (gL tP l j) (gL tP l (j-1)) with
   |false=>exact .nx ⟨(),rfl,by omega,by omega,i2 he⟩
   |true =>
    obtain⟨m',cur',k',e2,e3,e4,e5⟩:=inner j hj hj1 (i1 he);rw[e2];simp only[j9 (show m'<n+1 by omega)]
    exact .ex (.inl ⟨rfl,j,rfl,hj,hj1,i1 he⟩)
  ·obtain⟨hj1,hjn,hR⟩:=hx;refine⟨2,?_,.inr ⟨rfl,?_⟩⟩
   ·simp only[X4,ea2];rw[bfD (by omega)]
   ·have:j=n:=by omega
    subst this;rw[Qij (by rw[Qic];omega)] at hR
    unfold ddF at hR;rw[Qbv] at hR;exact hR
theorem mf4(l:PLq)(n:Nat)(hn:n<=l.length):slR tP (bL tP l) 0 n=l.take n:=wc6 tP (by rw[Qic];omega) λk hk=>by
 rw[Qar,ba8 tP (by omega)]
 congr 1;simp[gL,Qda,Qap,hk]
theorem mf5(l:PLq)(n:Nat)(hn:n<=l.length):okS tP (bL tP l) 0 n=true:=jc2 tP (f:=λk=>gL tP l k) λk hk=>by rw[Qar,ba8 tP (by omega)]
def lean(c:PLq):PLq:=if ful c then dd (kb0 (c.filter (keep (pts c)))) else []
theorem Me3(p:Pln)(c:PLq)(hc:c.length<=1000000):Rd (one (r1L tP)) (Db0 (p,c)) (λr=>r=lean (p::c)):=by
 have hl:(p::c).length<=1000000000:=by simp only[List.length_cons];omega
 have hX:=Le8 (p::c);unfold Db0 lean;simp only[j8,B8,o7,Yf5,Yf6,gd9 hl,hd4 hl,Ed5 hl,Ed6 hl];cases hf:ful (p::c) with
 |false=>exact⟨_,[],rfl,rfl,rfl⟩
 |true =>
  have ec:B3 (λk=>tP.row (gL tP (p::c) k)) (List.range (c.length+1))=bL tP (p::c):=Ka4 tP (p::c)
  have hcl:Aa0 (p,c)=⟨1,(p::c).length,bL tP (p::c)⟩:=by
   unfold Aa0 Ua2;simp only[ec,O3];have r:Nat.ble ((0+(p::c).length)*32) room=true:=mc3 (by simp only[List.length_cons];omega)
   rw[r,Qar];rfl
  obtain⟨m,r,e1,e2,e3,e4⟩:=Td6 (p::c) (pts (p::c)) hl (by omega)
  have hm:m<=(p::c).length:=by
   have h1:=congrArg List.length e3;have h2:=List.length_filter_le (keep (pts (p::c))) (p::c);rw[Qic] at h1;omega
  have hs:(kb0 (r.take m)).length=m:=by rw[Hc4,Qic];omega
  have hrows:app (bL tP (kb0 (r.take m))) (l9 (bL tP r) m)=bL tP (kb0 (r.take m)++r.drop m):=by rw[de3,ob5]
  have hok:okL tP (c.length+1) (λk=>tP.row (gL tP (p::c) k))=true:=jc2 tP (f:=λk=>gL tP (p::c) k) λ_ _=>rfl
  simp only[hcl,e1,mf4 r m e2,mf5 r m e2,hrows,hok];obtain⟨m2,r2,k1,k2,k3⟩:=Ed8 (kb0 (r.take m)++r.drop m) m (by rw[Qdc,hs];omega) (by rw[Qdc,hs,Qie,e4];omega)
  rw[k1,O3];have q1:Nat.ble m room=true:=by rw[Qiae];unfold room;simp only[List.length_cons] at hm;omega
  have q2:Nat.ble m r.length=true:=by rw[Qiae];exact e2
  rw[q1,q2];have hfin:r2.take m2=dd (kb0 ((p::c).filter (keep (pts (p::c))))):=by
   rw[k3,Qik (by rw[hs];omega),Qiab (by rw[hs];omega),e3]
  exact mf3 k2 rfl hfin
theorem Tf4(p:Pln)(c:PLq)(hc:c.length<=1000000):nd4 (p,c)=lean (p::c):=(Me3 p c hc).p
theorem Tf5(p:Pln)(c:PLq)(hc:c.length<=1000000):nd5 (p,c)=true:=(Me3 p c hc).g
end Go.Ev.Ce
namespace Go.Ev.Ce
open Go Go.Ev Go.Ev.L Go.Proofs Go.Sort
theorem Ed9(l:PLq):List.Perm (kb0 l) l:=List.mergeSort_perm l _
theorem We1(x y z:Pln)(h1:(!ltOf Ub7 y x)=true)(h2:(!ltOf Ub7 z y)=true):(!ltOf Ub7 z x)=true:=by
 simp only[Qcc,yb0,decide_eq_false_iff_not] at *
 unfold LtP at *
 omega
theorem We2(x y:Pln):((!ltOf Ub7 y x)||!ltOf Ub7 x y)=true:=by
 simp only[Qcg,Qcc,yb0,decide_eq_false_iff_not];unfold LtP;omega
theorem de5(l:PLq):(kb0 l).Pairwise λx y=>(!ltOf Ub7 y x)=true:=List.pairwise_mergeSort We1 We2 l
instance:DecidableEq Pln:=λx y=>decidable_of_iff _ (Yb1 x y)
def PC:List Pt:=[⟨0,0,0,1⟩,⟨0,0,1,4⟩,⟨0,1,0,3⟩,⟨1,0,0,2⟩]
theorem Ee7:ful []=true:=by kernel_rfl
end Go.Ev.Ce
namespace Go.Ev.L
open Go Go.Ev
def Tf6:Cod Unit where
 enc _:=.v (.slice none 0 0)
 dec x:=match x with
  |.v (.slice none 0 0)=>some ()
  |_=>none
 grd _:=true
 ok x a hx _:=by
  split at hx
  ·exact .refl _
  ·cases hx
def cE0:Cod (Addr×Nat) where
 enc z:=.v (.slice (some z.1) 0 z.2)
 dec x:=match x with
  |.v (.slice (some a) 0 c)=>some (a,c)
  |_=>none
 grd _:=true
 ok x a hx _:=by
  split at hx
  ·cases hx;exact .refl _
  ·cases hx
section
variable{α:Type}{t:Ty α}{P:Program}{G:Nat->List Value}{f:FuncId}
theorem de6{β:Type}{c:Cod β}{k k':β->DT (c7×List c8)}(h:l8 P G f (ba7 c k))(hk:∀a r,(k' a).run=some r->(k a).run=some r):l8 P G f (ba7 c k'):=h.le λargs blks r hr=>by
 unfold ba7 at hr ⊢
 split at hr
 ·obtain⟨a,h1,hr⟩:=X3 hr;obtain⟨g,hr⟩:=DT.run_guard_some hr;simp only[h1,onO,g];exact hk a r hr
 ·cases hr
theorem Tf7{k:List α->DT (c7×List c8)}(hA:l8 P G f (ba7 (df8 t) λz=>k (z.1::z.2)))(hN:l8 P G f (ba7 Tf6 λ_=>k []))(hE:l8 P G f (ba7 cE0 λ_=>k [])):l8 P G f (ba7 (pa5 t) k):=by
 intro args blks r out he W ρ F w args' hH hlen hargs hG;unfold ba7 at he
 split at he
 ·rename_i x;obtain⟨a,h1,he⟩:=X3 he;obtain⟨g1,hk⟩:=DT.run_guard_some he;have nilCase:∀v',args'[0]?=some v'->v'=.slice none 0 0->a=[]->Ob7 P f/\Calls P f args'.toArray w λe w'=>∃r',e=.returned r'/\V1 W ρ [] F w r out r' w':=λv' hv e ha=>by
   subst ha;refine hN [.v (.slice none 0 0)] [] r out ?_ W ρ F w args' hH hlen (λi x' y' hx hy=>?_) hG
   ·exact hk
   ·match i with
    |0=>cases hx;rw[hv] at hy;cases hy;rw[e];exact .val (.cell (.v _))
    |i+1=>cases hx
  have emptyCase:∀v' ad c,args'[0]?=some v'->v'=.slice (some ad) 0 c->a=[]->Ob7 P f/\Calls P f args'.toArray w λe w'=>∃r',e=.returned r'/\V1 W ρ [] F w r out r' w':=λv' ad c hv e ha=>by
   subst ha;refine hE [.v (.slice (some ad) 0 c)] [] r out ?_ W ρ F w args' hH hlen (λi x' y' hx hy=>?_) hG
   ·exact hk
   ·match i with
    |0=>cases hx;rw[hv] at hy;cases hy;rw[e];exact .val (.cell (.v _))
    |i+1=>cases hx
  obtain⟨v',hv⟩:∃v',args'[0]?=some v':=by
   cases args' with
   |nil=>simp at hlen
   |cons v' r'=>exact⟨v',rfl⟩
  cases x with
  |tree e n get =>
   have hb:Nat.beq e t.es=true/\a=lsL t n get:=by
    have h1:(Bool.rec none (some (lsL t n get)) (Nat.beq e t.es):Option (List α))=some a:=h1;cases hb:Nat.beq e t.es with
    |false=>rw[hb] at h1;cases h1
    |true =>
     simp_all
   cases n with
   |zero =>
    have ha:a=[]:=hb.2;have hm:=Ea1 (hargs 0 _ v' rfl hv);cases hm with
    |tree _ _ _ ad cap cs hs hcap hes hF hw hr=>exact emptyCase _ ad cap hv rfl ha
    |nil=>exact nilCase _ hv rfl ha
   |succ m =>
    have ha:a=hC t get::tC t m get:=hb.2.trans (le3 t m get);subst ha;refine hA [.tree e (m+1) get] [] r out ?_ W ρ F w args' hH hlen hargs hG;have hc:(df8 t).dec (.tree e (m+1) get)=some (hC t get,tC t m get):=by
     show (Bool.rec none (some (hC t get,tC t m get)) (Nat.beq e t.es):Option (α×List α))=_;rw[hb.1]
    have hg:(df8 t).grd (.tree e (m+1) get)=true:=g1;simp only[ba7,hc,onO,hg];exact hk
  |v q =>
   have hq:=ga8 (hargs 0 _ v' rfl hv);unfold pa5 at h1
   grind
  |_=>cases h1
 ·cases he
end
end Go.Ev.L
namespace Go.Ev.Ce
open Go Go.Ev Go.Ev.L Go.Proofs
set_option maxRecDepth 100000
@[reducible] noncomputable def Yb2:Sum:=Vb8 (En tbN) Kf3
theorem Qc3:l8 prog G 153 Yb2:=bd qg0 Aa9
@[reducible] noncomputable def Yb3:Sum:=Vb8 (En tbN) Kf2
theorem Qc4:l8 prog G 152 Yb3:=bd pg9 Aa9
def gc0:List (Nat×Sum):=[(152,Yb3),(153,Yb2)]
theorem Zc1:C6 prog G gc0:=⟨Qc4,Qc3,trivial⟩
@[reducible] noncomputable def rc4:Sum:=Vb8 (En gc0) Jf9
theorem hd6:l8 prog G 131 rc4:=bd og8 Zc1
def ja5(p:Ra6)(s:Ra6):St:=⟨nlq::i 0::i 0::.fn 110 []::ra 4 (i 1::ra 44 []),[]⟩
def ia0{α:Type}(k:Ra6->α)(e:Nat->α)(z:α)(p:Ra6)(s:Ra6):α:=(e 1)
def T9(p:Ra6)(s:Ra6):Stp Ra6:=ia0 .next .exit .fail p s
def V4:Lo Ra6 Ra6:=⟨En tbN,0,Kf1,[1,4,4],[0,1,2,3,8],.p,[⟨.s (.o .nil)::.s (.o (.lit .i64 0))::.s (.o (.lit .i64 0))::.s (.o (.fn 110))::ru2 4 (.s (.o (.lit .i64 1))::ru2 44 []),[],λa H=>(⟨⟩,⟨⟩)⟩],T9,[(some 0,λp s=>upq (ja5 p s) [(12,i 1),(13,i 0),(14,b false)])],ja5⟩
theorem Ra1:V4.Ok:=Lo.okq [] .nil λp s=>(.ofq @ia0)
structure X7 where
 alt:Nat
def X8{α:Type}(kk:X7->α)(x:Ra6):α:=let t1:=(lp (T9 (⟨⟩:Ra6)) (⟨⟩:Ra6));(sl (Nat.beq t1.1 1) (kk ⟨1⟩) (kk ⟨0⟩))
def N6(x:Ra6):X7:=X8 (λr=>r) x
def ma7(x:Ra6)(r:X7):DT (c7×List c8):=(Ca8 r.alt 1 (.tup [],[]) .fail)
def pa6:Sum:=Oa2 ⟨[.s (.o .nil),.s (.o (.lit .i64 0)),.s (.o (.lit .i64 0)),.s (.o (.fn 110))],[],λa H=>(⟨⟩,())⟩ (λx=>ma7 x (N6 x))
theorem Ya4:l8 prog G 144 pa6:=K8 (enc:=λx=>⟨[nlq,i 0,i 0,.fn 110 []],[]⟩) (λa H=>by kernel_rfl) (bd pg8 Aa9) λx=>da5 (.s .p (.b (.u V4.ls))) [V4.pr] (.cons Ra1 .nil) (mEq @X8 (λr=>(ma7 x r).run) x)
def Ca6:List (Nat×Sum):=[(144,pa6)]
theorem rb9:C6 prog G Ca6:=⟨Ya4,trivial⟩
def mb5(p:Ra6)(s:Ra6):St:=⟨nlq::i 0::i 0::i 0::.fn 110 []::ra 5 (b true::b true::ra 136 []),[]⟩
def ba2{α:Type}(k:Ra6->α)(e:Nat->α)(z:α)(p:Ra6)(s:Ra6):α:=let t1:=(N6 ⟨⟩);(sl (Nat.beq t1.alt 1) (e 1) z)
def R2(p:Ra6)(s:Ra6):Stp Ra6:=ba2 .next .exit .fail p s
def ea4:Lo Ra6 Ra6:=⟨En Ca6,0,Jf8,[1,1,4,4],[0,1,2,3,4,10,11],.p,[⟨.s (.o .nil)::.s (.o (.lit .i64 0))::.s (.o (.lit .i64 0))::.s (.o (.lit .i64 0))::.s (.o (.fn 110))::ru2 5 (.s (.o (.blit true))::.s (.o (.blit true))::ru2 136 []),[],λa H=>(⟨⟩,⟨⟩)⟩],R2,[(none,λp s=>⟨[.tup []],[]⟩)],mb5⟩
theorem mb6:ea4.Ok:=Lo.okq [] .nil λp s=>(.ofq @ba2)
def ia6{α:Type}(kk:X7->α)(x:Ra6):α:=let t1:=(lp (R2 (⟨⟩:Ra6)) (⟨⟩:Ra6));(sl (Nat.beq t1.1 1) (kk ⟨1⟩) (kk ⟨0⟩))
def W5(x:Ra6):X7:=ia6 (λr=>r) x
def Ca7(x:Ra6)(r:X7):DT (c7×List c8):=(Ca8 r.alt 1 (.tup [],[]) .fail)
def Fa4:Sum:=Oa2 ⟨[.s (.o .nil),.s (.o (.lit .i64 0)),.s (.o (.lit .i64 0)),.s (.o (.lit .i64 0)),.s (.o (.fn 110))],[],λa H=>(⟨⟩,())⟩ (λx=>Ca7 x (W5 x))
theorem ub5:l8 prog G 130 Fa4:=K8 (enc:=λx=>⟨[nlq,i 0,i 0,i 0,.fn 110 []],[]⟩) (λa H=>by kernel_rfl) (bd og7 rb9) λx=>da5 (.s .p (.s .p (.b (.u ea4.ls)))) [ea4.pr] (.cons mb6 .nil) (mEq @ia6 (λr=>(Ca7 x r).run) x)
def Ub8:List (Nat×Sum):=[(130,Fa4),(131,rc4)]
theorem Rb9:C6 prog G Ub8:=⟨ub5,hd6,trivial⟩
def Ca1{α:Type}(kk:X7->α)(x:Ra6):α:=let t1:=(W5 ⟨⟩);(sl (Nat.beq t1.alt 1) (kk ⟨1⟩) (kk ⟨0⟩))
def ja9(x:Ra6):X7:=Ca1 (λr=>r) x
def bb0(x:Ra6)(r:X7):DT (c7×List c8):=(Ca8 r.alt 1 (.tup [],[]) .fail)
def eb5:Sum:=Oa2 ⟨[.s (.o .nil),.s (.o (.fn 110))],[],λa H=>(⟨⟩,())⟩ (λx=>bb0 x (ja9 x))
theorem Ub9:l8 prog G 109 eb5:=K8 (enc:=λx=>⟨[nlq,.fn 110 []],[]⟩) (λa H=>by kernel_rfl) (bd ng1 Rb9) λx=>va5 (mEq @Ca1 (λr=>(bb0 x r).run) x)
structure xa8 where
 m8:List Pt
def Ma2(p:xa8)(s:Ra6):St:=⟨nlq::.fn 108 [.ptr 0 0 0 0]::ra 5 (i 0::i 0::ra 10 []),[bq 0 1 [[eL tX p.m8]]]⟩
def Ha7{α:Type}(k:Ra6->α)(e:Nat->α)(z:α)(p:xa8)(s:Ra6):α:=(e 1)
def pa0(p:xa8)(s:Ra6):Stp Ra6:=Ha7 .next .exit .fail p s
def sa0:Lo xa8 Ra6:=⟨En tbN,1,oe1,[1,0,1,4,4],[0,1,7,8],.p,[⟨.s (.o .nil)::.fn 108 [.o (.ptr 0 0 0 0)]::ru2 5 (.s (.o (.lit .i64 0))::.s (.o (.lit .i64 0))::ru2 10 []),[⟨0,1,true,some [[.c 4 (nL tX)]]⟩],λa H=>(⟨hLq tX H 0 0 0⟩,⟨⟩)⟩],pa0,[(some 0,λp s=>upq (Ma2 p s) [(9,b false)])],Ma2⟩
theorem Hb5:sa0.Ok:=Lo.okq [] .nil λp s=>(.ofq @Ha7)
structure xa9 where
 alt:Nat
 m8:List Pt
def ya0{α:Type}(kk:xa9->α)(x:xa8):α:=let t1:=(lp (pa0 (⟨rt tX x.m8⟩:xa8)) (⟨⟩:Ra6));(sl ((cnE tX x.m8)&&true) (sl (Nat.beq t1.1 1) (kk ⟨1,rt tX x.m8⟩) (kk ⟨0,[]⟩)) (kk ⟨0,[]⟩))
def ya1(x:xa8):xa9:=ya0 (λr=>r) x
def Ua5(x:xa8)(r:xa9):DT (c7×List c8):=(Ca8 r.alt 1 (i (-1),[bq 0 1 [[eL tX r.m8]]]) .fail)
def bb1:Sum:=Oa2 ⟨[.s (.o .nil),.fn 108 [.o (.ptr 0 0 0 0)]],[⟨0,1,true,some [[.c 4 (nL tX)]]⟩],λa H=>(⟨hLq tX H 0 0 0⟩,())⟩ (λx=>Ua5 x (ya1 x))
theorem Sb0:l8 prog G 118 bb1:=K8 (enc:=λx=>⟨[nlq,.fn 108 [.ptr 0 0 0 0]],[bq 0 1 [[eL tX x.m8]]]⟩) (λa H=>by kernel_rfl) (bd Af8 Aa9) λx=>da5 (.s .p (.s (.s .p (.b (.u sa0.ls))) .p)) [sa0.pr] (.cons Hb5 .nil) (mEq @ya0 (λr=>(Ua5 x r).run) x)
def Mb4:List (Nat×Sum):=[(118,bb1)]
theorem Hb6:C6 prog G Mb4:=⟨Sb0,trivial⟩
def ua0{α:Type}(kk:xa9->α)(x:xa8):α:=let t1:=(ya1 ⟨rt tX x.m8⟩);(sl ((cnE tX x.m8)&&true) (sl (Nat.beq t1.alt 1) (kk ⟨1,t1.m8⟩) (kk ⟨0,[]⟩)) (kk ⟨0,[]⟩))
def ea5(x:xa8):xa9:=ua0 (λr=>r) x
def Qa2(x:xa8)(r:xa9):DT (c7×List c8):=(Ca8 r.alt 1 (nlq,[bq 0 1 [[eL tX r.m8]]]) .fail)
def Ua6:Sum:=Oa2 ⟨[.s (.o .nil),.fn 108 [.o (.ptr 0 0 0 0)]],[⟨0,1,true,some [[.c 4 (nL tX)]]⟩],λa H=>(⟨hLq tX H 0 0 0⟩,())⟩ (λx=>Qa2 x (ea5 x))
theorem Mb5:l8 prog G 107 Ua6:=K8 (enc:=λx=>⟨[nlq,.fn 108 [.ptr 0 0 0 0]],[bq 0 1 [[eL tX x.m8]]]⟩) (λa H=>by kernel_rfl) (bd cg9 Hb6) λx=>da5 .p [] .nil (mEq @ua0 (λr=>(Qa2 x r).run) x)
def kb2{α:Type}(kk:Ra6->α)(x:Ra6):α:=(kk ⟨⟩)
def gc1(x:Ra6):Ra6:=kb2 (λr=>r) x
def eb6(x:Ra6)(r:Ra6):DT (c7×List c8):=.ret (nlq,[])
def kb3:Sum:=Oa2 ⟨[.s (.o .nil)],[],λa H=>(⟨⟩,())⟩ (λx=>eb6 x (gc1 x))
theorem bc9:l8 prog G 111 kb3:=K8 (enc:=λx=>⟨[nlq],[]⟩) (λa H=>by kernel_rfl) (bd dg0 Aa9) λx=>da5 .p [] .nil (mEq @kb2 (λr=>(eb6 x r).run) x)
def vb1{α:Type}(kk:Ra6->α)(x:Unit):α:=(kk ⟨⟩)
def tc2(x:Unit):Ra6:=vb1 (λr=>r) x
def sb0(r:Ra6):DT (c7×List c8):=.ret (nlq,[])
def vb2:Sum:=ba7 Tf6 (λx=>sb0 (tc2 x))
theorem mc4:l8 prog G 75 vb2:=Lb3 (bd b75 Aa9) λx=>va5 (mEq @vb1 (λr=>(sb0 r).run) x)
def Ld8:List (Nat×Sum):=[(39,Ta5),(106,Ab2),(75,vb2),(107,Ua6),(109,eb5),(111,kb3)]
theorem Fd0:C6 prog G Ld8:=⟨Ya3,Rb4,mc4,Mb5,Ub9,bc9,trivial⟩
def sb1(x:Unit):ROq:=let t1:=(za8 []);let t2:=(Na7 []);let t4:=(ea5 ⟨rt tX t2⟩);let t5:=(ja9 ⟨⟩);(sl (za9 []) (sl (!t1) (some (nlq,[])) (sl (Na8 []) (sl ((cnE tX t2)&&true) (sl (Nat.beq t4.alt 1) (sl (Nat.beq t5.alt 1) (some (nlq,[])) none) none) none) none)) none)
def mc5(x:Unit):PLq:=aa3 (one (r1L tP)) (sb1 x)
def mc6(x:Unit):Bool:=okO (one (r1L tP)) (sb1 x)
def de7:Sum:=ba7 Tf6 (λx=>.guard (mc6 x) (.ret ((one (r1L tP)).enc (mc5 x),[])))
theorem Ld9:l8 prog G 87 de7:=cb9 (bd b87 Fd0) (one (r1L tP)) (o:=sb1)
def vb3{α:Type}(kk:Ra6->α)(x:Addr×Nat):α:=(kk ⟨⟩)
def tc3(x:Addr×Nat):Ra6:=vb3 (λr=>r) x
def sb2(r:Ra6):DT (c7×List c8):=.ret (.sl 0 0 0 0,[bq 66 4 []])
def vb4:Sum:=ba7 cE0 (λx=>sb2 (tc3 x))
theorem mc7:l8 prog G 75 vb4:=Lb3 (bd b75 Aa9) λx=>va5 (mEq @vb3 (λr=>(sb2 r).run) x)
def Md0:List (Nat×Sum):=[(39,Ta5),(106,Ab2),(75,vb4),(107,xa7),(109,Fa3),(111,Ja5)]
theorem Fd1:C6 prog G Md0:=⟨Ya3,Rb4,mc7,Ua0,eb2,jb9,trivial⟩
def sb3(x:Addr×Nat):ROq:=let t1:=(za8 []);let t2:=(Na7 []);let t4:=(P5 ⟨0,[],rt tX t2⟩);let t5:=(ea3 ⟨t4.ns0,app (bL tP (kb0 (slR tP t4.eh0 0 t4.ns0))) (l9 t4.eh0 t4.ns0)⟩);(sl (za9 []) (sl (!t1) (some (nlq,[])) (sl (Na8 []) (sl ((cnE tX t2)&&true) (sl (Nat.beq t4.alt 1) (sl (Bool.and (Nat.ble t4.ns0 room) (Bool.and (Nat.ble t4.ns0 (len t4.eh0)) (okS tP t4.eh0 0 t4.ns0))) (sl (Nat.beq t5.alt 1) (some (.sl 0 0 t5.ns0 0,[bq 66 4 t5.eh0])) none) none) none) none) none)) none)
def Zc2(x:Addr×Nat):PLq:=aa3 (one (r1L tP)) (sb3 x)
def Zc3(x:Addr×Nat):Bool:=okO (one (r1L tP)) (sb3 x)
def de8:Sum:=ba7 cE0 (λx=>.guard (Zc3 x) (.ret ((one (r1L tP)).enc (Zc2 x),[])))
theorem Md1:l8 prog G 87 de8:=cb9 (bd b87 Fd1) (one (r1L tP)) (o:=sb3)
theorem vd4{σ:Type}{step:σ->Stp σ}{s:σ}{t:Nat}(h:step s=.exit t):lp step s=(t,s):=by rw[df3];exact yd7 h
theorem Td7:kb0 []=[]:=Qbh (Hc4 [])
theorem se2:lean []=[]:=by
 unfold lean;rw[Ee7,if_pos rfl,List.filter_nil,Td7];rfl
theorem qg7(X:List Pt):ea5 ⟨X⟩=⟨1,X⟩:=by
 unfold ea5 ua0 ya1 ya0;simp only[j8,o7];rw[vd4 (step:=pa0 ⟨X⟩) (s:=⟨⟩) (t:=1) rfl];rfl
theorem eg6:ja9 ⟨⟩=⟨1⟩:=by
 have h1:N6 ⟨⟩=⟨1⟩:=by
  unfold N6 X8
  simp only
  rw[vd4 (step:=T9 ⟨⟩) (s:=⟨⟩) (t:=1) rfl];rfl
 have h2:W5 ⟨⟩=⟨1⟩:=by
  unfold W5 ia6
  simp only
  rw[vd4 (step:=R2 ⟨⟩) (s:=⟨⟩) (t:=1) (by
   unfold R2 ba2;simp only[h1]
   rfl)]
  rfl
 unfold ja9 Ca1;simp only[h2];rfl
theorem se3(x:Unit):sb1 x=some (.v (.slice none 0 0),[]):=by
 have hn:([]:PLq).length<=1000000000:=by simp
 unfold sb1;simp only[j8,o7,gd9 hn,hd4 hn,Ed5 hn,Ed6 hn,Ee7,qg7,eg6];rfl
theorem se4(x:Addr×Nat):Rd (one (r1L tP)) (sb3 x) (λr=>r=[]):=by
 have hn:([]:PLq).length<=1000000000:=by simp
 have hX:=Le8 [];obtain⟨m,r,e1,e2,e3,e4⟩:=Td6 [] (pts []) hn (by omega)
 have hr:r=[]:=Qbh (by simpa using e4)
 subst hr;have hm:m=0:=by simpa using e2
 subst hm;obtain⟨m2,r2,k1,k2,k3⟩:=Ed8 [] 0 (by simp) hn
 have e1:P5 ⟨0,[],pts []⟩=_:=e1;unfold sb3;simp only[j8,o7,gd9 hn,hd4 hn,Ed5 hn,Ed6 hn,Ee7,e1];have hs:app (bL tP (kb0 (slR tP (bL tP []) 0 0))) (l9 (bL tP []) 0)=bL tP []:=by
  rw[show slR tP (bL tP []) 0 0=[] from rfl,Td7];rfl
 rw[hs,k1];have hfin:r2.take m2=[]:=by rw[k3];rfl
 exact mf3 (P:=λr=>r=[]) k2 rfl hfin
def W6(l:PLq):PLq:=lean l
def W7(l:PLq):Bool:=decide (l.length<=1000000)
def mc8:Sum:=ba7 (pa5 tP) λl=>.guard (W7 l) (.ret ((one (r1L tP)).enc (W6 l),[]))
theorem Mc2:l8 prog G 87 mc8:=by
 refine Tf7 (de6 ce5 λa r hr=>?_) (de6 Ld9 λa r hr=>?_) (de6 Md1 λa r hr=>?_)
 ·obtain⟨p,c⟩:=a;obtain⟨hg,hr⟩:=DT.run_guard_some hr;have hl:c.length<=1000000:=by
   have:=of_decide_eq_true hg
   simp only[List.length_cons] at this;omega
  rw[Tf4 p c hl,Tf5 p c hl];exact hr
 ·obtain⟨hg,hr⟩:=DT.run_guard_some hr;have e:mc5 a=lean []:=by unfold mc5;rw[se3,se2];exact kb1 _ rfl
  have e2:mc6 a=true:=by unfold mc6;rw[se3];exact Db1 (r:=[]) _ rfl
  rw[e,e2];exact hr
 ·obtain⟨hg,hr⟩:=DT.run_guard_some hr;have e:Zc2 a=lean []:=by rw[se2];exact (se4 a).p
  rw[e,show Zc3 a=true from (se4 a).g]
  exact hr
end Go.Ev.Ce
