/- Own work. -/
import Derived.Test.YtgphembaimondaaGreatDoorEvOjDL
set_option linter.all false
noncomputable section
def Qia:=@Bool.and_true
def Qib:=@Nat.beq_refl
def Qic:=@List.drop_zero
def Qid:=@List.drop_eq_getElem_cons
def Qie:=@Nat.gcd_pos_of_pos_right
def Qif:=@List.length_take
def Qig:=@Int.ofNat_lt
def Qih:=@List.not_all_eq_any_not
def Qii:=@List.mem_append
def Qij:=@List.length_set
def Qik:=@Bool.true_and
def Qil:=@Bool.false_eq_true
def Qim:=@Go.Ev.L.Lo.okq
namespace Go.Ev.L
open Go Go.Ev
theorem ie5(n:Int):W n=(n+9223372036854775808) % 18446744073709551616-9223372036854775808:=IntKind.wrap_i64 n
theorem E7{n:Int}(h1:-9223372036854775808<=n)(h2:n<=9223372036854775807):W n=n:=by rw[ie5];omega
theorem Md2(n:Int):∃k,W n=n+18446744073709551616*k:=⟨-((n+9223372036854775808) / 18446744073709551616),by rw[ie5];omega⟩
theorem Hb3(n k:Int):W (n+18446744073709551616*k)=W n:=by rw[ie5,ie5];omega
theorem ib2(a b:Int):W (W a+b)=W (a+b):=by
 obtain⟨k,hk⟩:=Md2 a;rw[hk,show a+18446744073709551616*k+b=a+b+18446744073709551616*k by omega,Hb3]
theorem Cb4(a b:Int):W (a+W b)=W (a+b):=by rw[Int.add_comm,ib2,Int.add_comm]
theorem ed3(a b:Int):W (W a-b)=W (a-b):=by
 obtain⟨k,hk⟩:=Md2 a;rw[hk,show a+18446744073709551616*k-b=a-b+18446744073709551616*k by omega,Hb3]
theorem Ed6(a b:Int):W (a-W b)=W (a-b):=by
 obtain⟨k,hk⟩:=Md2 b;rw[hk,show a-(b+18446744073709551616*k)=a-b+18446744073709551616*(-k) by omega,Hb3]
theorem ie6(a b:Int):W (W a*b)=W (a*b):=by
 obtain⟨k,hk⟩:=Md2 a;rw[hk,show (a+18446744073709551616*k)*b=a*b+18446744073709551616*(k*b) by grind,Hb3]
theorem Ye2(a b:Int):W (a*W b)=W (a*b):=by rw[Int.mul_comm,ie6,Int.mul_comm]
theorem n7{j n:Nat}(h:j<n)(hn:n<=4611686018427387904):W ((j:Int)+1)=((j+1:Nat):Int):=by
 rw[E7 (by omega) (by omega)];omega
theorem Cb5{j n:Nat}(h:j<n):decide ((j:Int)<(n:Int))=true:=decide_eq_true (by omega)
theorem db1{j n:Nat}(h:¬ j<n):decide ((j:Int)<(n:Int))=false:=decide_eq_false (by omega)
theorem g7{j n:Nat}(h:j<n):inB (j:Int) n=true:=by
 show Nat.blt j n=true;rw[Qch];exact h
theorem ed4(m:Int)(n:Nat):inB m n=decide (0<=m/\m<n):=by
 unfold inB;cases m with
 |ofNat k =>
  rw[Bool.eq_iff_iff,decide_eq_true_eq];show Nat.blt k n=true↔_;rw[Qch];constructor
  ·intro h;exact⟨Int.natCast_nonneg k,Qig.2 h⟩
  ·intro h;exact Qig.1 h.2
 |negSucc k=>exact (decide_eq_false (λh=>by omega)).symm
theorem bt{c:Bool}(h:c=true){α:Type}(t e:α):sl c t e=t:=by rw[h];rfl
theorem bf{c:Bool}(h:c=false){α:Type}(t e:α):sl c t e=e:=by rw[h];rfl
theorem da0{n:Nat}(h:n<=1000000000000):Nat.ble (n*32) room=true:=by
 rw[Nat.ble_eq];unfold room;omega
theorem ie7{σ:Type}{step:σ->Stp σ}{I:Nat->σ->Prop}{Q:Nat->σ->Prop}(h:∀m s,I m s->(∃t,step s=.exit t/\Q t s)\/∃s' m',m=m'+1/\step s=.next s'/\I m' s') :
  ∀(m n:Nat) (s:σ),m<=n->I m s->Q (lp0 step n s).1 (lp0 step n s).2
 |m,n,s,hn,hi=>by
  rcases h m s hi with⟨t,h1,h2⟩|⟨s',m',rfl,h1,h2⟩
  ·rw[zc5 h1];exact h2
  ·cases n with
   |zero=>omega
   |succ n =>
    rw[nd3 h1];exact ie7 h m' n s' (by omega) h2
theorem Cb6{σ:Type}{step:σ->Stp σ}{I:Nat->σ->Prop}{Q:Nat->σ->Prop}(h:∀m s,I m s->(∃t,step s=.exit t/\Q t s)\/∃s' m',m=m'+1/\step s=.next s'/\I m' s')
  (m:Nat) (s:σ) (hm:m<=18446744073709551615) (hi:I m s):Q (lp step s).1 (lp step s).2:=by
 rw[ce5];exact ie7 h m rounds s (by unfold rounds;omega) hi
section
variable{σ τ α:Type}{step:σ->Stp σ}
theorem Md3{mk:Nat->τ->σ}{f:τ->α->τ}{fin:Nat}(t:Ty α)(l:List α)(I:Nat->τ->Prop)(hl:l.length<=1000000000)
  (h:∀j a,j<l.length->I j a->step (mk j a)=.next (mk (j+1) (f a (gL t l j)))/\I (j+1) (f a (gL t l j)))
  (hf:∀a,I l.length a->step (mk l.length a)=.exit fin) (j0:Nat) (hj:j0<=l.length) (a:τ) (hi:I j0 a) :
  lp step (mk j0 a)=(fin,mk l.length ((l.drop j0).foldl f a))/\I l.length ((l.drop j0).foldl f a):=by
 have key:=Cb6 (step:=step) (I:=λm s=>∃j b,m=l.length-j/\j<=l.length/\s=mk j b/\I j b/\(l.drop j).foldl f b=(l.drop j0).foldl f a)
  (Q:=λu s=>u=fin/\s=mk l.length ((l.drop j0).foldl f a)/\I l.length ((l.drop j0).foldl f a)) (λm s ⟨j,b,hm,hj,hs,hb,he⟩=>by
   subst hs;by_cases hlt:j<l.length
   ·obtain⟨h1,h2⟩:=h j b hlt hb;refine .inr ⟨_,l.length-(j+1),by omega,h1,j+1,_,rfl,by omega,rfl,h2,?_⟩
    rw[<- he,Qid hlt,List.foldl_cons];simp[gL,Qda,Qaa hlt]
   ·have:j=l.length:=by omega
    subst this;have he:b=(l.drop j0).foldl f a:=by rw[<- he];simp
    subst he;exact .inl ⟨fin,hf _ hb,rfl,rfl,hb⟩) (l.length-j0) (mk j0 a) (by omega) ⟨j0,a,rfl,hj,rfl,hi,rfl⟩
 exact⟨by rw[<- key.2.1,<- key.1],key.2.2⟩
theorem Pa2{mk:Nat->σ}{c:α->Bool}{u fin:Nat}(t:Ty α)(l:List α)(hl:l.length<=1000000000)
  (h:∀j,j<l.length->step (mk j)=sl (c (gL t l j)) (.exit u) (.next (mk (j+1)))) (hf:step (mk l.length)=.exit fin) (j0:Nat) (hj:j0<=l.length) :
  (lp step (mk j0)).1=if (l.drop j0).any c then u else fin :=
 Cb6 (step:=step) (I:=λm s=>∃j,m=l.length-j/\j<=l.length/\s=mk j/\(l.drop j).any c=(l.drop j0).any c)
  (Q:=λv _=>v=if (l.drop j0).any c then u else fin) (λm s ⟨j,hm,hj,hs,he⟩=>by
   subst hs;by_cases hlt:j<l.length
   ·have h1:=h j hlt;have e:gL t l j=l[j]:=by simp[gL,Qda,Qaa hlt]
    have e2:(l.drop j).any c=(c l[j]||(l.drop (j+1)).any c):=by rw[Qid hlt,List.any_cons]
    rw[e] at h1;cases hc:c l[j] with
    |true =>
     rw[hc] at h1;refine .inl ⟨u,h1,?_⟩;rw[<- he,e2,hc];rfl
    |false =>
     rw[hc] at h1;refine .inr ⟨_,l.length-(j+1),by omega,h1,j+1,rfl,by omega,rfl,?_⟩
     rw[<- he,e2,hc];rfl
   ·have:j=l.length:=by omega
    subst this;refine .inl ⟨fin,hf,?_⟩;rw[<- he];simp) (l.length-j0) (mk j0) (by omega) ⟨j0,rfl,hj,rfl,rfl⟩
theorem Ja5{mk:Nat->σ}{c:α->Bool}{u fin:Nat}(t:Ty α)(l:List α)(hl:l.length<=1000000000)
  (h:∀j,j<l.length->step (mk j)=sl (c (gL t l j)) (.exit u) (.next (mk (j+1)))) (hf:step (mk l.length)=.exit fin) (j0:Nat) (hj:j0<=l.length) :
  lp step (mk j0)=if (l.drop j0).any c then (u,mk (j0+(l.drop j0).findIdx c)) else (fin,mk l.length):=by
 have key:=Cb6 (step:=step) (I:=λm s=>∃j,m=l.length-j/\j<=l.length/\j0<=j/\s=mk j/\(l.drop j).any c=(l.drop j0).any c/\j+(l.drop j).findIdx c=j0+(l.drop j0).findIdx c)
  (Q:=λv s=>(v,s)=if (l.drop j0).any c then (u,mk (j0+(l.drop j0).findIdx c)) else (fin,mk l.length)) (λm s ⟨j,hm,hj,hj0,hs,he,hi⟩=>by
   subst hs;by_cases hlt:j<l.length
   ·have h1:=h j hlt;have e:gL t l j=l[j]:=by simp[gL,Qda,Qaa hlt]
    have e2:(l.drop j).any c=(c l[j]||(l.drop (j+1)).any c):=by rw[Qid hlt,List.any_cons]
    have e3:(l.drop j).findIdx c=if c l[j] then 0 else (l.drop (j+1)).findIdx c+1:=by rw[Qid hlt,List.findIdx_cons];cases c l[j]<;>rfl
    rw[e] at h1;cases hc:c l[j] with
    |true =>
     rw[hc] at h1;refine .inl ⟨u,h1,?_⟩;rw[<- he,e2,hc,<- hi,e3,hc];rfl
    |false =>
     rw[hc] at h1;refine .inr ⟨_,l.length-(j+1),by omega,h1,j+1,rfl,by omega,by omega,rfl,?_,?_⟩
     ·rw[<- he,e2,hc];rfl
     ·rw[<- hi,e3,hc];simp only[Qil,if_false];omega
   ·have:j=l.length:=by omega
    subst this;refine .inl ⟨fin,hf,?_⟩;rw[<- he];simp) (l.length-j0) (mk j0) (by omega) ⟨j0,rfl,hj,Qac _,rfl,rfl,rfl⟩
 exact key
end
theorem Gc0{α:Type}(t:Ty α){l:List α}{j:Nat}(h:j<l.length):gL t l j∈l:=by
 simp[gL,Qda,Qaa h]
theorem La6{α:Type}(t:Ty α){l:List α}{j:Nat}(h:j<l.length):gL t l j=l[j]:=by
 simp[gL,Qda,Qaa h]
def euF:Nat->Int->Int->Int
 |0,g,_=>g
 |k+1,g,n=>if n=0 then g else euF k n (Int.tmod g n)
def eu(g n:Int):Int:=euF (n.natAbs+1) g n
theorem Ga2{g n:Int}(h:n≠0):(Int.tmod g n).natAbs<n.natAbs:=by
 rw[Int.natAbs_tmod];exact Nat.mod_lt _ (by omega)
theorem sd3:∀(k m:Nat) {g n:Int},n.natAbs<k->n.natAbs<m->euF k g n=euF m g n
 |0,_,_,_,h,_=>by omega
 |_+1,0,_,_,_,h=>by omega
 |k+1,m+1,g,n,h1,h2=>by
  unfold euF;by_cases h:n=0
  ·rw[if_pos h,if_pos h]
  ·rw[if_neg h,if_neg h]
   have:=Ga2 (g:=g) h
   exact sd3 k m (by omega) (by omega)
theorem Hb4(g:Int):eu g 0=g:=by simp[eu,euF]
theorem vc7{g n:Int}(h:n≠0):eu g n=eu n (Int.tmod g n):=by
 have:=Ga2 (g:=g) h
 unfold eu
 conv=>lhs;unfold euF
 rw[if_neg h];exact sd3 _ _ (by omega) (by omega)
theorem Ye3:∀(k:Nat) (g n:Int),n.natAbs<=k->(eu g n).natAbs=Int.gcd g n:=by
 intro k
 induction k with
 |zero =>
  intro g n h
  have:n=0:=by omega
  subst this;rw[Hb4];simp
 |succ k ih =>
  intro g n h;by_cases h0:n=0
  ·subst h0;rw[Hb4];simp
  ·have:=Ga2 (g:=g) h0
   rw[vc7 h0,ih n (Int.tmod g n) (by omega)]
   unfold Int.gcd;rw[Int.natAbs_tmod,Nat.gcd_comm g.natAbs,Nat.gcd_comm n.natAbs,<- Nat.gcd_rec]
theorem Ye4(g n:Int):(eu g n).natAbs=Int.gcd g n:=Ye3 _ g n (Qac _)
theorem Xd1:∀(k:Nat) (g n:Int),n.natAbs<=k->0<=g->0<=n->0<=eu g n:=by
 intro k
 induction k with
 |zero =>
  intro g n h hg _
  have:n=0:=by omega
  subst this;rw[Hb4];exact hg
 |succ k ih =>
  intro g n h hg hn;by_cases h0:n=0
  ·subst h0;rw[Hb4];exact hg
  ·have:=Ga2 (g:=g) h0
   rw[vc7 h0];exact ih n _ (by omega) hn (Int.tmod_nonneg _ hg)
theorem ie8{g n:Int}(hg:0<=g)(hn:0<=n):eu g n=(Int.gcd g n:Int):=by
 have h1:=Xd1 _ g n (Qac _) hg hn;have h2:=Ye4 g n;omega
section
variable{σ:Type}{step:σ->Stp σ}{mk:Int->Int->σ}
theorem Be2(h:∀g n,n≠0->step (mk g n)=.next (mk n (Int.tmod g n)))(h0:∀g,step (mk g 0)=.exit 1)(g n:Int)(hn:n.natAbs<=9223372036854775808):lp step (mk g n)=(1,mk (eu g n) 0):=by
 have:=Cb6 (step:=step) (I:=λm s=>∃a c,s=mk a c/\c.natAbs<=m/\eu a c=eu g n) (Q:=λu s=>(u,s)=(1,mk (eu g n) 0)) (λm s ⟨a,c,hs,hm,he⟩=>by
  subst hs;by_cases hc:c=0
  ·subst hc;rw[Hb4] at he;subst he;exact .inl ⟨1,h0 _,rfl⟩
  ·have ht:=Ga2 (g:=a) hc;exact .inr ⟨_,m-1,by omega,h a c hc,c,_,rfl,by omega,by rw[<- he,vc7 hc]⟩) n.natAbs (mk g n) (by omega) ⟨g,n,rfl,Qac _,rfl⟩
 exact this
theorem nc7(h:∀g n,0<n->step (mk g n)=.next (mk n (Int.tmod g n)))(h0:∀g,step (mk g 0)=.exit 1)(g n:Int)(hg:0<=g)(h1:0<=n)(hn:n<=9223372036854775808):lp step (mk g n)=(1,mk (eu g n) 0):=by
 have:=Cb6 (step:=step) (I:=λm s=>∃a c,s=mk a c/\c.natAbs<=m/\0<=a/\0<=c/\eu a c=eu g n) (Q:=λu s=>(u,s)=(1,mk (eu g n) 0)) (λm s ⟨a,c,hs,hm,ha,hc0,he⟩=>by
  subst hs;by_cases hc:c=0
  ·subst hc;rw[Hb4] at he;subst he;exact .inl ⟨1,h0 _,rfl⟩
  ·have ht:=Ga2 (g:=a) hc;exact .inr ⟨_,m-1,by omega,h a c (by omega),c,_,rfl,by omega,hc0,Int.tmod_nonneg _ ha,by rw[<- he,vc7 hc]⟩) n.natAbs (mk g n) (by omega) ⟨g,n,rfl,Qac _,hg,h1,rfl⟩
 exact this
end
theorem mb{a c A C:Int}(h1:-A<=a)(h2:a<=A)(h3:-C<=c)(h4:c<=C):-(A*C)<=a*c/\a*c<=A*C:=by
 have hA:a.natAbs<=A.natAbs:=by omega
 have hC:c.natAbs<=C.natAbs:=by omega
 have h5:=Nat.mul_le_mul hA hC;rw[<- Int.natAbs_mul,<- Int.natAbs_mul] at h5;have h6:0<=A*C:=Int.mul_nonneg (by omega) (by omega)
 omega
end Go.Ev.L
namespace Go.Proofs
open Go.Shelf
set_option maxRecDepth 100000 in
def Ce.sortLayV_ren:Go.Shelf.Ren:=⟨fun | 6=>139 | 15=>147 | 14=>157 | 28=>169 | 29=>170 | 20=>174 | 21=>175 | 22=>176 | 23=>177 | 24=>178 | 25=>179 | 26=>180 | 27=>181 | 46=>192 | 47=>184 | 48=>185 | 49=>193 | 50=>194 | 57=>197 | n=>n,fun | 22=>33 | 24=>23 | 25=>83 | 3=>3 | 39=>172 | 0=>0 | 53=>190 | 55=>192 | 4=>4 | 46=>183 | 45=>182 | 50=>187 | 5=>5 | 9=>9 | 66=>199 | 70=>203 | 76=>214 | 77=>215 | n=>n,fun | n=>n⟩
set_option maxRecDepth 100000 in
theorem Ce.sortLayV:Go.Proofs.SlLaysF0.n6 Tryz.prog Ce.sortLayV_ren:={
 mixed:=by kernel_rfl
 f6:=⟨Tryz.f139.name,by decide,Tryz.func139.trans (congrArg some (by kernel_rfl))⟩
 f14:=⟨Tryz.f157.name,by decide,Tryz.func157.trans (congrArg some (by kernel_rfl))⟩
 f15:=Tryz.func147.trans (congrArg some (by kernel_rfl))
 f20:=⟨Tryz.f174.name,by decide,Tryz.func174.trans (congrArg some (by kernel_rfl))⟩
 f21:=⟨Tryz.f175.name,by decide,Tryz.func175.trans (congrArg some (by kernel_rfl))⟩
 f22:=⟨Tryz.f176.name,by decide,Tryz.func176.trans (congrArg some (by kernel_rfl))⟩
 f23:=⟨Tryz.f177.name,by decide,Tryz.func177.trans (congrArg some (by kernel_rfl))⟩
 f24:=⟨Tryz.f178.name,by decide,Tryz.func178.trans (congrArg some (by kernel_rfl))⟩
 f25:=⟨Tryz.f179.name,by decide,Tryz.func179.trans (congrArg some (by kernel_rfl))⟩
 f26:=⟨Tryz.f180.name,by decide,Tryz.func180.trans (congrArg some (by kernel_rfl))⟩
 f27:=⟨Tryz.f181.name,by decide,Tryz.func181.trans (congrArg some (by kernel_rfl))⟩
 f28:=Tryz.func169.trans (congrArg some (by kernel_rfl))
 f29:=Tryz.func170.trans (congrArg some (by kernel_rfl))
 f46:=⟨Tryz.f192.name,by decide,Tryz.func192.trans (congrArg some (by kernel_rfl))⟩
 f47:=Tryz.func184.trans (congrArg some (by kernel_rfl))
 f48:=Tryz.func185.trans (congrArg some (by kernel_rfl))
 f49:=⟨Tryz.f193.name,by decide,Tryz.func193.trans (congrArg some (by kernel_rfl))⟩
 f50:=⟨Tryz.f194.name,by decide,Tryz.func194.trans (congrArg some (by kernel_rfl))⟩
 f57:=⟨Tryz.f197.name,by decide,Tryz.func197.trans (congrArg some (by kernel_rfl))⟩
 t0:=Tryz.underlying0
 a0:=Tryz.isAgg0
 z0:=Tryz.sizeOf0
 v0:=Tryz.zeroValue0
 t3:=Tryz.underlying3
 a3:=Tryz.isAgg3
 z3:=Tryz.sizeOf3
 v3:=Tryz.zeroValue3
 t4:=Tryz.underlying4
 a4:=Tryz.isAgg4
 z4:=Tryz.sizeOf4
 v4:=Tryz.zeroValue4
 t5:=Tryz.underlying5
 a5:=Tryz.isAgg5
 z5:=Tryz.sizeOf5
 v5:=Tryz.zeroValue5
 t9:=Tryz.underlying9
 a9:=Tryz.isAgg9
 z9:=Tryz.sizeOf9
 v9:=Tryz.zeroValue9
 t22:=Tryz.underlying33
 a22:=Tryz.isAgg33
 z22:=Tryz.sizeOf33
 v22:=Tryz.zeroValue33
 t25:=Tryz.underlying83
 a25:=Tryz.isAgg83
 z25:=Tryz.sizeOf83
 v25:=Tryz.zeroValue83
 t39:=Tryz.underlying172
 a39:=Tryz.isAgg172
 z39:=Tryz.sizeOf172
 v39:=Tryz.zeroValue172
 t45:=Tryz.underlying182
 a45:=Tryz.isAgg182
 z45:=Tryz.sizeOf182
 v45:=Tryz.zeroValue182
 t46:=Tryz.underlying183
 a46:=Tryz.isAgg183
 z46:=Tryz.sizeOf183
 v46:=Tryz.zeroValue183
 t50:=Tryz.underlying187
 a50:=Tryz.isAgg187
 z50:=Tryz.sizeOf187
 v50:=Tryz.zeroValue187
 t53:=Tryz.underlying190
 a53:=Tryz.isAgg190
 z53:=Tryz.sizeOf190
 v53:=Tryz.zeroValue190
 t55:=Tryz.underlying192
 a55:=Tryz.isAgg192
 z55:=Tryz.sizeOf192
 v55:=Tryz.zeroValue192
 t66:=Tryz.underlying199
 a66:=Tryz.isAgg199
 z66:=Tryz.sizeOf199
 v66:=Tryz.zeroValue199
 t70:=Tryz.underlying203
 a70:=Tryz.isAgg203
 z70:=Tryz.sizeOf203
 v70:=Tryz.zeroValue203
 t76:=Tryz.underlying214
 a76:=Tryz.isAgg214
 z76:=Tryz.sizeOf214
 v76:=Tryz.zeroValue214
 t77:=Tryz.underlying215
 a77:=Tryz.isAgg215
 z77:=Tryz.sizeOf215
 v77:=Tryz.zeroValue215 }
end Go.Proofs
namespace Go.Ev.Ce
open Go Go.Ev Go.Ev.L Go.Proofs Go.Sort
theorem Md4(x y:Int):ba7 x y=some (i (Aa0 x y),[]):=by
 unfold ba7 wa4 Aa0;simp only[bne_self_eq_false,pb5,decide_eq_true_eq,Qil,if_false]
 split<;>(try split)<;>rfl
theorem Ye5(x y:Int):R5 x y=Aa0 x y:=by unfold R5;rw[Md4];rfl
theorem Ye6(x y:Int):R6 x y=true:=by unfold R6;rw[Md4];rfl
def orI(a c d:Int):Int:=if a=0 then if c=0 then d else c else a
theorem Be3(a c d:Int):((lp (T1 ⟨[a,c,d],3⟩) ⟨0⟩).1=1/\gL tI [a,c,d] (lp (T1 ⟨[a,c,d],3⟩) ⟨0⟩).2.is8.toNat=orI a c d)\/((lp (T1 ⟨[a,c,d],3⟩) ⟨0⟩).1=2/\orI a c d=0):=by
 have g0:gL tI [a,c,d] 0=a:=rfl;have g1:gL tI [a,c,d] 1=c:=rfl;have g2:gL tI [a,c,d] 2=d:=rfl;refine Cb6 (step:=T1 ⟨[a,c,d],3⟩) (I:=λm s=>(m=3/\s=⟨0⟩)\/(m=2/\s=⟨1⟩/\a=0)\/(m=1/\s=⟨2⟩/\a=0/\c=0)\/(m=0/\s=⟨3⟩/\a=0/\c=0/\d=0))
  (Q:=λt s=>(t=1/\gL tI [a,c,d] s.is8.toNat=orI a c d)\/(t=2/\orI a c d=0)) (λm s hi=>?_) 3 ⟨0⟩ (by omega) (.inl ⟨rfl,rfl⟩)
 rcases hi with⟨rfl,rfl⟩|⟨rfl,rfl,ha⟩|⟨rfl,rfl,ha,hc⟩|⟨rfl,rfl,ha,hc,hd⟩
 ·by_cases h:a=0
  ·exact .inr ⟨⟨1⟩,2,rfl,by subst h;rfl,.inr (.inl ⟨rfl,rfl,h⟩)⟩
  ·refine .inl ⟨1,?_,.inl ⟨rfl,by unfold orI;rw[if_neg h];rfl⟩⟩
   show sl (a != 0) (Stp.exit 1) (Stp.next (⟨W (0+1)⟩:U2))=_;rw[bt (by simpa using h)]
 ·by_cases h:c=0
  ·exact .inr ⟨⟨2⟩,1,rfl,by subst h;rfl,.inr (.inr (.inl ⟨rfl,rfl,ha,h⟩))⟩
  ·refine .inl ⟨1,?_,.inl ⟨rfl,by unfold orI;rw[if_pos ha,if_neg h];rfl⟩⟩
   show sl (c != 0) (Stp.exit 1) (Stp.next (⟨W (1+1)⟩:U2))=_;rw[bt (by simpa using h)]
 ·by_cases h:d=0
  ·exact .inr ⟨⟨3⟩,0,rfl,by subst h;rfl,.inr (.inr (.inr ⟨rfl,rfl,ha,hc,h⟩))⟩
  ·refine .inl ⟨1,?_,.inl ⟨rfl,by unfold orI;rw[if_pos ha,if_pos hc];rfl⟩⟩
   show sl (d != 0) (Stp.exit 1) (Stp.next (⟨W (2+1)⟩:U2))=_;rw[bt (by simpa using h)]
 ·exact .inl ⟨2,rfl,.inr ⟨rfl,by unfold orI;rw[if_pos ha,if_pos hc];exact hd⟩⟩
theorem Qe1(a c d:Int):Da8 [a,c,d]=some (i (orI a c d),[]):=by
 have h:=Be3 a c d;unfold Da8;simp only[j9,i8];rw[show ((([a,c,d]:List Int).length:Nat):Int)=3 from rfl]
 generalize lp (T1 ⟨[a,c,d],3⟩) ⟨0⟩=r at *
 rcases h with⟨h1,h2⟩|⟨h1,h2⟩
 ·rw[h1,h2];rfl
 ·rw[h1,h2];rfl
theorem Jf9(a c d:Int):Sa8 [a,c,d]=orI a c d:=by unfold Sa8;rw[Qe1];rfl
theorem Kf0(a c d:Int):Sa9 [a,c,d]=true:=by unfold Sa9;rw[Qe1];rfl
def ib3(x y:V3):Int:=orI (Aa0 x.x y.x) (Aa0 x.y y.y) (Aa0 x.z y.z)
def LtV(x y:V3):Prop:=x.x<y.x\/x.x=y.x/\(x.y<y.y\/x.y=y.y/\x.z<y.z)
instance(x y:V3):Decidable (LtV x y):=by unfold LtV;exact inferInstance
theorem Be4(x y:V3):ib3 x y<0↔LtV x y:=by
 have h1:=qb9 x.x y.x;have h2:=Xb1 x.x y.x;have h3:=qb9 x.y y.y;have h4:=Xb1 x.y y.y;have h5:=qb9 x.z y.z;unfold ib3 orI LtV;split
 ·split<;>omega
 ·omega
theorem za4(x y:V3):ltOf ib3 x y=decide (LtV x y):=by
 unfold ltOf;rw[decide_eq_decide];exact Be4 x y
theorem vf0:SWO (ltOf ib3) where
 irrefl x:=by rw[za4];simp[LtV]
 trans x y z h1 h2:=by rw[za4,decide_eq_true_eq] at *;unfold LtV at *;omega
 ntrans x y z h1 h2:=by rw[za4,decide_eq_false_iff_not] at *;unfold LtV at *;omega
theorem Kf1(x y:V3)(h1:ltOf ib3 x y=false)(h2:ltOf ib3 y x=false):x=y:=by
 rw[za4,decide_eq_false_iff_not] at *
 unfold LtV at *
 obtain⟨a,b,c⟩:=x;obtain⟨a',b',c'⟩:=y
 simp only at *
 have:a=a'/\b=b'/\c=c':=by omega
 obtain⟨rfl,rfl,rfl⟩:=this;rfl
theorem nc8(x y:V3):oa8 x y=some (i (ib3 x y),[]):=by
 unfold oa8 ib3;simp only[Ye5,Ye6,Jf9,Kf0,l0]
theorem Ye7(x y:V3):Da9 x y=ib3 x y:=by unfold Da9;rw[nc8];rfl
theorem Ye8(x y:V3):Ea0 x y=true:=by unfold Ea0;rw[nc8];rfl
theorem Ye9(x y:V3):(Xa7 [.agg (tV.row x),.agg (tV.row y)] []).run=some (i (ib3 x y),[]):=by
 have:(Xa7 [.agg (tV.row x),.agg (tV.row y)] []).run=sel (Ea0 x y) (some (i (Da9 x y),[])) none:=by kernel_rfl
 rw[this,Ye8,Ye7]
def ie9(p:V3):List Value:=[.int .i64 p.x,.int .i64 p.y,.int .i64 p.z]
instance:Inhabited V3:=⟨⟨0,0,0⟩⟩
def ub3(l:List V3):List V3:=l.mergeSort λx y=>!ltOf ib3 y x
theorem Uc8(l:List V3):(ub3 l).length=l.length:=List.length_mergeSort l
def ka7:Sum:=Kd6 tV 140 23 ub3
theorem Xd2:Ce.sortLayV_ren.f 6=139:=by kernel_rfl
theorem Gc1:Ce.sortLayV_ren.t 24=23:=by kernel_rfl
set_option maxRecDepth 100000 in
theorem Ea1:e8 prog G 139 ka7:=by
 refine Kd7 (enc:=ie9) (cf:=ib3) ⟨_,Tryz.func139,by kernel_rfl,of_decide_eq_true (by kernel_rfl)⟩ (by decide) (λ_=>rfl) (λr h=>Ga3 (n:=3) h) (λx v hv=>?_) Uc8
  (λblk off size w=>Kd5 rc4 Ye9 (λ_=>rfl) (λ_=>rfl) _ _ _ _ _) (λblk cap d w hcl hH hb hs=>?_)
 ·simp[ie9] at hv
  rcases hv with rfl|rfl|rfl<;>rfl
 ·have eg:∀args w,(callFunc 140 args).run Tryz.prog w=.ok (.enter 140 args) w:=enters_of Tryz.func140 (by kernel_rfl) rfl
  have:=AnyQ.slices_SortFunc Ce.sortLayV 3 (by rw[Gc1];exact Tryz.isAgg23) (by rw[Gc1];exact Tryz.sizeOf23) ie9 (λ_=>rfl) (λx v hv=>by simp[ie9] at hv;rcases hv with rfl | rfl | rfl<;>rfl) ib3 vf0 140 #[] blk 0 cap d w eg (hcl 0 d.size) hH hb hs
  rw[Xd2] at this;refine this.mono λe w' ⟨h1,d',n,os,h2,h3,h4⟩=>⟨h1,n,os,?_⟩
  have h5:=sorted_unique_holds vf0 Kf1 d d' h2 h3;rw[h4];show _=sortWorldK ie9 3 w blk 0 n (d.toList.mergeSort λx y=>!ltOf ib3 y x).toArray os
  rw[<- h5]
end Go.Ev.Ce
namespace Go.Ev.Ce
open Go Go.Ev Go.Ev.L Go.Proofs
set_option maxRecDepth 100000
structure ya1 where
 (alt ns0:Nat)
 eh0:List (List b9)
def ya2{α:Type}(kk:ya1->α)(x:V3×List V3):α:=let y0:=(List.range (List.length x.2+1));(sl (Nat.beq 0 0&&Nat.ble ((0+(len (l9 (λk=>(tV).row (gL tV (x.1::x.2) k)) y0)))*24) room) (kk ⟨1,(0+(len (l9 (λk=>(tV).row (gL tV (x.1::x.2) k)) y0))),(app [] (l9 (λk=>(tV).row (gL tV (x.1::x.2) k)) y0))⟩) (kk ⟨0,0,[]⟩))
def Y3(x:V3×List V3):ya1:=ya2 (λr=>r) x
def Qa9(r:ya1):DT (b9×List c7):=(kb7 r.alt 1 (.sl 0 0 r.ns0 0,[bq 23 3 r.eh0]) .fail)
def ya3:Sum:=B5 (nd6 tV) (λx=>Qa9 (Y3 x))
theorem Ra0:e8 prog G 138 ya3:=Gb2 (bd Hf5 xa5) λx=>Fa0 (mEq @ya2 (λr=>(Qa9 r).run) x)
structure oa9 where
 ns0:Nat
 eh0:List (List b9)
structure A5 where
 (ns0 os4 ns4:Nat)
structure o7 where
 (is3 is5:Int)
 eh0:List (List b9)
def za5(p:A5)(s:o7):St:=⟨.sl 0 0 p.ns0 0::.unk::.unk::i s.is3::.sl 0 p.os4 p.ns4 0::i s.is5::ra 55 [],[bq 23 3 s.eh0]⟩
def O3{α:Type}(k:o7->α)(e:Nat->α)(z:α)(p:A5)(s:o7):α:=let y2:=(p.os4+s.is5.toNat);let y1:=(rdR tV s.eh0 (p.os4+(W (s.is5-1)).toNat));let y0:=(rdR tV s.eh0 y2);(sl (decide (s.is5<(↑p.ns4:Int))) (sl (inB s.is5 p.ns4) (sl (ldR tV s.eh0 y2) (sl (inB (W (s.is5-1)) p.ns4) (sl (ldR tV s.eh0 (p.os4+(W (s.is5-1)).toNat)) (sl (!((y0.x==y1.x)&&((y0.y==y1.y)&&((y0.z==y1.z)&&true)))) (sl (inB s.is5 p.ns4) (sl (ldR tV s.eh0 y2) (sl (inB s.is3 p.ns0) (sl ((Nat.blt (0+s.is3.toNat) (len s.eh0))&&(Nat.ble (0+3) (len (j6 s.eh0 (0+s.is3.toNat))))) (k ⟨W (s.is3+1),W (s.is5+1),setAt s.eh0 (0+s.is3.toNat) (T8 (j6 s.eh0 (0+s.is3.toNat)) 0 [i y0.x,i y0.y,i y0.z])⟩) z) z) z) z) (k ⟨s.is3,W (s.is5+1),s.eh0⟩)) z) z) z) z) (e 1))
def p4(p:A5)(s:o7):Stp o7:=O3 .next .exit .fail p s
def ha5:Lo A5 o7:=⟨En tbN,1,ie0,[1,1,0,1,4,4,1,0,4,1,2,1,0,1,4,4],[0,3,4,5],.p,[⟨.s (.o (.sl 0 0 (some 0) none))::sUq::sUq::sIq::.s (.o (.sl 0 0 none none))::sIq::ru2 55 [],[⟨23,3,true,none⟩],λa H=>(⟨slN (slT a 0),slO (slT a 4),slN (slT a 4)⟩,⟨aIq a 3,aIq a 5,elT H 0⟩)⟩],p4,[(some 2,λp s=>upq (za5 p s) [(29,i s.is5),(30,.sl 0 p.os4 p.ns4 0),(31,i (↑p.ns4:Int)),(32,b (decide (s.is5<(↑p.ns4:Int))))])],za5⟩
theorem mb4:ha5.Ok:=Qim [] .nil λp s=>(.ofq @O3)
def za6(p:oa9)(s:N8):St:=⟨.sl 0 0 p.ns0 0::.unk::.unk::i s.is3::ra 57 [],[bq 23 3 p.eh0]⟩
def O4{α:Type}(k:N8->α)(e:Nat->α)(z:α)(p:oa9)(s:N8):α:=let y1:=(rdR tV p.eh0 (0+s.is3.toNat));let y0:=(rdR tV p.eh0 (0+(W (s.is3-1)).toNat));let t1:=(lp (p4 (⟨p.ns0,0+s.is3.toNat,p.ns0-s.is3.toNat⟩:A5)) (⟨s.is3,1,p.eh0⟩:o7));(sl (decide (s.is3<(↑p.ns0:Int))) (sl (inB s.is3 p.ns0) (sl (ldR tV p.eh0 (0+s.is3.toNat)) (sl (inB (W (s.is3-1)) p.ns0) (sl (ldR tV p.eh0 (0+(W (s.is3-1)).toNat)) (sl ((y1.x==y0.x)&&((y1.y==y0.y)&&((y1.z==y0.z)&&true))) (sl (inB s.is3 (p.ns0+1)) (sl (Nat.beq t1.1 1) (sl (inB t1.2.is3 (p.ns0+1)) (sl (inB t1.2.is3 (p.ns0+1)) (e 1) z) z) z) z) (k ⟨W (s.is3+1)⟩)) z) z) z) z) (e 2))
def I9(p:oa9)(s:N8):Stp N8:=O4 .next .exit .fail p s
def ha6:Lo oa9 N8:=⟨En tbN,1,ie0,[1,1,0,1,4,4],[0,3],.s .p (.s (.b (.s .p (.c (.s .p (.s (.s .p (.b (.u ha5.ls))) .p)) .p))) .p),[⟨.s (.o (.sl 0 0 (some 0) none))::sUq::sUq::sIq::ru2 57 [],[⟨23,3,true,none⟩],λa H=>(⟨slN (slT a 0),elT H 0⟩,⟨aIq a 3⟩)⟩],I9,[(none,λp s=>let t1:=(lp (p4 (⟨p.ns0,0+s.is3.toNat,p.ns0-s.is3.toNat⟩:A5)) (⟨s.is3,1,p.eh0⟩:o7));⟨[.sl 0 0 (t1.2.is3.toNat-0) 0],[bq 23 3 (app (A7 t1.2.eh0 (0+t1.2.is3.toNat)) (app (List.replicate (p.ns0-t1.2.is3.toNat) [i 0,i 0,i 0]) (i9 t1.2.eh0 ((0+t1.2.is3.toNat)+(p.ns0-t1.2.is3.toNat)))))]⟩),(some 0,λp s=>upq (za6 p s) [(10,i s.is3),(11,.sl 0 0 p.ns0 0),(12,i (↑p.ns0:Int)),(13,b (decide (s.is3<(↑p.ns0:Int))))])],za6⟩
theorem mb5:ha6.Ok:=Qim [ha5.pr] (.cons mb4 .nil) λp s=>(.ofq @O4)
def pa1{α:Type}(kk:ya1->α)(x:oa9):α:=let t1:=(lp (I9 (⟨x.ns0,x.eh0⟩:oa9)) (⟨1⟩:N8));let t2:=(lp (p4 (⟨x.ns0,0+t1.2.is3.toNat,x.ns0-t1.2.is3.toNat⟩:A5)) (⟨t1.2.is3,1,x.eh0⟩:o7));(sl (decide ((↑x.ns0:Int)<2)) (kk ⟨1,x.ns0,x.eh0⟩) (sl (Nat.beq t1.1 1) (kk ⟨1,t2.2.is3.toNat-0,app (A7 t2.2.eh0 (0+t2.2.is3.toNat)) (app (List.replicate (x.ns0-t2.2.is3.toNat) [i 0,i 0,i 0]) (i9 t2.2.eh0 ((0+t2.2.is3.toNat)+(x.ns0-t2.2.is3.toNat))))⟩) (sl (Nat.beq t1.1 2) (kk ⟨1,x.ns0,x.eh0⟩) (kk ⟨0,0,[]⟩))))
def J0(x:oa9):ya1:=pa1 (λr=>r) x
def Fa1(x:oa9)(r:ya1):DT (b9×List c7):=(kb7 r.alt 1 (.sl 0 0 r.ns0 0,[bq 23 3 r.eh0]) .fail)
def pa2:Sum:=Za4 ⟨[.s (.o (.sl 0 0 (some 0) none))],[⟨23,3,true,none⟩],λa H=>(⟨slN (slT a 0),elT H 0⟩,())⟩ (λx=>Fa1 x (J0 x))
theorem Fa2:e8 prog G 141 pa2:=Q0 (enc:=λx=>⟨[.sl 0 0 x.ns0 0],[bq 23 3 x.eh0]⟩) (λa H=>by kernel_rfl) (bd Hf7 xa5) λx=>Z0 (.s .p (.s .p (.s (.s .p (.b (.u ha6.ls))) .p))) [ha6.pr] (.cons mb5 .nil) (mEq @pa1 (λr=>(Fa1 x r).run) x)
def hc6:List (Nat×Sum):=[(138,ya3),(139,ka7),(141,pa2)]
theorem Yb4:o4 prog G hc6:=⟨Ra0,Ea1,Fa2,trivial⟩
def ja0(x:V3×List V3):ROq:=let t1:=(Y3 (hC tV (λk=>(tV).row (gL tV (x.1::x.2) k)),tC tV (List.length x.2) (λk=>(tV).row (gL tV (x.1::x.2) k))));let t2:=(J0 ⟨t1.ns0,app (bL tV (ub3 (slR tV t1.eh0 0 t1.ns0))) (i9 t1.eh0 t1.ns0)⟩);(sl (okL tV (List.length x.2+1) (λk=>(tV).row (gL tV (x.1::x.2) k))) (sl (Nat.beq t1.alt 1) (sl (Bool.and (Nat.ble t1.ns0 room) (Bool.and (Nat.ble t1.ns0 (len t1.eh0)) (okS tV t1.eh0 0 t1.ns0))) (sl (Nat.beq t2.alt 1) (some (.sl 0 0 t2.ns0 0,[bq 23 3 t2.eh0])) none) none) none) none)
def Pa3(x:V3×List V3):List V3:=F6 (one (r1L tV)) (ja0 x)
def Pa4(x:V3×List V3):Bool:=okO (one (r1L tV)) (ja0 x)
def ub4:Sum:=B5 (nd6 tV) (λx=>.guard (Pa4 x) (.ret ((one (r1L tV)).enc (Pa3 x),[])))
theorem hc7:e8 prog G 110 ub4:=ya7 (bd tf7 Yb4) (one (r1L tV)) (o:=ja0)
def Ja6:List (Nat×Sum):=[(104,Sa7),(110,ub4),(143,Oa5),(144,Xb9),(112,Mb2),(113,za0),(111,ea6)]
theorem Gc2:o4 prog G Ja6:=⟨ua4,hc7,mb1,Nc5,Fc8,fb9,ia9,trivial⟩
structure w9 where
 ph:Nat
 K1:Int
 eh4:List (List b9)
 z8:Nat
 eh5:List (List b9)
def mb6(p:V7)(s:w9):St:=⟨.unk::.ptr 0 0 0 0::.unk::i p.is3::i p.is4::ra 4 (i p.is9::i p.A3::ra 5 (i p.Ea8::i p.C1::ra 5 (i p.uc2::i s.K1::ra 35 (i 0::.unk::.ptr 1 0 0 0::nlq::i 0::.unk::.ptr 2 0 0 0::.ptr 3 0 0 0::ra 28 [])))),[bq 0 1 [[eL tV p.c8]],bq 0 1 [[eL tV p.i7]],bq 0 0 [[.ptr 4 0 0 0]],bq 0 0 [[nlq]],bq 141 0 s.eh4]⟩
def mb7(p:V7)(s:w9):St:=⟨.unk::.ptr 0 0 0 0::.unk::i p.is3::i p.is4::ra 4 (i p.is9::i p.A3::ra 5 (i p.Ea8::i p.C1::ra 5 (i p.uc2::i s.K1::ra 35 (i 0::.unk::.ptr 1 0 0 0::nlq::i 0::.unk::.ptr 2 0 0 0::.ptr 3 0 0 0::ra 28 [])))),[bq 0 1 [[eL tV p.c8]],bq 0 1 [[eL tV p.i7]],bq 0 0 [[.ptr 4 0 0 0]],bq 0 0 [[.sl 5 0 s.z8 0]],bq 141 0 s.eh4,bq 66 4 s.eh5]⟩
def rc5(p:V7)(s:w9):St:=(sel (Nat.beq s.ph 1) (mb7 p s) (mb6 p s))
def W4{α:Type}(k:w9->α)(e:Nat->α)(z:α)(p:V7)(s:w9):α:=let y7:=(List.length p.c8);let y6:=(okE tV p.i7);let y5:=(rt tV p.i7);let y3:=(W (s.K1+1));let t1:=(D6 (gL tV p.c8 s.K1.toNat) (gL tV p.c8 p.is4.toNat) (gL tV p.c8 p.is3.toNat));let y0:=(Ma8 [(0,.int .i64),(1,.int .i64),(2,.int .i64),(3,.int .i64)] [i t1.1.n.x,i t1.1.n.y,i t1.1.n.z,i t1.1.b] [i t1.1.n.x,i t1.1.n.y,i t1.1.n.z,i t1.1.b,b true] s.eh4);let t2:=(qa8 t1.1);let y8:=(V9 y5 t2);let y4:=(jb5 4 [(0,.int .i64),(1,.int .i64),(2,.int .i64),(3,.int .i64)] [i t2.n.x,i t2.n.y,i t2.n.z,i t2.b] y0);let y2:=(Ma8 [(0,.int .i64),(1,.int .i64),(2,.int .i64),(3,.int .i64)] [i t2.n.x,i t2.n.y,i t2.n.z,i t2.b] [i t2.n.x,i t2.n.y,i t2.n.z,i t2.b,b true] s.eh4);let y1:=(Ma8 [(0,.int .i64),(1,.int .i64),(2,.int .i64),(3,.int .i64)] [i t2.n.x,i t2.n.y,i t2.n.z,i t2.b] [i t2.n.x,i t2.n.y,i t2.n.z,i t2.b,b true] y0);let t3:=(V8 y5 t2);let t4:=(V8 y5 t1.1);(sl (decide (s.K1<p.uc2)) (sl (inB s.K1 y7) (sl (inB p.is4 y7) (sl (inB p.is3 y7) (sl (aa5 (gL tV p.c8 s.K1.toNat) (gL tV p.c8 p.is4.toNat) (gL tV p.c8 p.is3.toNat)) (sl t1.2 (sl t1.2 (sl (jb5 4 [(0,.int .i64),(1,.int .i64),(2,.int .i64),(3,.int .i64)] [i t1.1.n.x,i t1.1.n.y,i t1.1.n.z,i t1.1.b] s.eh4) (sl (jb5 4 [(0,.int .i64),(1,.int .i64),(2,.int .i64),(3,.int .i64)] [i t2.n.x,i t2.n.y,i t2.n.z,i t2.b] s.eh4) (k ⟨0,y3,s.eh4,0,[]⟩) (sl y6 (sl y8 (sl (!t3) (k ⟨1,y3,y2,1,[[i t2.n.x,i t2.n.y,i t2.n.z,i t2.b]]⟩) (k ⟨0,y3,y2,0,[]⟩)) z) z)) (sl y6 (sl (V9 y5 t1.1) (sl (!t4) (sl y4 (k ⟨1,y3,y0,1,[[i t1.1.n.x,i t1.1.n.y,i t1.1.n.z,i t1.1.b]]⟩) (sl y6 (sl y8 (sl (!t3) (k ⟨1,y3,y1,2,[[i t1.1.n.x,i t1.1.n.y,i t1.1.n.z,i t1.1.b],[i t2.n.x,i t2.n.y,i t2.n.z,i t2.b]]⟩) (k ⟨1,y3,y1,1,[[i t1.1.n.x,i t1.1.n.y,i t1.1.n.z,i t1.1.b]]⟩)) z) z)) (sl y4 (k ⟨0,y3,y0,0,[]⟩) (sl y6 (sl y8 (sl (!t3) (k ⟨1,y3,y1,1,[[i t2.n.x,i t2.n.y,i t2.n.z,i t2.b]]⟩) (k ⟨0,y3,y1,0,[]⟩)) z) z))) z) z)) (k ⟨0,y3,s.eh4,0,[]⟩)) (sl t1.2 z (k ⟨0,y3,s.eh4,0,[]⟩))) z) z) z) z) (e 1))
def W5{α:Type}(k:w9->α)(e:Nat->α)(z:α)(p:V7)(s:w9):α:=let y9:=(List.length p.c8);let y8:=(okE tV p.i7);let y6:=(rt tV p.i7);let y4:=(W (s.K1+1));let t1:=(D6 (gL tV p.c8 s.K1.toNat) (gL tV p.c8 p.is4.toNat) (gL tV p.c8 p.is3.toNat));let y2:=(app s.eh5 [[i t1.1.n.x,i t1.1.n.y,i t1.1.n.z,i t1.1.b]]);let y0:=(Ma8 [(0,.int .i64),(1,.int .i64),(2,.int .i64),(3,.int .i64)] [i t1.1.n.x,i t1.1.n.y,i t1.1.n.z,i t1.1.b] [i t1.1.n.x,i t1.1.n.y,i t1.1.n.z,i t1.1.b,b true] s.eh4);let t2:=(qa8 t1.1);let y10:=(V9 y6 t2);let y7:=(app s.eh5 [[i t2.n.x,i t2.n.y,i t2.n.z,i t2.b]]);let y5:=(jb5 4 [(0,.int .i64),(1,.int .i64),(2,.int .i64),(3,.int .i64)] [i t2.n.x,i t2.n.y,i t2.n.z,i t2.b] y0);let y3:=(Ma8 [(0,.int .i64),(1,.int .i64),(2,.int .i64),(3,.int .i64)] [i t2.n.x,i t2.n.y,i t2.n.z,i t2.b] [i t2.n.x,i t2.n.y,i t2.n.z,i t2.b,b true] s.eh4);let y1:=(Ma8 [(0,.int .i64),(1,.int .i64),(2,.int .i64),(3,.int .i64)] [i t2.n.x,i t2.n.y,i t2.n.z,i t2.b] [i t2.n.x,i t2.n.y,i t2.n.z,i t2.b,b true] y0);let t3:=(V8 y6 t2);let t4:=(V8 y6 t1.1);let a0:=(Nat.beq s.z8 (len s.eh5)&&Nat.ble ((s.z8+1)*32) room);(sl (decide (s.K1<p.uc2)) (sl (inB s.K1 y9) (sl (inB p.is4 y9) (sl (inB p.is3 y9) (sl (aa5 (gL tV p.c8 s.K1.toNat) (gL tV p.c8 p.is4.toNat) (gL tV p.c8 p.is3.toNat)) (sl t1.2 (sl t1.2 (sl (jb5 4 [(0,.int .i64),(1,.int .i64),(2,.int .i64),(3,.int .i64)] [i t1.1.n.x,i t1.1.n.y,i t1.1.n.z,i t1.1.b] s.eh4) (sl (jb5 4 [(0,.int .i64),(1,.int .i64),(2,.int .i64),(3,.int .i64)] [i t2.n.x,i t2.n.y,i t2.n.z,i t2.b] s.eh4) (k ⟨1,y4,s.eh4,s.z8,s.eh5⟩) (sl y8 (sl y10 (sl (!t3) (sl a0 (k ⟨1,y4,y3,s.z8+1,y7⟩) z) (k ⟨1,y4,y3,s.z8,s.eh5⟩)) z) z)) (sl y8 (sl (V9 y6 t1.1) (sl (!t4) (sl a0 (sl y5 (k ⟨1,y4,y0,s.z8+1,y2⟩) (sl y8 (sl y10 (sl (!t3) (sl (Nat.beq (s.z8+1) (len y2)&&Nat.ble (((s.z8+1)+1)*32) room) (k ⟨1,y4,y1,(s.z8+1)+1,app y2 [[i t2.n.x,i t2.n.y,i t2.n.z,i t2.b]]⟩) z) (k ⟨1,y4,y1,s.z8+1,y2⟩)) z) z)) z) (sl y5 (k ⟨1,y4,y0,s.z8,s.eh5⟩) (sl y8 (sl y10 (sl (!t3) (sl a0 (k ⟨1,y4,y1,s.z8+1,y7⟩) z) (k ⟨1,y4,y1,s.z8,s.eh5⟩)) z) z))) z) z)) (k ⟨1,y4,s.eh4,s.z8,s.eh5⟩)) (sl t1.2 z (k ⟨1,y4,s.eh4,s.z8,s.eh5⟩))) z) z) z) z) (e 2))
def M5(p:V7)(s:w9):Stp w9:=(sel (Nat.beq s.ph 1) (W5 .next .exit .fail p s) (W4 .next .exit .fail p s))
abbrev la5:B2:=⟨0,1,true,some [[.c 3 (nL tV)]]⟩
def db2(a:List b9)(H:List c7):V7:=⟨aIq a 3,aIq a 4,aIq a 9,aIq a 10,aIq a 16,aIq a 17,aIq a 23,hLq tV H 0 0 0,hLq tV H 1 0 0⟩
def Xa8:Lo V7 w9:=⟨En Ja6,0,Ae9,[1,1,1,1,1,0,1,4,4,1,4,4,1,1,0,4,1,1,4,4,1,1,0,4,1,1,4,4],[1,3,4,9,10,16,17,23,24,60,62,63,64,66,67],.p,[⟨sUq::sPq 0::sUq::sIq::sIq::ru2 4 (sIq::sIq::ru2 5 (sIq::sIq::ru2 5 (sIq::sIq::ru2 35 (.s (.o (.lit .i64 0))::sUq::sPq 1::.s (.o .nil)::.s (.o (.lit .i64 0))::sUq::sPq 2::sPq 3::ru2 28 [])))),[la5,la5,⟨0,0,true,some [[.o (.ptr 4 0 0 0)]]⟩,⟨0,0,true,some [[.o .nil]]⟩,⟨141,0,true,none⟩],λa H=>(db2 a H,⟨0,aIq a 24,elT H 4,0,[]⟩)⟩,⟨sUq::sPq 0::sUq::sIq::sIq::ru2 4 (sIq::sIq::ru2 5 (sIq::sIq::ru2 5 (sIq::sIq::ru2 35 (.s (.o (.lit .i64 0))::sUq::sPq 1::.s (.o .nil)::.s (.o (.lit .i64 0))::sUq::sPq 2::sPq 3::ru2 28 [])))),[la5,la5,⟨0,0,true,some [[.o (.ptr 4 0 0 0)]]⟩,⟨0,0,true,some [[.o (.sl 5 0 (some 0) none)]]⟩,⟨141,0,true,none⟩,⟨66,4,true,none⟩],λa H=>(db2 a H,⟨1,aIq a 24,elT H 4,slN (slT (rwT (elT H 3) 0) 0),elT H 5⟩)⟩],M5,[(some 4,λp s=>upq (mb6 p s) [(25,b (decide (s.K1<p.uc2)))]),(some 4,λp s=>upq (mb7 p s) [(25,b (decide (s.K1<p.uc2)))])],rc5⟩
theorem rc6:Xa8.OkM:=Lo.okMq [] .nil λp s=>(.sel (Nat.beq s.ph 1) (.ofq @W5) (.ofq @W4))
structure s9 where
 ph:Nat
 C1:Int
 (c8 i7:List V3)
 eh4:List (List b9)
 z8:Nat
 eh5:List (List b9)
def mb8(p:ca5)(s:s9):St:=⟨.unk::.ptr 0 0 0 0::.unk::i p.is3::ra 5 (i p.is9::i p.A3::ra 5 (i p.Ea8::i s.C1::ra 42 (i 0::.unk::.ptr 1 0 0 0::nlq::i 0::.unk::.ptr 2 0 0 0::.ptr 3 0 0 0::ra 28 []))),[bq 0 1 [[eL tV s.c8]],bq 0 1 [[eL tV s.i7]],bq 0 0 [[.ptr 4 0 0 0]],bq 0 0 [[nlq]],bq 141 0 s.eh4]⟩
def mb9(p:ca5)(s:s9):St:=⟨.unk::.ptr 0 0 0 0::.unk::i p.is3::ra 5 (i p.is9::i p.A3::ra 5 (i p.Ea8::i s.C1::ra 42 (i 0::.unk::.ptr 1 0 0 0::nlq::i 0::.unk::.ptr 2 0 0 0::.ptr 3 0 0 0::ra 28 []))),[bq 0 1 [[eL tV s.c8]],bq 0 1 [[eL tV s.i7]],bq 0 0 [[.ptr 4 0 0 0]],bq 0 0 [[.sl 5 0 s.z8 0]],bq 141 0 s.eh4,bq 66 4 s.eh5]⟩
def rc7(p:ca5)(s:s9):St:=(sel (Nat.beq s.ph 1) (mb9 p s) (mb8 p s))
def W6{α:Type}(k:s9->α)(e:Nat->α)(z:α)(p:ca5)(s:s9):α:=let y1:=(rt tV s.i7);let y0:=(rt tV s.c8);let t1:=(lp (M5 (⟨p.is3,s.C1,p.is9,p.A3,p.Ea8,s.C1,(↑(s.C1.toNat-0):Int),y0,y1⟩:V7)) (⟨0,0,s.eh4,0,[]⟩:w9));(sl (decide (s.C1<p.Ea8)) (sl (inB s.C1 ((List.length s.c8)+1)) (sl ((cnE tV s.c8)&&((cnE tV s.i7)&&true)) (sl (Nat.beq t1.1 1) (k ⟨0,W (s.C1+1),y0,y1,t1.2.eh4,0,[]⟩) (sl (Nat.beq t1.1 2) (k ⟨1,W (s.C1+1),y0,y1,t1.2.eh4,t1.2.z8,t1.2.eh5⟩) z)) z) z) (e 1))
def W7{α:Type}(k:s9->α)(e:Nat->α)(z:α)(p:ca5)(s:s9):α:=let y1:=(rt tV s.i7);let y0:=(rt tV s.c8);let t1:=(lp (M5 (⟨p.is3,s.C1,p.is9,p.A3,p.Ea8,s.C1,(↑(s.C1.toNat-0):Int),y0,y1⟩:V7)) (⟨1,0,s.eh4,s.z8,s.eh5⟩:w9));(sl (decide (s.C1<p.Ea8)) (sl (inB s.C1 ((List.length s.c8)+1)) (sl ((cnE tV s.c8)&&((cnE tV s.i7)&&true)) (sl (Nat.beq t1.1 1) (k ⟨0,W (s.C1+1),y0,y1,t1.2.eh4,0,[]⟩) (sl (Nat.beq t1.1 2) (k ⟨1,W (s.C1+1),y0,y1,t1.2.eh4,t1.2.z8,t1.2.eh5⟩) z)) z) z) (e 2))
def T2(p:ca5)(s:s9):Stp s9:=(sel (Nat.beq s.ph 1) (W7 .next .exit .fail p s) (W6 .next .exit .fail p s))
abbrev la6:B2:=⟨0,1,true,some [[.c 3 (nL tV)]]⟩
def Xa9:Lo ca5 s9:=⟨En Ja6,0,Ae9,[1,1,1,1,1,0,1,4,4,1,4,4,1,1,0,4,1,1,4,4],[1,3,9,10,16,17,60,62,63,64,66,67],.s .p (.s .p (.s (.b (.s .p (.s .p (.b (.u Xa8.lsM))))) .p)),[⟨sUq::sPq 0::sUq::sIq::ru2 5 (sIq::sIq::ru2 5 (sIq::sIq::ru2 42 (.s (.o (.lit .i64 0))::sUq::sPq 1::.s (.o .nil)::.s (.o (.lit .i64 0))::sUq::sPq 2::sPq 3::ru2 28 []))),[la6,la6,⟨0,0,true,some [[.o (.ptr 4 0 0 0)]]⟩,⟨0,0,true,some [[.o .nil]]⟩,⟨141,0,true,none⟩],λa H=>(⟨aIq a 3,aIq a 9,aIq a 10,aIq a 16⟩,⟨0,aIq a 17,hLq tV H 0 0 0,hLq tV H 1 0 0,elT H 4,0,[]⟩)⟩,⟨sUq::sPq 0::sUq::sIq::ru2 5 (sIq::sIq::ru2 5 (sIq::sIq::ru2 42 (.s (.o (.lit .i64 0))::sUq::sPq 1::.s (.o .nil)::.s (.o (.lit .i64 0))::sUq::sPq 2::sPq 3::ru2 28 []))),[la6,la6,⟨0,0,true,some [[.o (.ptr 4 0 0 0)]]⟩,⟨0,0,true,some [[.o (.sl 5 0 (some 0) none)]]⟩,⟨141,0,true,none⟩,⟨66,4,true,none⟩],λa H=>(⟨aIq a 3,aIq a 9,aIq a 10,aIq a 16⟩,⟨1,aIq a 17,hLq tV H 0 0 0,hLq tV H 1 0 0,elT H 4,slN (slT (rwT (elT H 3) 0) 0),elT H 5⟩)⟩],T2,[(some 2,λp s=>upq (mb8 p s) [(18,b (decide (s.C1<p.Ea8)))]),(some 2,λp s=>upq (mb9 p s) [(18,b (decide (s.C1<p.Ea8)))])],rc7⟩
theorem rc8:Xa9.OkM:=Lo.okMq [Xa8.prM] (.cons rc6 .nil) λp s=>(.sel (Nat.beq s.ph 1) (.ofq @W7) (.ofq @W6))
structure z6 where
 ph:Nat
 A3:Int
 (c8 i7:List V3)
 eh4:List (List b9)
 z8:Nat
 eh5:List (List b9)
def nb0(p:E3)(s:z6):St:=⟨.unk::.ptr 0 0 0 0::ra 7 (i p.is9::i s.A3::ra 49 (i 0::.unk::.ptr 1 0 0 0::nlq::i 0::.unk::.ptr 2 0 0 0::.ptr 3 0 0 0::ra 28 [])),[bq 0 1 [[eL tV s.c8]],bq 0 1 [[eL tV s.i7]],bq 0 0 [[.ptr 4 0 0 0]],bq 0 0 [[nlq]],bq 141 0 s.eh4]⟩
def nb1(p:E3)(s:z6):St:=⟨.unk::.ptr 0 0 0 0::ra 7 (i p.is9::i s.A3::ra 49 (i 0::.unk::.ptr 1 0 0 0::nlq::i 0::.unk::.ptr 2 0 0 0::.ptr 3 0 0 0::ra 28 [])),[bq 0 1 [[eL tV s.c8]],bq 0 1 [[eL tV s.i7]],bq 0 0 [[.ptr 4 0 0 0]],bq 0 0 [[.sl 5 0 s.z8 0]],bq 141 0 s.eh4,bq 66 4 s.eh5]⟩
def rc9(p:E3)(s:z6):St:=(sel (Nat.beq s.ph 1) (nb1 p s) (nb0 p s))
def W8{α:Type}(k:z6->α)(e:Nat->α)(z:α)(p:E3)(s:z6):α:=let t1:=(lp (T2 (⟨s.A3,p.is9,s.A3,(↑(s.A3.toNat-0):Int)⟩:ca5)) (⟨0,0,rt tV s.c8,rt tV s.i7,s.eh4,0,[]⟩:s9));(sl (decide (s.A3<p.is9)) (sl (inB s.A3 ((List.length s.c8)+1)) (sl ((cnE tV s.c8)&&((cnE tV s.i7)&&true)) (sl (Nat.beq t1.1 1) (k ⟨0,W (s.A3+1),t1.2.c8,t1.2.i7,t1.2.eh4,0,[]⟩) (sl (Nat.beq t1.1 2) (k ⟨1,W (s.A3+1),t1.2.c8,t1.2.i7,t1.2.eh4,t1.2.z8,t1.2.eh5⟩) z)) z) z) (e 1))
def W9{α:Type}(k:z6->α)(e:Nat->α)(z:α)(p:E3)(s:z6):α:=let t1:=(lp (T2 (⟨s.A3,p.is9,s.A3,(↑(s.A3.toNat-0):Int)⟩:ca5)) (⟨1,0,rt tV s.c8,rt tV s.i7,s.eh4,s.z8,s.eh5⟩:s9));(sl (decide (s.A3<p.is9)) (sl (inB s.A3 ((List.length s.c8)+1)) (sl ((cnE tV s.c8)&&((cnE tV s.i7)&&true)) (sl (Nat.beq t1.1 1) (k ⟨0,W (s.A3+1),t1.2.c8,t1.2.i7,t1.2.eh4,0,[]⟩) (sl (Nat.beq t1.1 2) (k ⟨1,W (s.A3+1),t1.2.c8,t1.2.i7,t1.2.eh4,t1.2.z8,t1.2.eh5⟩) z)) z) z) (e 2))
def wa5(p:E3)(s:z6):Stp z6:=(sel (Nat.beq s.ph 1) (W9 .next .exit .fail p s) (W8 .next .exit .fail p s))
abbrev la7:B2:=⟨0,1,true,some [[.c 3 (nL tV)]]⟩
def Ya0:Lo E3 z6:=⟨En Ja6,0,Ae9,[1,1,1,1,1,0,1,4,4,1,4,4],[1,9,10,60,62,63,64,66,67],.s .p (.s .p (.s (.b (.s .p (.s .p (.b (.u Xa9.lsM))))) .p)),[⟨sUq::sPq 0::ru2 7 (sIq::sIq::ru2 49 (.s (.o (.lit .i64 0))::sUq::sPq 1::.s (.o .nil)::.s (.o (.lit .i64 0))::sUq::sPq 2::sPq 3::ru2 28 [])),[la7,la7,⟨0,0,true,some [[.o (.ptr 4 0 0 0)]]⟩,⟨0,0,true,some [[.o .nil]]⟩,⟨141,0,true,none⟩],λa H=>(⟨aIq a 9⟩,⟨0,aIq a 10,hLq tV H 0 0 0,hLq tV H 1 0 0,elT H 4,0,[]⟩)⟩,⟨sUq::sPq 0::ru2 7 (sIq::sIq::ru2 49 (.s (.o (.lit .i64 0))::sUq::sPq 1::.s (.o .nil)::.s (.o (.lit .i64 0))::sUq::sPq 2::sPq 3::ru2 28 [])),[la7,la7,⟨0,0,true,some [[.o (.ptr 4 0 0 0)]]⟩,⟨0,0,true,some [[.o (.sl 5 0 (some 0) none)]]⟩,⟨141,0,true,none⟩,⟨66,4,true,none⟩],λa H=>(⟨aIq a 9⟩,⟨1,aIq a 10,hLq tV H 0 0 0,hLq tV H 1 0 0,elT H 4,slN (slT (rwT (elT H 3) 0) 0),elT H 5⟩)⟩],wa5,[(some 0,λp s=>upq (nb0 p s) [(11,b (decide (s.A3<p.is9)))]),(some 0,λp s=>upq (nb1 p s) [(11,b (decide (s.A3<p.is9)))])],rc9⟩
theorem sc0:Ya0.OkM:=Lo.okMq [Xa9.prM] (.cons rc8 .nil) λp s=>(.sel (Nat.beq s.ph 1) (.ofq @W9) (.ofq @W8))
def ha7(x:V3×List V3):ROq:=let t1:=(ra0 (rt tV (x.1::x.2)));let t2:=(Pa3 (hC tV (λk=>(tV).row (gL tV (x.1::x.2) k)),tC tV (List.length x.2) (λk=>(tV).row (gL tV (x.1::x.2) k))));let t3:=(lp (wa5 (⟨(↑(List.length t2):Int)⟩:E3)) (⟨0,0,rt tV t2,rt tV t2,[],0,[]⟩:z6));(sl (okE tV (x.1::x.2)) (sl (ra1 (rt tV (x.1::x.2))) (sl (t1 != 0) (some (.tup [nlq,i t1],[])) (sl (okL tV (List.length x.2+1) (λk=>(tV).row (gL tV (x.1::x.2) k))) (sl (Pa4 (hC tV (λk=>(tV).row (gL tV (x.1::x.2) k)),tC tV (List.length x.2) (λk=>(tV).row (gL tV (x.1::x.2) k)))) (sl ((cnE tV t2)&&((cnE tV t2)&&true)) (sl (Nat.beq t3.1 1) none (sl (Nat.beq t3.1 2) (sl (Bool.and (Nat.ble t3.2.z8 room) (Bool.and (Nat.ble t3.2.z8 (len t3.2.eh5)) (okS tP t3.2.eh5 0 t3.2.z8))) (some (.tup [.sl 0 0 t3.2.z8 0,i 0],[bq 66 4 (app (bL tP (Lb4 (slR tP t3.2.eh5 0 t3.2.z8))) (i9 t3.2.eh5 t3.2.z8))])) none) none)) none) none) none)) none) none)
def Ta0(x:V3×List V3):PLq×Int:=F6 (two (r1L tP) r1I) (ha7 x)
def Ta1(x:V3×List V3):Bool:=okO (two (r1L tP) r1I) (ha7 x)
def Yb5:Sum:=B5 (nd6 tV) (λx=>.guard (Ta1 x) (.ret ((two (r1L tP) r1I).enc (Ta0 x),[])))
theorem Mb3:e8 prog G 70 Yb5:=vb5 (bd b70 Gc2) (two (r1L tP) r1I) (o:=ha7) λx=>Bc9 (.s .p (.s .p (.s .p (.s .p (.s .p (.s (.s .p (.b (.i (.s .p (.b (.u Ya0.lsM)))))) .p)))))) [Ya0.prM] (.cons sc0 .nil)
structure Pa5 where
 (va2 va3 va4 Bf3 g8 d7 i5:Int)
def hc8:List (Nat×Sum):=[(72,cb5)]
theorem Yb6:o4 prog G hc8:=⟨qb7,trivial⟩
structure Pa6 where
 bs0:Bool
def Pa7{α:Type}(kk:Pa6->α)(x:Pa5):α:=let t1:=(M4 (⟨x.g8,x.d7,x.i5⟩:V3) (⟨x.va2,x.va3,x.va4⟩:V3));(kk ⟨t1 != 0⟩)
def Pa8(x:Pa5):Pa6:=Pa7 (λr=>r) x
def nb2(x:Pa5)(r:Pa6):DT (b9×List c7):=.ret (b r.bs0,[bq 0 3 [[i x.g8,i x.d7,i x.i5]]])
def ub5:Sum:=Za4 ⟨[.agg (kLq 4),sPq 0],[⟨0,3,true,some [kLq 3]⟩],λa H=>(⟨cIq a 0 0,cIq a 0 1,cIq a 0 2,cIq a 0 3,hIq H 0 0 0,hIq H 0 0 1,hIq H 0 0 2⟩,())⟩ (λx=>nb2 x (Pa8 x))
theorem hc9:e8 prog G 137 ub5:=Q0 (enc:=λx=>⟨[.agg [i x.va2,i x.va3,i x.va4,i x.Bf3],.ptr 0 0 0 0],[bq 0 3 [[i x.g8,i x.d7,i x.i5]]]⟩) (λa H=>by kernel_rfl) (bd Hf4 Yb6) λx=>Fa0 (mEq @Pa7 (λr=>(nb2 x r).run) x)
structure Z4 where
 f9:PLq
 (g8 d7 i5:Int)
def pa3:List (Nat×Sum):=[(137,ub5)]
theorem Ta2:o4 prog G pa3:=⟨hc9,trivial⟩
structure C0 where
 f9:PLq
 (is7 g8 d7 i5:Int)
def ja1(p:C0)(s:U2):St:=⟨eL tP p.f9::.fn 137 [.ptr 0 0 0 0]::ra 5 (i p.is7::i s.is8::ra 10 []),[bq 0 3 [[i p.g8,i p.d7,i p.i5]]]⟩
def G3{α:Type}(k:U2->α)(e:Nat->α)(z:α)(p:C0)(s:U2):α:=let y0:=(gL tP p.f9 s.is8.toNat);let t1:=(Pa8 ⟨y0.n.x,y0.n.y,y0.n.z,y0.b,p.g8,p.d7,p.i5⟩);(sl (decide (s.is8<p.is7)) (sl (inB s.is8 (List.length p.f9)) (sl t1.bs0 (e 1) (k ⟨W (s.is8+1)⟩)) z) (e 2))
def A9(p:C0)(s:U2):Stp U2:=G3 .next .exit .fail p s
def U7:Lo C0 U2:=⟨En pa3,1,ie1,[1,0,1,4,4],[0,1,7,8],.p,[⟨sLq tP::.fn 137 [.o (.ptr 0 0 0 0)]::ru2 5 (sIq::sIq::ru2 10 []),[⟨0,3,true,some [kLq 3]⟩],λa H=>(⟨aLq tP a 0,aIq a 7,hIq H 0 0 0,hIq H 0 0 1,hIq H 0 0 2⟩,⟨aIq a 8⟩)⟩],A9,[(none,λp s=>⟨[i s.is8],[bq 0 3 [[i p.g8,i p.d7,i p.i5]]]⟩),(some 0,λp s=>upq (ja1 p s) [(9,b (decide (s.is8<p.is7)))])],ja1⟩
theorem Pa9:U7.Ok:=Qim [] .nil λp s=>(.ofq @G3)
def Z6{α:Type}(kk:ea4->α)(x:Z4):α:=let t1:=(lp (A9 (⟨rt tP x.f9,(↑(List.length x.f9):Int),x.g8,x.d7,x.i5⟩:C0)) (⟨0⟩:U2));(sl ((cnE tP x.f9)&&true) (sl (Nat.beq t1.1 1) (kk ⟨1,t1.2.is8⟩) (sl (Nat.beq t1.1 2) (kk ⟨1,-1⟩) (kk ⟨0,0⟩))) (kk ⟨0,0⟩))
def M8(x:Z4):ea4:=Z6 (λr=>r) x
def pa4(x:Z4)(r:ea4):DT (b9×List c7):=(kb7 r.alt 1 (i r.is0,[bq 0 3 [[i x.g8,i x.d7,i x.i5]]]) .fail)
def ra6:Sum:=Za4 ⟨[sLq tP,.fn 137 [.o (.ptr 0 0 0 0)]],[⟨0,3,true,some [kLq 3]⟩],λa H=>(⟨aLq tP a 0,hIq H 0 0 0,hIq H 0 0 1,hIq H 0 0 2⟩,())⟩ (λx=>pa4 x (M8 x))
theorem Ya1:e8 prog G 156 ra6:=Q0 (enc:=λx=>⟨[eL tP x.f9,.fn 137 [.ptr 0 0 0 0]],[bq 0 3 [[i x.g8,i x.d7,i x.i5]]]⟩) (λa H=>by kernel_rfl) (bd uf1 Ta2) λx=>Z0 (.s .p (.s (.s .p (.b (.u U7.ls))) .p)) [U7.pr] (.cons Pa9 .nil) (mEq @Z6 (λr=>(pa4 x r).run) x)
def La7:List (Nat×Sum):=[(156,ra6)]
theorem Ia1:o4 prog G La7:=⟨Ya1,trivial⟩
def T5{α:Type}(kk:gb9->α)(x:Z4):α:=let t1:=(M8 ⟨rt tP x.f9,x.g8,x.d7,x.i5⟩);(sl ((cnE tP x.f9)&&true) (sl (Nat.beq t1.alt 1) (kk ⟨1,decide (t1.is0>=0)⟩) (kk ⟨0,false⟩)) (kk ⟨0,false⟩))
def I0(x:Z4):gb9:=T5 (λr=>r) x
def ga3(x:Z4)(r:gb9):DT (b9×List c7):=(kb7 r.alt 1 (b r.bs0,[bq 0 3 [[i x.g8,i x.d7,i x.i5]]]) .fail)
def ja2:Sum:=Za4 ⟨[sLq tP,.fn 137 [.o (.ptr 0 0 0 0)]],[⟨0,3,true,some [kLq 3]⟩],λa H=>(⟨aLq tP a 0,hIq H 0 0 0,hIq H 0 0 1,hIq H 0 0 2⟩,())⟩ (λx=>ga3 x (I0 x))
theorem La8:e8 prog G 135 ja2:=Q0 (enc:=λx=>⟨[eL tP x.f9,.fn 137 [.ptr 0 0 0 0]],[bq 0 3 [[i x.g8,i x.d7,i x.i5]]]⟩) (λa H=>by kernel_rfl) (bd uf0 Ia1) λx=>Fa0 (mEq @T5 (λr=>(ga3 x r).run) x)
def Ya2:List (Nat×Sum):=[(73,fb6),(135,ja2)]
theorem sc1:o4 prog G Ya2:=⟨Ab8,La8,trivial⟩
structure ja3 where
 (f9 pc0:PLq)
 (is9 A3:Int)
 Bf4:Nat
 Bf5:Nat->List b9
 (Jb8 g8 d7 i5 m0:Int)
structure M6 where
 Hd7:Int
def nb3(p:ja3)(s:M6):St:=⟨eL tP p.f9::ra 3 (.ptr 0 0 0 0::ra 3 (eL tP p.pc0::i p.is9::i p.A3::ra 6 (.tree 4 p.Bf4 p.Bf5::i p.Jb8::i s.Hd7::ra 18 []))),[bq 0 4 [[i p.g8,i p.d7,i p.i5,i p.m0]]]⟩
def la8{α:Type}(k:M6->α)(e:Nat->α)(z:α)(p:ja3)(s:M6):α:=let y0:=(p.Bf5 s.Hd7.toNat);let t1:=(V1 (⟨p.g8,p.d7,p.i5⟩:V3) (⟨toI (hdA y0),toI (hdA (tlA y0)),toI (hdA (tlA (tlA y0)))⟩:V3));let t2:=(I0 ⟨rt tP p.f9,t1.x,t1.y,t1.z⟩);(sl (decide (s.Hd7<p.Jb8)) (sl (inB s.Hd7 p.Bf4) (sl ((Nat.ble 4 (len y0))&&(ma4 [CK.int .i64,CK.int .i64,CK.int .i64,CK.int .i64] y0)) (sl (!((t1.x==0)&&((t1.y==0)&&((t1.z==0)&&true)))) (sl ((cnE tP p.f9)&&true) (sl (Nat.beq t2.alt 1) (sl t2.bs0 (e 1) (k ⟨W (s.Hd7+1)⟩)) z) z) (k ⟨W (s.Hd7+1)⟩)) z) z) (e 2))
def X0(p:ja3)(s:M6):Stp M6:=la8 .next .exit .fail p s
def Qa0:Lo ja3 M6:=⟨En Ya2,0,he9,[1,0,1,4,4,1,1,0,4,1,1,4,4],[0,4,8,9,10,17,18,19],.p,[⟨sLq tP::ru2 3 (sPq 0::ru2 3 (sLq tP::sIq::sIq::ru2 6 (sTq 4::sIq::sIq::ru2 18 []))),[⟨0,4,true,some [kLq 4]⟩],λa H=>(⟨aLq tP a 0,aLq tP a 8,aIq a 9,aIq a 10,aNq a 17,aGq a 17,aIq a 18,hIq H 0 0 0,hIq H 0 0 1,hIq H 0 0 2,hIq H 0 0 3⟩,⟨aIq a 19⟩)⟩],X0,[(none,λp s=>⟨[b true],[]⟩),(some 2,λp s=>upq (nb3 p s) [(20,b (decide (s.Hd7<p.Jb8)))])],nb3⟩
theorem ic0:Qa0.Ok:=Qim [] .nil λp s=>(.ofq @la8)
structure M7 where
 (f9 pc0:PLq)
 A3:Int
def nb4(p:E3)(s:M7):St:=⟨eL tP s.f9::ra 7 (eL tP s.pc0::i p.is9::i s.A3::ra 27 []),[]⟩
def la9{α:Type}(k:M7->α)(e:Nat->α)(z:α)(p:E3)(s:M7):α:=let y0:=(gL tP s.pc0 s.A3.toNat);let t1:=(lp (X0 (⟨rt tP s.f9,rt tP s.pc0,p.is9,s.A3,s.A3.toNat-0,(λk=>(λk=>(tP).row (gL tP s.f9 k)) (0+k)),(↑(s.A3.toNat-0):Int),y0.n.x,y0.n.y,y0.n.z,y0.b⟩:ja3)) (⟨0⟩:M6));(sl (decide (s.A3<p.is9)) (sl (inB s.A3 (List.length s.pc0)) (sl (inB s.A3 ((List.length s.f9)+1)) (sl ((cnE tP s.f9)&&((cnE tP s.pc0)&&true)) (sl (Nat.beq t1.1 1) (e 1) (sl (Nat.beq t1.1 2) (k ⟨rt tP s.f9,rt tP s.pc0,W (s.A3+1)⟩) z)) z) z) z) (e 2))
def X1(p:E3)(s:M7):Stp M7:=la9 .next .exit .fail p s
def Qa1:Lo E3 M7:=⟨En Ya2,0,he9,[1,0,1,4,4],[0,8,9,10],.s .p (.s .p (.s (.b (.s .p (.s .p (.b (.u Qa0.ls))))) .p)),[⟨sLq tP::ru2 7 (sLq tP::sIq::sIq::ru2 27 []),[],λa H=>(⟨aIq a 9⟩,⟨aLq tP a 0,aLq tP a 8,aIq a 10⟩)⟩],X1,[(none,λp s=>⟨[b true],[]⟩),(some 0,λp s=>upq (nb4 p s) [(11,b (decide (s.A3<p.is9)))])],nb4⟩
theorem ic1:Qa1.Ok:=Qim [Qa0.pr] (.cons ic0 .nil) λp s=>(.ofq @la9)
def ua5(x:PLq):ROq:=let t1:=(lp (X1 (⟨(↑(List.length x):Int)⟩:E3)) (⟨rt tP x,rt tP x,0⟩:M7));(sl ((cnE tP x)&&((cnE tP x)&&true)) (sl (Nat.beq t1.1 1) (some (b true,[])) (sl (Nat.beq t1.1 2) (some (b false,[])) none)) none)
def ka0(x:PLq):Bool:=F6 (one r1B) (ua5 x)
def ka1(x:PLq):Bool:=okO (one r1B) (ua5 x)
def Mb4:Sum:=B5 (N0 tP) (λx=>.guard (ka1 x) (.ret ((one r1B).enc (ka0 x),[])))
theorem Gc3:e8 prog G 108 Mb4:=vb5 (bd Ff8 sc1) (one r1B) (o:=ua5) λx=>Z0 (.s .p (.s (.s .p (.b (.u Qa1.ls))) .p)) [Qa1.pr] (.cons ic1 .nil)
structure Ia2 where
 (va2 va3 va4:Int)
 N6:PLq
def db3:List (Nat×Sum):=[(74,Ra9),(108,Mb4)]
theorem Rb3:o4 prog G db3:=⟨gb7,Gc3,trivial⟩
structure A6 where
 Xc6:PLq
 is8:Int
 N6:PLq
 (sb2 sb3 sb4:Int)
structure m8 where
 ph:Nat
 is9:Int
 ns4:Nat
 eh2:List (List b9)
def La9(p:A6)(s:m8):St:=⟨.unk::.unk::.ptr 1 0 0 0::.unk::nlq::.unk::.unk::eL tP p.Xc6::i p.is8::i s.is9::ra 15 [],[bq 0 1 [[eL tP p.N6]],bq 0 3 [[i p.sb2,i p.sb3,i p.sb4]]]⟩
def Ma0(p:A6)(s:m8):St:=⟨.unk::.unk::.ptr 1 0 0 0::.unk::.sl 2 0 s.ns4 0::.unk::.unk::eL tP p.Xc6::i p.is8::i s.is9::ra 15 [],[bq 0 1 [[eL tP p.N6]],bq 0 3 [[i p.sb2,i p.sb3,i p.sb4]],bq 66 4 s.eh2]⟩
def Jb0(p:A6)(s:m8):St:=(sel (Nat.beq s.ph 1) (Ma0 p s) (La9 p s))
def J1{α:Type}(k:m8->α)(e:Nat->α)(z:α)(p:A6)(s:m8):α:=let y1:=(⟨p.sb2,p.sb3,p.sb4⟩:V3);let y0:=(gL tP p.Xc6 s.is9.toNat);let t1:=(ha3 y0 y1);(sl (decide (s.is9<p.is8)) (sl (inB s.is9 (List.length p.Xc6)) (sl (ha4 y0 y1) (sl (t1==0) (k ⟨1,W (s.is9+1),1,[[i y0.n.x,i y0.n.y,i y0.n.z,i y0.b]]⟩) (k ⟨0,W (s.is9+1),0,[]⟩)) z) z) (e 1))
def J2{α:Type}(k:m8->α)(e:Nat->α)(z:α)(p:A6)(s:m8):α:=let y1:=(⟨p.sb2,p.sb3,p.sb4⟩:V3);let y0:=(gL tP p.Xc6 s.is9.toNat);let t1:=(ha3 y0 y1);(sl (decide (s.is9<p.is8)) (sl (inB s.is9 (List.length p.Xc6)) (sl (ha4 y0 y1) (sl (t1==0) (sl (Nat.beq s.ns4 (len s.eh2)&&Nat.ble ((s.ns4+1)*32) room) (k ⟨1,W (s.is9+1),s.ns4+1,app s.eh2 [[i y0.n.x,i y0.n.y,i y0.n.z,i y0.b]]⟩) z) (k ⟨1,W (s.is9+1),s.ns4,s.eh2⟩)) z) z) (e 2))
def da1(p:A6)(s:m8):Stp m8:=(sel (Nat.beq s.ph 1) (J2 .next .exit .fail p s) (J1 .next .exit .fail p s))
def Fa3(a:List b9)(H:List c7):A6:=⟨aLq tP a 7,aIq a 8,hLq tP H 0 0 0,hIq H 1 0 0,hIq H 1 0 1,hIq H 1 0 2⟩
def ya4:Lo A6 m8:=⟨En db3,1,Ne5,[1,1,0,1,4,4],[2,4,7,8,9],.p,[⟨sUq::sUq::sPq 1::sUq::.s (.o .nil)::sUq::sUq::sLq tP::sIq::sIq::ru2 15 [],[⟨0,1,true,some [[.c 4 (nL tP)]]⟩,⟨0,3,true,some [kLq 3]⟩],λa H=>(Fa3 a H,⟨0,aIq a 9,0,[]⟩)⟩,⟨sUq::sUq::sPq 1::sUq::.s (.o (.sl 2 0 (some 0) none))::sUq::sUq::sLq tP::sIq::sIq::ru2 15 [],[⟨0,1,true,some [[.c 4 (nL tP)]]⟩,⟨0,3,true,some [kLq 3]⟩,⟨66,4,true,none⟩],λa H=>(Fa3 a H,⟨1,aIq a 9,slN (slT a 4),elT H 2⟩)⟩],da1,[(some 0,λp s=>upq (La9 p s) [(10,b (decide (s.is9<p.is8)))]),(some 0,λp s=>upq (Ma0 p s) [(10,b (decide (s.is9<p.is8)))])],Jb0⟩
theorem Jb1:ya4.Ok:=Qim [] .nil λp s=>(.sel (Nat.beq s.ph 1) (.ofq @J2) (.ofq @J1))
structure Ia3 where
 alt:Nat
 bs0:Bool
 N6:PLq
def Ia4{α:Type}(kk:Ia3->α)(x:Ia2):α:=let y0:=(rt tP x.N6);let t1:=(lp (da1 (⟨y0,(↑(List.length x.N6):Int),y0,x.va2,x.va3,x.va4⟩:A6)) (⟨0,0,0,[]⟩:m8));let t2:=(ka0 []);let t3:=(ka0 (slR tP t1.2.eh2 0 t1.2.ns4));(sl ((cnE tP x.N6)&&((cnE tP x.N6)&&true)) (sl (Nat.beq t1.1 1) (sl (ka1 []) (kk ⟨1,!t2,y0⟩) (kk ⟨0,false,[]⟩)) (sl (Nat.beq t1.1 2) (sl (okS tP t1.2.eh2 0 t1.2.ns4) (sl (ka1 (slR tP t1.2.eh2 0 t1.2.ns4)) (kk ⟨1,!t3,y0⟩) (kk ⟨0,false,[]⟩)) (kk ⟨0,false,[]⟩)) (kk ⟨0,false,[]⟩))) (kk ⟨0,false,[]⟩))
def N5(x:Ia2):Ia3:=Ia4 (λr=>r) x
def db4(x:Ia2)(r:Ia3):DT (b9×List c7):=(kb7 r.alt 1 (b r.bs0,[bq 0 1 [[eL tP r.N6]]]) .fail)
def Ia5:Sum:=Za4 ⟨[.agg (kLq 3),sPq 0],[⟨0,1,true,some [[.c 4 (nL tP)]]⟩],λa H=>(⟨cIq a 0 0,cIq a 0 1,cIq a 0 2,hLq tP H 0 0 0⟩,())⟩ (λx=>db4 x (N5 x))
theorem db5:e8 prog G 107 Ia5:=Q0 (enc:=λx=>⟨[.agg [i x.va2,i x.va3,i x.va4],.ptr 0 0 0 0],[bq 0 1 [[eL tP x.N6]]]⟩) (λa H=>by kernel_rfl) (bd Ff7 Rb3) λx=>Z0 (.s .p (.s .p (.s (.s .p (.b (.u ya4.ls))) .p))) [ya4.pr] (.cons Jb1 .nil) (mEq @Ia4 (λr=>(db4 x r).run) x)
structure fa4 where
 ns0:Nat
 eh0:List (List b9)
 r7:PLq
def ua6:List (Nat×Sum):=[(107,Ia5)]
theorem ab0:o4 prog G ua6:=⟨db5,trivial⟩
structure E8 where
 ns0:Nat
 is7:Int
 eh0:List (List b9)
structure o3 where
 is8:Int
 r7:PLq
def pa5(p:E8)(s:o3):St:=⟨.sl 0 0 p.ns0 0::.fn 107 [.ptr 1 0 0 0]::ra 5 (i p.is7::i s.is8::ra 10 []),[bq 23 3 p.eh0,bq 0 1 [[eL tP s.r7]]]⟩
def J6{α:Type}(k:o3->α)(e:Nat->α)(z:α)(p:E8)(s:o3):α:=let y0:=(rdR tV p.eh0 (0+s.is8.toNat));let t1:=(N5 ⟨y0.x,y0.y,y0.z,rt tP s.r7⟩);(sl (decide (s.is8<p.is7)) (sl (inB s.is8 p.ns0) (sl (ldR tV p.eh0 (0+s.is8.toNat)) (sl ((cnE tP s.r7)&&true) (sl (Nat.beq t1.alt 1) (sl t1.bs0 (e 1) (k ⟨W (s.is8+1),t1.N6⟩)) z) z) z) z) (e 2))
def C8(p:E8)(s:o3):Stp o3:=J6 .next .exit .fail p s
def Z7:Lo E8 o3:=⟨En ua6,2,Uc2,[1,0,1,4,4],[0,1,7,8],.p,[⟨.s (.o (.sl 0 0 (some 0) none))::.fn 107 [.o (.ptr 1 0 0 0)]::ru2 5 (sIq::sIq::ru2 10 []),[⟨23,3,true,none⟩,⟨0,1,true,some [[.c 4 (nL tP)]]⟩],λa H=>(⟨slN (slT a 0),aIq a 7,elT H 0⟩,⟨aIq a 8,hLq tP H 1 0 0⟩)⟩],C8,[(none,λp s=>let t1:=(N5 ⟨(rdR tV p.eh0 (0+s.is8.toNat)).x,(rdR tV p.eh0 (0+s.is8.toNat)).y,(rdR tV p.eh0 (0+s.is8.toNat)).z,rt tP s.r7⟩);⟨[i s.is8],[bq 23 3 p.eh0,bq 0 1 [[eL tP t1.N6]]]⟩),(some 0,λp s=>upq (pa5 p s) [(9,b (decide (s.is8<p.is7)))])],pa5⟩
theorem Ya3:Z7.Ok:=Qim [] .nil λp s=>(.ofq @J6)
structure fa5 where
 alt:Nat
 is0:Int
 r7:PLq
def fa6{α:Type}(kk:fa5->α)(x:fa4):α:=let t1:=(lp (C8 (⟨x.ns0,(↑x.ns0:Int),x.eh0⟩:E8)) (⟨0,rt tP x.r7⟩:o3));let y0:=(rdR tV x.eh0 (0+t1.2.is8.toNat));let t2:=(N5 ⟨y0.x,y0.y,y0.z,rt tP t1.2.r7⟩);(sl ((cnE tP x.r7)&&true) (sl (Nat.beq t1.1 1) (kk ⟨1,t1.2.is8,t2.N6⟩) (sl (Nat.beq t1.1 2) (kk ⟨1,-1,t1.2.r7⟩) (kk ⟨0,0,[]⟩))) (kk ⟨0,0,[]⟩))
def R7(x:fa4):fa5:=fa6 (λr=>r) x
def ua7(x:fa4)(r:fa5):DT (b9×List c7):=(kb7 r.alt 1 (i r.is0,[bq 23 3 x.eh0,bq 0 1 [[eL tP r.r7]]]) .fail)
def za7:Sum:=Za4 ⟨[.s (.o (.sl 0 0 (some 0) none)),.fn 107 [.o (.ptr 1 0 0 0)]],[⟨23,3,true,none⟩,⟨0,1,true,some [[.c 4 (nL tP)]]⟩],λa H=>(⟨slN (slT a 0),elT H 0,hLq tP H 1 0 0⟩,())⟩ (λx=>ua7 x (R7 x))
theorem ib4:e8 prog G 131 za7:=Q0 (enc:=λx=>⟨[.sl 0 0 x.ns0 0,.fn 107 [.ptr 1 0 0 0]],[bq 23 3 x.eh0,bq 0 1 [[eL tP x.r7]]]⟩) (λa H=>by kernel_rfl) (bd ie2 ab0) λx=>Z0 (.s .p (.s (.s .p (.b (.u Z7.ls))) .p)) [Z7.pr] (.cons Ya3 .nil) (mEq @fa6 (λr=>(ua7 x r).run) x)
def ua8:List (Nat×Sum):=[(131,za7),(107,Ia5)]
theorem ab1:o4 prog G ua8:=⟨ib4,db5,trivial⟩
structure E9 where
 ns0:Nat
structure p7 where
 (is5 is6:Int)
 eh0:List (List b9)
 r7:PLq
def pa6(p:E9)(s:p7):St:=⟨.sl 0 0 p.ns0 0::.fn 107 [.ptr 1 0 0 0]::ra 3 (i s.is5::i s.is6::ra 35 []),[bq 23 3 s.eh0,bq 0 1 [[eL tP s.r7]]]⟩
def J7{α:Type}(k:p7->α)(e:Nat->α)(z:α)(p:E9)(s:p7):α:=let y0:=(rdR tV s.eh0 (0+s.is6.toNat));let t1:=(N5 ⟨y0.x,y0.y,y0.z,rt tP s.r7⟩);(sl (decide (s.is6<(↑p.ns0:Int))) (sl (inB s.is6 p.ns0) (sl (ldR tV s.eh0 (0+s.is6.toNat)) (sl ((cnE tP s.r7)&&true) (sl (Nat.beq t1.alt 1) (sl (!t1.bs0) (sl (inB s.is5 p.ns0) (sl ((Nat.blt (0+s.is5.toNat) (len s.eh0))&&(Nat.ble (0+3) (len (j6 s.eh0 (0+s.is5.toNat))))) (k ⟨W (s.is5+1),W (s.is6+1),setAt s.eh0 (0+s.is5.toNat) (T8 (j6 s.eh0 (0+s.is5.toNat)) 0 [i y0.x,i y0.y,i y0.z]),t1.N6⟩) z) z) (k ⟨s.is5,W (s.is6+1),s.eh0,t1.N6⟩)) z) z) z) z) (e 1))
def z7(p:E9)(s:p7):Stp p7:=J7 .next .exit .fail p s
def Z8:Lo E9 p7:=⟨En ua8,2,Ne6,[1,1,1,0,1,4,4],[0,1,5,6],.p,[⟨.s (.o (.sl 0 0 (some 0) none))::.fn 107 [.o (.ptr 1 0 0 0)]::ru2 3 (sIq::sIq::ru2 35 []),[⟨23,3,true,none⟩,⟨0,1,true,some [[.c 4 (nL tP)]]⟩],λa H=>(⟨slN (slT a 0)⟩,⟨aIq a 5,aIq a 6,elT H 0,hLq tP H 1 0 0⟩)⟩],z7,[(some 0,λp s=>upq (pa6 p s) [(16,i s.is6),(17,.sl 0 0 p.ns0 0),(18,i (↑p.ns0:Int)),(19,b (decide (s.is6<(↑p.ns0:Int))))])],pa6⟩
theorem Ya4:Z8.Ok:=Qim [] .nil λp s=>(.ofq @J7)
structure fa8 where
 (alt ns0:Nat)
 eh0:List (List b9)
 r7:PLq
def fa9{α:Type}(kk:fa8->α)(x:fa4):α:=let t1:=(R7 ⟨x.ns0,x.eh0,rt tP x.r7⟩);let t2:=(lp (z7 (⟨x.ns0⟩:E9)) (⟨t1.is0,W (t1.is0+1),x.eh0,rt tP t1.r7⟩:p7));(sl ((cnE tP x.r7)&&true) (sl (Nat.beq t1.alt 1) (sl (t1.is0==(-1)) (kk ⟨1,x.ns0,x.eh0,t1.r7⟩) (sl ((cnE tP t1.r7)&&true) (sl (Nat.beq t2.1 1) (sl (inB t2.2.is5 (x.ns0+1)) (sl (inB t2.2.is5 (x.ns0+1)) (kk ⟨1,t2.2.is5.toNat-0,app (A7 t2.2.eh0 (0+t2.2.is5.toNat)) (app (List.replicate (x.ns0-t2.2.is5.toNat) [i 0,i 0,i 0]) (i9 t2.2.eh0 ((0+t2.2.is5.toNat)+(x.ns0-t2.2.is5.toNat)))),t2.2.r7⟩) (kk ⟨0,0,[],[]⟩)) (kk ⟨0,0,[],[]⟩)) (kk ⟨0,0,[],[]⟩)) (kk ⟨0,0,[],[]⟩))) (kk ⟨0,0,[],[]⟩)) (kk ⟨0,0,[],[]⟩))
def R8(x:fa4):fa8:=fa9 (λr=>r) x
def ua9(x:fa4)(r:fa8):DT (b9×List c7):=(kb7 r.alt 1 (.sl 0 0 r.ns0 0,[bq 23 3 r.eh0,bq 0 1 [[eL tP r.r7]]]) .fail)
def za8:Sum:=Za4 ⟨[.s (.o (.sl 0 0 (some 0) none)),.fn 107 [.o (.ptr 1 0 0 0)]],[⟨23,3,true,none⟩,⟨0,1,true,some [[.c 4 (nL tP)]]⟩],λa H=>(⟨slN (slT a 0),elT H 0,hLq tP H 1 0 0⟩,())⟩ (λx=>ua9 x (R8 x))
theorem ib5:e8 prog G 109 za8:=Q0 (enc:=λx=>⟨[.sl 0 0 x.ns0 0,.fn 107 [.ptr 1 0 0 0]],[bq 23 3 x.eh0,bq 0 1 [[eL tP x.r7]]]⟩) (λa H=>by kernel_rfl) (bd Ff9 ab1) λx=>Z0 (.s .p (.s .p (.s .p (.s (.s .p (.b (.u Z8.ls))) .p)))) [Z8.pr] (.cons Ya4 .nil) (mEq @fa9 (λr=>(ua9 x r).run) x)
def Yb7:List (Nat×Sum):=[(138,ya3),(139,ka7),(141,pa2)]
theorem Rb4:o4 prog G Yb7:=⟨Ra0,Ea1,Fa2,trivial⟩
def Ia7{α:Type}(kk:ya1->α)(x:V3×List V3):α:=let t1:=(Y3 (hC tV (λk=>(tV).row (gL tV (x.1::x.2) k)),tC tV (List.length x.2) (λk=>(tV).row (gL tV (x.1::x.2) k))));let t2:=(J0 ⟨t1.ns0,app (bL tV (ub3 (slR tV t1.eh0 0 t1.ns0))) (i9 t1.eh0 t1.ns0)⟩);(sl (okL tV (List.length x.2+1) (λk=>(tV).row (gL tV (x.1::x.2) k))) (sl (Nat.beq t1.alt 1) (sl (Bool.and (Nat.ble t1.ns0 room) (Bool.and (Nat.ble t1.ns0 (len t1.eh0)) (okS tV t1.eh0 0 t1.ns0))) (sl (Nat.beq t2.alt 1) (kk ⟨1,t2.ns0,t2.eh0⟩) (kk ⟨0,0,[]⟩)) (kk ⟨0,0,[]⟩)) (kk ⟨0,0,[]⟩)) (kk ⟨0,0,[]⟩))
def ra2(x:V3×List V3):ya1:=Ia7 (λr=>r) x
def db6(r:ya1):DT (b9×List c7):=(kb7 r.alt 1 (.sl 0 0 r.ns0 0,[bq 23 3 r.eh0]) .fail)
def ga0:Sum:=B5 (nd6 tV) (λx=>db6 (ra2 x))
theorem ma0:e8 prog G 110 ga0:=Gb2 (bd tf7 Rb4) λx=>Fa0 (mEq @Ia7 (λr=>(db6 r).run) x)
def sc2:List (Nat×Sum):=[(70,Yb5),(110,ga0),(109,za8)]
theorem ic2:o4 prog G sc2:=⟨Mb3,ma0,ib5,trivial⟩
def pa7(x:V3×List V3):ROq:=let t1:=(Ta0 (hC tV (λk=>(tV).row (gL tV (x.1::x.2) k)),tC tV (List.length x.2) (λk=>(tV).row (gL tV (x.1::x.2) k))));let t2:=(ra2 (hC tV (λk=>(tV).row (gL tV (x.1::x.2) k)),tC tV (List.length x.2) (λk=>(tV).row (gL tV (x.1::x.2) k))));let t3:=(R8 ⟨t2.ns0,t2.eh0,rt tP t1.1⟩);(sl (okL tV (List.length x.2+1) (λk=>(tV).row (gL tV (x.1::x.2) k))) (sl (Ta1 (hC tV (λk=>(tV).row (gL tV (x.1::x.2) k)),tC tV (List.length x.2) (λk=>(tV).row (gL tV (x.1::x.2) k)))) (sl (t1.2 != 0) (some (.tup [nlq,i t1.2],[])) (sl (okL tV (List.length x.2+1) (λk=>(tV).row (gL tV (x.1::x.2) k))) (sl (Nat.beq t2.alt 1) (sl ((cnE tP t1.1)&&true) (sl (Nat.beq t3.alt 1) (some (.tup [.sl 0 0 t3.ns0 0,i 0],[bq 23 3 t3.eh0])) none) none) none) none)) none) none)
def Cb7(x:V3×List V3):List V3×Int:=F6 (two (r1L tV) r1I) (pa7 x)
def Cb8(x:V3×List V3):Bool:=okO (two (r1L tV) r1I) (pa7 x)
def Gc4:Sum:=B5 (nd6 tV) (λx=>.guard (Cb8 x) (.ret ((two (r1L tV) r1I).enc (Cb7 x),[])))
theorem sc3:e8 prog G 69 Gc4:=ya7 (bd b69 ic2) (two (r1L tV) r1I) (o:=pa7)
end Go.Ev.Ce
namespace Go.Ev.L
open Go Go.Ev
def Ze0:Cod Unit where
 enc _:=.v (.slice none 0 0)
 dec x:=match x with
  |.v (.slice none 0 0)=>some ()
  |_=>none
 grd _:=true
 ok x a hx _:=by
  split at hx
  ·exact .refl _
  ·cases hx
def cE0:Cod (Addr×Nat) where
 enc z:=.v (.slice (some z.1) 0 z.2)
 dec x:=match x with
  |.v (.slice (some a) 0 c)=>some (a,c)
  |_=>none
 grd _:=true
 ok x a hx _:=by
  split at hx
  ·cases hx;exact .refl _
  ·cases hx
section
variable{α:Type}{t:Ty α}{P:Program}{G:Nat->List Value}{f:FuncId}
theorem Hb5{β:Type}{c:Cod β}{k k':β->DT (b9×List c7)}(h:e8 P G f (B5 c k))(hk:∀a r,(k' a).run=some r->(k a).run=some r):e8 P G f (B5 c k'):=h.le λargs blks r hr=>by
 unfold B5 at hr ⊢
 split at hr
 ·obtain⟨a,h1,hr⟩:=B4 hr;obtain⟨g,hr⟩:=DT.run_guard_some hr;simp only[h1,onO,g];exact hk a r hr
 ·cases hr
theorem je0{k:List α->DT (b9×List c7)}(hA:e8 P G f (B5 (nd6 t) λz=>k (z.1::z.2)))(hN:e8 P G f (B5 Ze0 λ_=>k []))(hE:e8 P G f (B5 cE0 λ_=>k [])):e8 P G f (B5 (N0 t) k):=by
 intro args blks r out he W ρ F w args' hH hlen hargs hG;unfold B5 at he
 split at he
 ·rename_i x;obtain⟨a,h1,he⟩:=B4 he;obtain⟨g1,hk⟩:=DT.run_guard_some he;have nilCase:∀v',args'[0]?=some v'->v'=.slice none 0 0->a=[]->Ua7 P f/\Calls P f args'.toArray w λe w'=>∃r',e=.returned r'/\C4 W ρ [] F w r out r' w':=λv' hv e ha=>by
   subst ha;refine hN [.v (.slice none 0 0)] [] r out ?_ W ρ F w args' hH hlen (λi x' y' hx hy=>?_) hG
   ·exact hk
   ·match i with
    |0=>cases hx;rw[hv] at hy;cases hy;rw[e];exact .val (.cell (.v _))
    |i+1=>cases hx
  have emptyCase:∀v' ad c,args'[0]?=some v'->v'=.slice (some ad) 0 c->a=[]->Ua7 P f/\Calls P f args'.toArray w λe w'=>∃r',e=.returned r'/\C4 W ρ [] F w r out r' w':=λv' ad c hv e ha=>by
   subst ha;refine hE [.v (.slice (some ad) 0 c)] [] r out ?_ W ρ F w args' hH hlen (λi x' y' hx hy=>?_) hG
   ·exact hk
   ·match i with
    |0=>cases hx;rw[hv] at hy;cases hy;rw[e];exact .val (.cell (.v _))
    |i+1=>cases hx
  obtain⟨v',hv⟩:∃v',args'[0]?=some v':=by
   cases args' with
   |nil=>simp at hlen
   |cons v' r'=>exact⟨v',rfl⟩
  cases x with
  |tree e n get =>
   have hb:Nat.beq e t.es=true/\a=lsL t n get:=by
    have h1:(Bool.rec none (some (lsL t n get)) (Nat.beq e t.es):Option (List α))=some a:=h1;cases hb:Nat.beq e t.es with
    |false=>rw[hb] at h1;cases h1
    |true =>
     simp_all
   cases n with
   |zero =>
    have ha:a=[]:=hb.2;have hm:=aa8 (hargs 0 _ v' rfl hv);cases hm with
    |tree _ _ _ ad cap cs hs hcap hes hF hw hr=>exact emptyCase _ ad cap hv rfl ha
    |nil=>exact nilCase _ hv rfl ha
   |succ m =>
    have ha:a=hC t get::tC t m get:=hb.2.trans (nd5 t m get);subst ha;refine hA [.tree e (m+1) get] [] r out ?_ W ρ F w args' hH hlen hargs hG;have hc:(nd6 t).dec (.tree e (m+1) get)=some (hC t get,tC t m get):=by
     show (Bool.rec none (some (hC t get,tC t m get)) (Nat.beq e t.es):Option (α×List α))=_;rw[hb.1]
    have hg:(nd6 t).grd (.tree e (m+1) get)=true:=g1;simp only[B5,hc,onO,hg];exact hk
  |v q =>
   have hq:=K5 (hargs 0 _ v' rfl hv);unfold N0 at h1
   grind
  |_=>cases h1
 ·cases he
end
end Go.Ev.L
namespace Go.Ev.Ce
open Go Go.Ev Go.Ev.L Go.Proofs
set_option maxRecDepth 100000
def Gc5:List (Nat×Sum):=[(104,Sa7),(110,ga0),(111,ea6)]
theorem sc4:o4 prog G Gc5:=⟨ua4,ma0,ia9,trivial⟩
def ib6(x:Unit):ROq:=let t1:=(ra0 []);(sl (ra1 []) (sl (t1 != 0) (some (.tup [nlq,i t1],[])) none) none)
def Mb5(x:Unit):PLq×Int:=F6 (two (r1L tP) r1I) (ib6 x)
def Mb6(x:Unit):Bool:=okO (two (r1L tP) r1I) (ib6 x)
def Mb7:Sum:=B5 Ze0 (λx=>.guard (Mb6 x) (.ret ((two (r1L tP) r1I).enc (Mb5 x),[])))
theorem Cb9:e8 prog G 70 Mb7:=vb5 (bd b70 sc4) (two (r1L tP) r1I) (o:=ib6) λx=>Bc9 .p [] .nil
def ic3:List (Nat×Sum):=[(70,Mb7),(110,ga0)]
theorem Yb8:o4 prog G ic3:=⟨Cb9,ma0,trivial⟩
def Qa2(x:Unit):ROq:=let t1:=(Mb5 ());(sl (Mb6 ()) (sl (t1.2 != 0) (some (.tup [nlq,i t1.2],[])) none) none)
def sc5(x:Unit):List V3×Int:=F6 (two (r1L tV) r1I) (Qa2 x)
def sc6(x:Unit):Bool:=okO (two (r1L tV) r1I) (Qa2 x)
def sc7:Sum:=B5 Ze0 (λx=>.guard (sc6 x) (.ret ((two (r1L tV) r1I).enc (sc5 x),[])))
theorem ic4:e8 prog G 69 sc7:=ya7 (bd b69 Yb8) (two (r1L tV) r1I) (o:=Qa2)
def Gc6:List (Nat×Sum):=[(111,ea6)]
theorem sc8:o4 prog G Gc6:=⟨ia9,trivial⟩
def ib7(x:Addr×Nat):ROq:=none
def Mb8(x:Addr×Nat):PLq×Int:=F6 (two (r1L tP) r1I) (ib7 x)
def Mb9(x:Addr×Nat):Bool:=okO (two (r1L tP) r1I) (ib7 x)
def Nb0:Sum:=B5 cE0 (λx=>.guard (Mb9 x) (.ret ((two (r1L tP) r1I).enc (Mb8 x),[])))
theorem Db0:e8 prog G 70 Nb0:=vb5 (bd b70 sc8) (two (r1L tP) r1I) (o:=ib7) λx=>Bc9 .p [] .nil
def ic5:List (Nat×Sum):=[(70,Nb0),(110,ga0)]
theorem Yb9:o4 prog G ic5:=⟨Db0,ma0,trivial⟩
def Qa3(x:Addr×Nat):ROq:=let t1:=(Mb8 x);(sl (Mb9 x) (sl (t1.2 != 0) (some (.tup [nlq,i t1.2],[])) none) none)
def sc9(x:Addr×Nat):List V3×Int:=F6 (two (r1L tV) r1I) (Qa3 x)
def tc0(x:Addr×Nat):Bool:=okO (two (r1L tV) r1I) (Qa3 x)
def tc1:Sum:=B5 cE0 (λx=>.guard (tc0 x) (.ret ((two (r1L tV) r1I).enc (sc9 x),[])))
theorem ic6:e8 prog G 69 tc1:=ya7 (bd b69 Yb9) (two (r1L tV) r1I) (o:=Qa3)
def Gc7:List (Nat×Sum):=[(104,Sa7),(111,ea6)]
theorem tc2:o4 prog G Gc7:=⟨ua4,ia9,trivial⟩
def va0(x:List V3):ROq:=let t1:=(ra0 (rt tV x));(sl (okE tV x) (sl (ra1 (rt tV x)) (sl (t1 != 0) (some (.tup [nlq,i t1],[])) none) none) none)
def Ja7(x:List V3):PLq×Int:=F6 (two (r1L tP) r1I) (va0 x)
def Ja8(x:List V3):Bool:=okO (two (r1L tP) r1I) (va0 x)
def Nb1:Sum:=B5 (N0 tV) (λx=>.guard (Ja8 x) (.ret ((two (r1L tP) r1I).enc (Ja7 x),[])))
theorem Db1:e8 prog G 70 Nb1:=vb5 (bd b70 tc2) (two (r1L tP) r1I) (o:=va0) λx=>Bc9 .p [] .nil
def ic7:List (Nat×Sum):=[(70,Nb1)]
theorem Zb0:o4 prog G ic7:=⟨Db1,trivial⟩
def ja5(x:List V3):ROq:=let t1:=(Ja7 (rt tV x));(sl (okE tV x) (sl (Ja8 (rt tV x)) (sl (t1.2 != 0) (some (.tup [nlq,i t1.2],[])) none) none) none)
def Qa4(x:List V3):List V3×Int:=F6 (two (r1L tV) r1I) (ja5 x)
def Qa5(x:List V3):Bool:=okO (two (r1L tV) r1I) (ja5 x)
def tc3:Sum:=B5 (N0 tV) (λx=>.guard (Qa5 x) (.ret ((two (r1L tV) r1I).enc (Qa4 x),[])))
theorem ic8:e8 prog G 69 tc3:=ya7 (bd b69 Zb0) (two (r1L tV) r1I) (o:=ja5)
structure T7 where
 (g8 sb5 sb6:Int)
structure w7 where
 Ea8:Int
def Ma1(p:T7)(s:w7):St:=⟨ra 14 (.sl 0 0 3 0::i 3::i s.Ea8::ra 10 []),[bq 3 1 [[i p.g8],[i p.sb5],[i p.sb6]]]⟩
def Y8{α:Type}(k:w7->α)(e:Nat->α)(z:α)(p:T7)(s:w7):α:=let y0:=(j6 [[i p.g8],[i p.sb5],[i p.sb6]] (0+s.Ea8.toNat));(sl (decide (s.Ea8<3)) (sl (inB s.Ea8 3) (sl (((Nat.blt (0+s.Ea8.toNat) (len [[i p.g8],[i p.sb5],[i p.sb6]]))&&(Nat.ble (0+1) (len y0)))&&(ma4 [CK.int .i64] (i9 y0 0))) (sl (decide ((toI (hdA (i9 y0 0)))<0)) (e 1) (sl (decide ((toI (hdA (i9 y0 0)))>12)) (e 1) (k ⟨W (s.Ea8+1)⟩))) z) z) (e 2))
def C9(p:T7)(s:w7):Stp w7:=Y8 .next .exit .fail p s
def ra9:Lo T7 w7:=⟨En tbN,0,of6,[1,0,1,4,4],[14,15,16],.p,[⟨ru2 14 (.s (.o (.sl 0 0 (some 0) (some 3)))::.s (.o (.lit .i64 3))::sIq::ru2 10 []),[⟨3,1,true,some [[.o (.int .i64)],[.o (.int .i64)],[.o (.int .i64)]]⟩],λa H=>(⟨hIq H 0 0 0,hIq H 0 1 0,hIq H 0 2 0⟩,⟨aIq a 16⟩)⟩],C9,[(none,λp s=>⟨[b false],[]⟩),(some 0,λp s=>upq (Ma1 p s) [(17,b (decide (s.Ea8<3)))])],Ma1⟩
theorem Db2:ra9.Ok:=Qim [] .nil λp s=>(.ofq @Y8)
def ba8(x:V3):ROq:=let t1:=(lp (C9 (⟨x.x,x.y,x.z⟩:T7)) (⟨0⟩:w7));(sl (Nat.beq t1.1 1) (some (b false,[])) (sl (Nat.beq t1.1 2) (some (b true,[])) none))
def ma1(x:V3):Bool:=F6 (one r1B) (ba8 x)
def ma2(x:V3):Bool:=okO (one r1B) (ba8 x)
def db7:Sum:=B5 (F5 tV) (λx=>.guard (ma2 x) (.ret ((one r1B).enc (ma1 x),[])))
theorem Rb5:e8 prog G 58 db7:=vb5 (bd b58 xa5) (one r1B) (o:=ba8) λx=>Z0 (.s .p (.s (.s .p (.b (.u ra9.ls))) .p)) [ra9.pr] (.cons Db2 .nil)
def Gc8:List (Nat×Sum):=[(92,Ha2)]
theorem tc4:o4 prog G Gc8:=⟨cb7,trivial⟩
def Ja9(x:V3)(y:V3):Int:=let t1:=(N2 x.x);let t2:=(N2 x.y);let t3:=(N2 x.z);(W ((W ((W (t1*y.x))+(W (t2*y.y))))+(W (t3*y.z))))
def Nb2:Sum:=ba0 (F5 tV) (F5 tV) (λx y=>.ret ((one r1I).enc (Ja9 x y),[]))
theorem Gc9:e8 prog G 60 Nb2:=tb2 (bd b60 tc4)
def Oc2:List (Nat×Sum):=[(90,fb7),(91,Ca4)]
theorem Hc0:o4 prog G Oc2:=⟨Ab9,Na8,trivial⟩
def Ea2(x:Pln)(y:Int):ROq:=let y0:=(.tup [.agg [i 0,i 0,i 0,i 0],b false],[]);let t1:=(sa9 x);let t2:=(G6 4194304 [y]);let t3:=(G6 2097152 [W (x.b+y)]);(sl (ta0 x) (sl (!t1) (some y0) (sl (G7 4194304 [y]) (sl (!t2) (some y0) (sl (G7 2097152 [W (x.b+y)]) (sl (!t3) (some y0) (some (.tup [.agg [i x.n.x,i x.n.y,i x.n.z,i (W (x.b+y))],b true],[]))) none)) none)) none)
def Ea3(x:Pln)(y:Int):Pln×Bool:=F6 (two r1P r1B) (Ea2 x y)
def Ea4(x:Pln)(y:Int):Bool:=okO (two r1P r1B) (Ea2 x y)
def Zb1:Sum:=ba0 (F5 tP) cI (λx y=>.guard (Ea4 x y) (.ret ((two r1P r1B).enc (Ea3 x y),[])))
theorem Oc3:e8 prog G 59 Zb1:=zb9 (bd b59 Hc0) (two r1P r1B) (o:=Ea2)
def ic9:List (Nat×Sum):=[(60,Nb2)]
theorem Zb2:o4 prog G ic9:=⟨Gc9,trivial⟩
def wa6(x:V3)(y:Pln):Int:=let t1:=(Ja9 y.n x);t1
def ub6:Sum:=ba0 (F5 tV) (F5 tP) (λx y=>.ret ((one r1I).enc (wa6 x y),[]))
theorem jc0:e8 prog G 32 ub6:=tb2 (bd b32 Zb2)
structure ib8 where
 (va2 va3 va4:Int)
 oc9:PLq
 (Lc0 Lc1 Lc2:Int)
def Db3:List (Nat×Sum):=[(58,db7),(32,ub6),(59,Zb1)]
theorem tc5:o4 prog G Db3:=⟨Rb5,jc0,Oc3,trivial⟩
structure I1 where
 (Lc0 Lc1 Lc2:Int)
 kc7:PLq
 C1:Int
structure n8 where
 ph:Nat
 Jb8:Int
 ns8:Nat
 eh0:List (List b9)
def db8(p:I1)(s:n8):St:=⟨.unk::.unk::.fn 100032 [i p.Lc0,i p.Lc1,i p.Lc2]::ra 5 (nlq::ra 7 (eL tP p.kc7::i p.C1::i s.Jb8::ra 19 [])),[]⟩
def db9(p:I1)(s:n8):St:=⟨.unk::.unk::.fn 100032 [i p.Lc0,i p.Lc1,i p.Lc2]::ra 5 (.sl 0 0 s.ns8 0::ra 7 (eL tP p.kc7::i p.C1::i s.Jb8::ra 19 [])),[bq 66 4 s.eh0]⟩
def jc1(p:I1)(s:n8):St:=(sel (Nat.beq s.ph 1) (db9 p s) (db8 p s))
def R9{α:Type}(k:n8->α)(e:Nat->α)(z:α)(p:I1)(s:n8):α:=let y0:=(gL tP p.kc7 s.Jb8.toNat);let t1:=(wa6 (⟨p.Lc0,p.Lc1,p.Lc2⟩:V3) y0);let t2:=(Ea3 y0 t1);(sl (decide (s.Jb8<p.C1)) (sl (inB s.Jb8 (List.length p.kc7)) (sl (Ea4 y0 t1) (sl (!t2.2) (e 1) (k ⟨1,W (s.Jb8+1),1,[[i t2.1.n.x,i t2.1.n.y,i t2.1.n.z,i t2.1.b]]⟩)) z) z) (e 2))
def S1{α:Type}(k:n8->α)(e:Nat->α)(z:α)(p:I1)(s:n8):α:=let y0:=(gL tP p.kc7 s.Jb8.toNat);let t1:=(wa6 (⟨p.Lc0,p.Lc1,p.Lc2⟩:V3) y0);let t2:=(Ea3 y0 t1);(sl (decide (s.Jb8<p.C1)) (sl (inB s.Jb8 (List.length p.kc7)) (sl (Ea4 y0 t1) (sl (!t2.2) (e 1) (sl (Nat.beq s.ns8 (len s.eh0)&&Nat.ble ((s.ns8+1)*32) room) (k ⟨1,W (s.Jb8+1),s.ns8+1,app s.eh0 [[i t2.1.n.x,i t2.1.n.y,i t2.1.n.z,i t2.1.b]]⟩) z)) z) z) (e 3))
def ra3(p:I1)(s:n8):Stp n8:=(sel (Nat.beq s.ph 1) (S1 .next .exit .fail p s) (R9 .next .exit .fail p s))
def Ya5(a:List b9)(H:List c7):I1:=⟨cIq a 2 0,cIq a 2 1,cIq a 2 2,aLq tP a 16,aIq a 17⟩
def Qa6:Lo I1 n8:=⟨En Db3,0,mf2,[1,1,1,0,1,4,4],[2,8,16,17,18],.p,[⟨sUq::sUq::.fn 100032 (kLq 3)::ru2 5 (.s (.o .nil)::ru2 7 (sLq tP::sIq::sIq::ru2 19 [])),[],λa H=>(Ya5 a H,⟨0,aIq a 18,0,[]⟩)⟩,⟨sUq::sUq::.fn 100032 (kLq 3)::ru2 5 (.s (.o (.sl 0 0 (some 0) none))::ru2 7 (sLq tP::sIq::sIq::ru2 19 [])),[⟨66,4,true,none⟩],λa H=>(Ya5 a H,⟨1,aIq a 18,slN (slT a 8),elT H 0⟩)⟩],ra3,[(none,λp s=>⟨[.tup [nlq,b false]],[]⟩),(some 0,λp s=>upq (db8 p s) [(19,b (decide (s.Jb8<p.C1)))]),(some 0,λp s=>upq (db9 p s) [(19,b (decide (s.Jb8<p.C1)))])],jc1⟩
theorem jc2:Qa6.Ok:=Qim [] .nil λp s=>(.sel (Nat.beq s.ph 1) (.ofq @S1) (.ofq @R9))
structure ib9 where
 alt:Nat
 bs1:Bool
 ns0:Nat
 eh0:List (List b9)
def jb0{α:Type}(kk:ib9->α)(x:ib8):α:=let y0:=(⟨x.va2,x.va3,x.va4⟩:V3);let t1:=(ma1 y0);let t2:=(lp (ra3 (⟨x.Lc0,x.Lc1,x.Lc2,rt tP x.oc9,(↑(List.length x.oc9):Int)⟩:I1)) (⟨0,0,0,[]⟩:n8));(sl (ma2 y0) (sl (!t1) (kk ⟨1,false,0,[]⟩) (sl ((cnE tP x.oc9)&&true) (sl (Nat.beq t2.1 1) (kk ⟨1,false,0,[]⟩) (sl (Nat.beq t2.1 2) (kk ⟨1,true,0,[]⟩) (sl (Nat.beq t2.1 3) (kk ⟨2,false,t2.2.ns8,t2.2.eh0⟩) (kk ⟨0,false,0,[]⟩)))) (kk ⟨0,false,0,[]⟩))) (kk ⟨0,false,0,[]⟩))
def jb1(x:ib8):ib9:=jb0 (λr=>r) x
def Db4(x:ib8)(r:ib9):DT (b9×List c7):=(kb7 r.alt 1 (.tup [nlq,b r.bs1],[]) (kb7 r.alt 2 (.tup [.sl 0 0 r.ns0 0,b true],[bq 66 4 r.eh0]) .fail))
def Nb3:Sum:=Za4 ⟨[.agg (kLq 3),sLq tP,.fn 100032 (kLq 3)],[],λa H=>(⟨cIq a 0 0,cIq a 0 1,cIq a 0 2,aLq tP a 1,cIq a 2 0,cIq a 2 1,cIq a 2 2⟩,())⟩ (λx=>Db4 x (jb1 x))
theorem Hc1:e8 prog G 31 Nb3:=Q0 (enc:=λx=>⟨[.agg [i x.va2,i x.va3,i x.va4],eL tP x.oc9,.fn 100032 [i x.Lc0,i x.Lc1,i x.Lc2]],[]⟩) (λa H=>by kernel_rfl) (bd b31 tc5) λx=>Z0 (.s .p (.s .p (.s .p (.s (.s .p (.b (.u Qa6.ls))) .p)))) [Qa6.pr] (.cons jc2 .nil) (mEq @jb0 (λr=>(Db4 x r).run) x)
def sd4:List (Nat×Sum):=[(31,Nb3)]
theorem ed5:o4 prog G sd4:=⟨Hc1,trivial⟩
def Ya6(x:PLq)(y:V3):ROq:=let t1:=(jb1 ⟨y.x,y.y,y.z,rt tP x,y.x,y.y,y.z⟩);(sl ((cnE tP x)&&true) (sl (Nat.beq t1.alt 1) (some (.tup [nlq,b t1.bs1],[])) (sl (Nat.beq t1.alt 2) (some (.tup [.sl 0 0 t1.ns0 0,b true],[bq 66 4 t1.eh0])) none)) none)
def Ya7(x:PLq)(y:V3):PLq×Bool:=F6 (two (r1L tP) r1B) (Ya6 x y)
def Ya8(x:PLq)(y:V3):Bool:=okO (two (r1L tP) r1B) (Ya6 x y)
def Hc2:Sum:=ba0 (N0 tP) (F5 tV) (λx y=>.guard (Ya8 x y) (.ret ((two (r1L tP) r1B).enc (Ya7 x y),[])))
theorem sd5:e8 prog G 15 Hc2:=zb9 (bd b15 ed5) (two (r1L tP) r1B) (o:=Ya6)
def Ma2(x:V3):ROq:=(sl (decide (x.x>=0)) (sl (decide (x.x<=12)) (sl (decide (x.y>=0)) (sl (decide (x.y<=12)) (sl (decide (x.z>=0)) (some (b (decide (x.z<=12)),[])) (some (b false,[]))) (some (b false,[]))) (some (b false,[]))) (some (b false,[]))) (some (b false,[])))
def eb0(x:V3):Bool:=F6 (one r1B) (Ma2 x)
def eb1(x:V3):Bool:=okO (one r1B) (Ma2 x)
def nc9:Sum:=B5 (F5 tV) (λx=>.guard (eb1 x) (.ret ((one r1B).enc (eb0 x),[])))
theorem ed6:e8 prog G 14 nc9:=ya7 (bd b14 xa5) (one r1B) (o:=Ma2)
structure Jb2 where
structure Db5 where
structure Db6 where
structure Jb3 where
 alt:Nat
structure jc3 where
structure Zb3 where
structure Zb4 where
structure jc4 where
 alt:Nat
structure Oc4 where
structure Oc5 where
 alt:Nat
theorem Uc9(x y:Int)(hx:0<=x)(hy:0<=y)(hb:y<=9223372036854775807):Ba6 x y=some (i (Int.gcd x y:Int),[]):=by
 unfold Ba6
 have:=Be2 (step:=ia3 ⟨⟩) (mk:=λg n=>(⟨g,n⟩:O9)) (λg n h=>by simp[ia3,qa3,pb5,h]) (λg=>by simp[ia3,qa3,pb5]) x y (by omega)
 simp only[this,ie8 hx hy];rfl
theorem Hc3(x y:Int)(hx:0<=x)(hy:0<=y)(hb:y<=9223372036854775807):K7 x y=(Int.gcd x y:Int):=by unfold K7;rw[Uc9 x y hx hy hb];rfl
theorem Hc4(x y:Int)(hx:0<=x)(hy:0<=y)(hb:y<=9223372036854775807):K8 x y=true:=by unfold K8;rw[Uc9 x y hx hy hb];rfl
def rm(p:Pln)(x:Pt):Int:=W (p.b*x.pw-(p.n.x*x.px+p.n.y*x.py+p.n.z*x.pz))
theorem Md5(p:Pln)(x:Pt):Va6 p x=rm p x:=by
 unfold Va6 rm;simp only[ib2,Cb4,ed3,Ed6];congr 1;omega
structure Bd(p:Pln):Prop where
 x1:-4608<=p.n.x
 x2:p.n.x<=4608
 y1:-4608<=p.n.y
 y2:p.n.y<=4608
 z1:-4608<=p.n.z
 z2:p.n.z<=4608
 b1:-2097152<=p.b
 b2:p.b<=2097152
def mv(p q r:Pln):V3 :=
 ⟨(d9 q.n r.n).x*p.b+(d9 r.n p.n).x*q.b+(d9 p.n q.n).x*r.b,
  (d9 q.n r.n).y*p.b+(d9 r.n p.n).y*q.b+(d9 p.n q.n).y*r.b,
  (d9 q.n r.n).z*p.b+(d9 r.n p.n).z*q.b+(d9 p.n q.n).z*r.b⟩
def gc(v:V3)(w:Int):Int:=(Nat.gcd (Nat.gcd v.x.natAbs v.y.natAbs) (Nat.gcd v.z.natAbs w.natAbs):Nat)
def mpt(p q r:Pln):Pt×Bool :=
 if mw p q r=0 then (⟨0,0,0,0⟩,false)
 else if mw p q r<0 then (⟨Int.tdiv (-(mv p q r).x) (gc (mv p q r) (mw p q r)),Int.tdiv (-(mv p q r).y) (gc (mv p q r) (mw p q r)),Int.tdiv (-(mv p q r).z) (gc (mv p q r) (mw p q r)),Int.tdiv (-(mw p q r)) (gc (mv p q r) (mw p q r))⟩,true)
 else (⟨Int.tdiv (mv p q r).x (gc (mv p q r) (mw p q r)),Int.tdiv (mv p q r).y (gc (mv p q r) (mw p q r)),Int.tdiv (mv p q r).z (gc (mv p q r) (mw p q r)),Int.tdiv (mw p q r) (gc (mv p q r) (mw p q r))⟩,true)
def Sm(n:Int)(x:Int):Prop:=-n<=x/\x<=n
theorem Db7{a b:V3}(ha:Sm 4608 a.x/\Sm 4608 a.y/\Sm 4608 a.z)(hb:Sm 4608 b.x/\Sm 4608 b.y/\Sm 4608 b.z):Sm 42467328 (d9 a b).x/\Sm 42467328 (d9 a b).y/\Sm 42467328 (d9 a b).z:=by
 obtain⟨⟨a1,a2⟩,⟨a3,a4⟩,a5,a6⟩:=ha;obtain⟨⟨b1,b2⟩,⟨b3,b4⟩,b5,b6⟩:=hb;have h1:=mb a3 a4 b5 b6;have h2:=mb a5 a6 b3 b4;have h3:=mb a5 a6 b1 b2;have h4:=mb a1 a2 b5 b6;have h5:=mb a1 a2 b3 b4;have h6:=mb a3 a4 b1 b2;unfold Sm d9
 simp only
 omega
theorem Bd.n{p:Pln}(h:Bd p):Sm 4608 p.n.x/\Sm 4608 p.n.y/\Sm 4608 p.n.z:=⟨⟨h.x1,h.x2⟩,⟨h.y1,h.y2⟩,h.z1,h.z2⟩
theorem Qe2{p q r:Pln}(hp:Bd p)(hq:Bd q)(hr:Bd r):Sm 600000000000 (mw p q r):=by
 obtain⟨⟨c1,c2⟩,⟨c3,c4⟩,c5,c6⟩:=Db7 hq.n hr.n;have h1:=mb hp.x1 hp.x2 c1 c2;have h2:=mb hp.y1 hp.y2 c3 c4;have h3:=mb hp.z1 hp.z2 c5 c6;unfold Sm mw dot;omega
theorem Qe3{p q r:Pln}(hp:Bd p)(hq:Bd q)(hr:Bd r):Sm 300000000000000 (mv p q r).x/\Sm 300000000000000 (mv p q r).y/\Sm 300000000000000 (mv p q r).z:=by
 obtain⟨⟨c1,c2⟩,⟨c3,c4⟩,c5,c6⟩:=Db7 hq.n hr.n;obtain⟨⟨d1,d2⟩,⟨d3,d4⟩,d5,d6⟩:=Db7 hr.n hp.n;obtain⟨⟨e1,e2⟩,⟨e3,e4⟩,e5,e6⟩:=Db7 hp.n hq.n;have a1:=mb c1 c2 hp.b1 hp.b2;have a2:=mb c3 c4 hp.b1 hp.b2;have a3:=mb c5 c6 hp.b1 hp.b2;have b1:=mb d1 d2 hq.b1 hq.b2;have b2:=mb d3 d4 hq.b1 hq.b2;have b3:=mb d5 d6 hq.b1 hq.b2;have f1:=mb e1 e2 hr.b1 hr.b2;have f2:=mb e3 e4 hr.b1 hr.b2;have f3:=mb e5 e6 hr.b1 hr.b2;unfold Sm mv
 simp only
 omega
theorem Be5(a b:V3):V1 a b=⟨W (d9 a b).x,W (d9 a b).y,W (d9 a b).z⟩:=by
 unfold V1 d9;simp only[ed3,Ed6]
theorem Zb5(a b:V3):M2 a b=⟨W (d9 a b).x,W (d9 a b).y,W (d9 a b).z⟩:=by
 unfold M2 d9;simp only[ed3,Ed6]
theorem ed7{v:V3}{w:Int}(h:w≠0):0<gc v w:=by
 unfold gc
 have:0<Nat.gcd v.z.natAbs w.natAbs:=Qie _ (by omega)
 have:=Qie (Nat.gcd v.x.natAbs v.y.natAbs) this
 omega
theorem Qe4{v:V3}{w:Int}(h:w≠0):gc v w<=w.natAbs:=by
 unfold gc;have h1:Nat.gcd v.z.natAbs w.natAbs<=w.natAbs:=Nat.gcd_le_right _ (by omega)
 have h2:0<Nat.gcd v.z.natAbs w.natAbs:=Qie _ (by omega)
 have h3:=Nat.gcd_le_right (m:=Nat.gcd v.x.natAbs v.y.natAbs) (n:=Nat.gcd v.z.natAbs w.natAbs) h2;omega
theorem Aa1{x:Int}(h:Sm 1000000000000000000 x):W x=x:=E7 (by have:=h.1;omega) (by have:=h.2;omega)
theorem Sm.mono{n m x:Int}(h:Sm n x)(hn:n<=m):Sm m x:=⟨by have:=h.1;omega,by have:=h.2;omega⟩
theorem I4{n x g:Int}(h:Sm n x)(hg:0<g):Sm n (Int.tdiv x g):=by
 have h1:(Int.tdiv x g).natAbs<=x.natAbs:=by rw[Int.natAbs_tdiv];exact Nat.div_le_self _ _
 have:=h.1;have:=h.2
 constructor<;>omega
theorem Ed7{p q r:Pln}(hp:Bd p)(hq:Bd q)(hr:Bd r)(h:(mpt p q r).2=true):0<(mpt p q r).1.pw/\Sm 300000000000000 (mpt p q r).1.px/\Sm 300000000000000 (mpt p q r).1.py/\Sm 300000000000000 (mpt p q r).1.pz/\(mpt p q r).1.pw<=600000000000:=by
 have hw:=Qe2 hp hq hr;obtain⟨v1,v2,v3⟩:=Qe3 hp hq hr;have neg:∀{n x:Int},Sm n x->Sm n (-x):=λh=>⟨by have:=h.2;omega,by have:=h.1;omega⟩
 have pos:∀{x:Int},0<x->x.natAbs=(mw p q r).natAbs->0<Int.tdiv x (gc (mv p q r) (mw p q r)):=λ{x} hx he=>by
  have h0:mw p q r≠0:=by omega
  have h1:=ed7 (v:=mv p q r) h0;have h2:=Qe4 (v:=mv p q r) h0;rw[Int.tdiv_eq_ediv_of_nonneg (by omega)]
  exact Int.ediv_pos_of_pos_of_dvd hx (by omega) (by
   rw[<- Int.dvd_natAbs,he];exact Int.natCast_dvd_natCast.2 (Nat.dvd_trans (Nat.gcd_dvd_right _ _) (Nat.gcd_dvd_right _ _)))
 unfold mpt at h ⊢;by_cases h0:mw p q r=0
 ·rw[if_pos h0] at h;cases h
 ·rw[if_neg h0];have hg:=ed7 (v:=mv p q r) h0;by_cases h1:mw p q r<0
  ·rw[if_pos h1];exact⟨pos (by omega) (by omega),I4 (neg v1) hg,I4 (neg v2) hg,I4 (neg v3) hg,(I4 (neg hw) hg).2⟩
  ·rw[if_neg h1];exact⟨pos (by omega) rfl,I4 v1 hg,I4 v2 hg,I4 v3 hg,(I4 hw hg).2⟩
def inn(l:PLq)(x:Pt):Bool:=l.all λp=>!decide (rm p x<0)
theorem Be6(l:PLq)(x:Pt):inn l x=!l.any λp=>decide (rm p x<0):=by unfold inn;rw[List.not_any_eq_all_not]
theorem Qe5(l:PLq)(x:Pt)(hl:l.length<=1000000000):Ab1 l x=some (b (inn l x),[]):=by
 have h:=Pa2 (step:=Ka3 ⟨l,x.px,x.py,x.pz,x.pw⟩) (mk:=λj=>(⟨(j:Int)⟩:ga7)) (c:=λp=>decide (rm p x<0)) (u:=1) (fin:=2) tP l hl
  (λj hj=>by
   simp only[Ka3,Ra5,Int.toNat_natCast,Md5,n7 hj (by omega)]
   rw[bt (Cb5 hj),bt (g7 hj)])
  (by simp only[Ka3,Ra5];rw[bf (db1 (Qed _))]) 0 (Qee _)
 rw[Qic] at h;unfold Ab1;simp only[j9,i8,Be6];rw[show (⟨0⟩:ga7)=⟨((0:Nat):Int)⟩ from rfl,h]
 split
 ·rename_i h;rw[h];rfl
 ·rename_i h;rw[Bool.not_eq_true] at h;rw[h];rfl
theorem Kf2(l:PLq)(x:Pt)(hl:l.length<=1000000000):kb8 l x=inn l x:=by unfold kb8;rw[Qe5 l x hl];rfl
theorem Kf3(l:PLq)(x:Pt)(hl:l.length<=1000000000):kb9 l x=true:=by unfold kb9;rw[Qe5 l x hl];rfl
def eqX(x q:Pt):Bool:=q.px==x.px&&(q.py==x.py&&(q.pz==x.pz&&(q.pw==x.pw&&true)))
theorem Md6(x q:Pt):eqX x q=true↔q=x:=by
 unfold eqX;simp only[Qia,Qbd,beq_iff_eq];exact⟨λ⟨h1,h2,h3,h4⟩=>by cases q;cases x;simp_all,λh=>by subst h;exact⟨rfl,rfl,rfl,rfl⟩⟩
def Hc5(l:List Pt)(x:Pt):Bool:=l.any (eqX x)
theorem je1(l:List Pt)(x:Pt):Hc5 l x=true↔x∈l:=by
 unfold Hc5;rw[List.any_eq_true];exact⟨λ⟨q,h,e⟩=>(Md6 x q).1 e ▸ h,λh=>⟨x,h,(Md6 x x).2 rfl⟩⟩
theorem sd6(l:List Pt)(x:Pt)(hl:l.length<=1000000000):Ka4 l x=some (b (Hc5 l x),[]):=by
 have h:=Pa2 (step:=ma9 ⟨l,x.px,x.py,x.pz,x.pw⟩) (mk:=λj=>(⟨(j:Int)⟩:ga7)) (c:=eqX x) (u:=1) (fin:=2) tX l hl
  (λj hj=>by
   simp only[ma9,va5,Int.toNat_natCast,n7 hj (by omega)]
   rw[bt (Cb5 hj),bt (g7 hj)]
   rfl)
  (by simp only[ma9,va5];rw[bf (db1 (Qed _))]) 0 (Qee _)
 rw[Qic] at h;unfold Ka4;simp only[j9,i8];rw[show (⟨0⟩:ga7)=⟨((0:Nat):Int)⟩ from rfl,h]
 unfold Hc5;split
 ·rename_i h;rw[h];rfl
 ·rename_i h;rw[Bool.not_eq_true] at h;rw[h];rfl
theorem Be7(l:List Pt)(x:Pt)(hl:l.length<=1000000000):ya8 l x=Hc5 l x:=by unfold ya8;rw[sd6 l x hl];rfl
theorem Be8(l:List Pt)(x:Pt)(hl:l.length<=1000000000):ya9 l x=true:=by unfold ya9;rw[sd6 l x hl];rfl
def smb(n x:Int):Bool:=!decide (x < -n)&&!decide (x>n)
theorem wa7(n x:Int):smb n x=true↔Sm n x:=by unfold smb Sm;simp only[Qbd,Qdb,decide_eq_false_iff_not];omega
theorem Hc6(n:Int)(l:List Int)(hn:0<=n/\n<=1000000000)(hl:l.length<=1000000000):na2 n l=some (b (l.all (smb n)),[]):=by
 have hW:W (0-n)=-n:=by rw[E7 (by omega) (by omega)];omega
 have h:=Pa2 (step:=ba4 ⟨n,l,(l.length:Int)⟩) (mk:=λj=>(⟨(j:Int)⟩:E3)) (c:=λx=>!smb n x) (u:=1) (fin:=2) tI l hl
  (λj hj=>by
   simp only[ba4,ga8,Int.toNat_natCast,n7 hj (by omega),hW]
   rw[bt (Cb5 hj),bt (g7 hj)];unfold smb;cases decide (gL tI l j < -n)<;>cases decide (gL tI l j>n)<;>rfl)
  (by simp only[ba4,ga8];rw[bf (db1 (Qed _))]) 0 (Qee _)
 rw[Qic] at h;unfold na2;simp only[j9,i8];rw[show (⟨0⟩:E3)=⟨((0:Nat):Int)⟩ from rfl,h]
 have e:(l.any λx=>!smb n x)=!l.all (smb n):=by rw[Qih]
 rw[e];cases l.all (smb n)<;>rfl
theorem nb5(n:Int)(l:List Int)(hn:0<=n/\n<=1000000000)(hl:l.length<=1000000000):G6 n l=l.all (smb n):=by unfold G6;rw[Hc6 n l hn hl];rfl
theorem nb6(n:Int)(l:List Int)(hn:0<=n/\n<=1000000000)(hl:l.length<=1000000000):G7 n l=true:=by unfold G7;rw[Hc6 n l hn hl];rfl
theorem eb2{n:Int}(h:Sm 1000000000000000000 n):N2 n=(n.natAbs:Int):=by
 unfold N2;obtain⟨h1,h2⟩:=h;rw[E7 (by omega) (by omega)]
 split<;>omega
theorem Zb6{n:Int}(h:Sm 1000000000000000000 n):na0 n=some (i (n.natAbs:Int),[]):=by
 unfold na0;obtain⟨h1,h2⟩:=h;rw[E7 (by omega) (by omega)]
 by_cases h:n<0
 ·rw[bt (decide_eq_true h)];congr 3;omega
 ·rw[bf (decide_eq_false h)];congr 3;omega
theorem Db8{n:Int}(h:Sm 1000000000000000000 n):da6 n=(n.natAbs:Int):=by unfold da6;rw[Zb6 h];rfl
theorem Db9{n:Int}(h:Sm 1000000000000000000 n):da7 n=true:=by unfold da7;rw[Zb6 h];rfl
def g3(v:V3):Int:=(Nat.gcd (Nat.gcd v.x.natAbs v.y.natAbs) v.z.natAbs:Nat)
theorem je2(g n:Nat):eu (g:Int) (n:Int)=(Nat.gcd g n:Nat):=by rw[ie8 (by omega) (by omega)];rfl
theorem Oc6(P:Q8)(g n:Nat)(hn:n<=1000000000000000000):lp (N4 P) ⟨(g:Int),(n:Int)⟩=(1,⟨(Nat.gcd g n:Nat),0⟩):=by
 have:=nc7 (step:=N4 P) (mk:=λg n=>(⟨g,n⟩:F9)) (λg n h=>by
  have h0:n≠0:=by omega
  simp[N4,ca8,pb5,h,h0]) (λg=>by simp[N4,ca8,pb5]) (g:Int) (n:Int) (by omega) (by omega) (by omega)
 rw[this,je2]
theorem Hc7(l:List Int)(hl:l.length<=1000000000)(hb:∀x∈l,Sm 1000000000000000000 x):ia4 l=some (i (l.foldl (λg x=>Nat.gcd g x.natAbs) 0:Nat),[]):=by
 have h := Md3 (step := X2 ⟨(l.length : Int)⟩) (mk := fun j (a : Nat) => (⟨(a : Int), l, (j : Int)⟩ : B7)) (f := fun g x => Nat.gcd g x.natAbs) (fin := 2) tI l (fun _ _ => True) hl (fun j a hj _ => ⟨by
   have hm:=hb _ (Gc0 tI hj);have hne:(gL tI l j==(-9223372036854775808:Int))=false:=by
    have:=hm.1
    rw[beq_eq_false_iff_ne];omega
   have hs:(gL tI l j).natAbs<=1000000000000000000:=by obtain⟨h1,h2⟩:=hm;omega
   simp only[X2,ca9,Int.toNat_natCast,j9,i8,eb2 hm,Oc6 _ _ _ hs,n7 hj (by omega)]
   rw[bt (Cb5 hj),bt (g7 hj),bf hne]
   rfl,trivial⟩) (λa _=>by simp only[X2,ca9];rw[bf (db1 (Qed _))]) 0 (Qee _) 0 trivial
 have h:=h.1;rw[Qic] at h;unfold ia4;simp only[j9,i8];rw[show (⟨0,l,0⟩:B7)=⟨((0:Nat):Int),l,((0:Nat):Int)⟩ from rfl,h]
 rfl
def okp(p:Pln):Bool:=[p.n.x,p.n.y,p.n.z].all (smb 4608)&&(g3 p.n==1&&[p.b].all (smb 2097152))
theorem Ze1(p:Pln):Bd p↔[p.n.x,p.n.y,p.n.z].all (smb 4608)=true/\[p.b].all (smb 2097152)=true:=by
 simp only[List.all_cons,List.all_nil,Qia,Qbd,wa7,Sm];exact⟨λh=>⟨⟨⟨h.x1,h.x2⟩,⟨h.y1,h.y2⟩,h.z1,h.z2⟩,h.b1,h.b2⟩,λ⟨⟨⟨a,b⟩,⟨c,d⟩,e,f⟩,g,h⟩=>⟨a,b,c,d,e,f,g,h⟩⟩
theorem Ya9{p:Pln}(h:okp p=true):Bd p:=by
 unfold okp at h;rw[Qbd,Qbd] at h;exact (Ze1 p).2 ⟨h.1,h.2.2⟩
theorem sm3{v:V3}(h:[v.x,v.y,v.z].all (smb 4608)=true):Sm 4608 v.x/\Sm 4608 v.y/\Sm 4608 v.z:=by
 simpa only[List.all_cons,List.all_nil,Qia,Qbd,wa7] using h
theorem sd7(p:Pln):sa8 p=some (b (okp p),[]):=by
 unfold sa8 okp;have l3:[p.n.x,p.n.y,p.n.z].length<=1000000000:=by simp
 have l1:[p.b].length<=1000000000:=by simp
 simp only[nb5 4608 _ (by omega) l3,nb6 4608 _ (by omega) l3,nb5 2097152 _ (by omega) l1,nb6 2097152 _ (by omega) l1]
 cases hw:[p.n.x,p.n.y,p.n.z].all (smb 4608) with
 |false=>rfl
 |true =>
  obtain⟨h1,h2,h3⟩:=sm3 hw;have hd:=Hc7 [p.n.x,p.n.y,p.n.z] l3 (by
   intro x hx;simp only[Qbp,List.not_mem_nil,or_false] at hx
   rcases hx with rfl|rfl|rfl
   ·exact h1.mono (by omega)
   ·exact h2.mono (by omega)
   ·exact h3.mono (by omega))
  have hg:([p.n.x,p.n.y,p.n.z].foldl (λg x=>Nat.gcd g x.natAbs) 0:Nat)=Nat.gcd (Nat.gcd p.n.x.natAbs p.n.y.natAbs) p.n.z.natAbs:=by
   simp only[List.foldl_cons,List.foldl_nil,Nat.gcd_zero_left]
  have hp:S9 [p.n.x,p.n.y,p.n.z]=g3 p.n:=by unfold S9;rw[hd,hg];rfl
  have hgd:T0 [p.n.x,p.n.y,p.n.z]=true:=by unfold T0;rw[hd];rfl
  rw[hp,hgd];cases g3 p.n==1<;>rfl
theorem Md7(p:Pln):sa9 p=okp p:=by unfold sa9;rw[sd7 p];rfl
theorem Md8(p:Pln):ta0 p=true:=by unfold ta0;rw[sd7 p];rfl
theorem jc5(P:ba2)(g n:Nat)(hn:n<=1000000000000000000):lp (V0 P) ⟨(g:Int),(n:Int)⟩=(1,⟨(Nat.gcd g n:Nat),0⟩):=by
 have:=nc7 (step:=V0 P) (mk:=λg n=>(⟨g,n⟩:K9)) (λg n h=>by
  have h0:n≠0:=by omega
  simp[V0,Ba9,pb5,h,h0]) (λg=>by simp[V0,Ba9,pb5]) (g:Int) (n:Int) (by omega) (by omega) (by omega)
 rw[this,je2]
theorem ed8{v:V3}(h1:Sm 1000000000000000000 v.x)(h2:Sm 1000000000000000000 v.y)(h3:Sm 1000000000000000000 v.z) :
  Wa2 v=if g3 v=0 then some (.tup [.agg (tV.row ⟨0,0,0⟩),i 0],[]) else some (.tup [.agg (tV.row ⟨W (Int.tdiv v.x (g3 v)),W (Int.tdiv v.y (g3 v)),W (Int.tdiv v.z (g3 v))⟩),i (g3 v)],[]):=by
 have ne:∀{x:Int},Sm 1000000000000000000 x->(x==(-9223372036854775808:Int))=false:=λ{x} h=>by
  have:=h.1
  rw[beq_eq_false_iff_ne];omega
 have bd:∀{x:Int},Sm 1000000000000000000 x->x.natAbs<=1000000000000000000:=λ{x} h=>by obtain⟨h1,h2⟩:=h;omega
 have l1:=jc5 ⟨0,v.x,v.y,v.z,v.x,v.y,v.z⟩ 0 v.x.natAbs (bd h1);rw[Nat.gcd_zero_left] at l1;have l2:=jc5 ⟨1,v.x,v.y,v.z,v.x,v.y,v.z⟩ v.x.natAbs v.y.natAbs (bd h2);have l3:=jc5 ⟨2,v.x,v.y,v.z,v.x,v.y,v.z⟩ (Nat.gcd v.x.natAbs v.y.natAbs) v.z.natAbs (bd h3);unfold Wa2;simp only[Db8 h1,Db8 h2,Db8 h3,Db9 h1,Db9 h2,Db9 h3];rw[show (⟨0,(v.x.natAbs:Int)⟩:K9)=⟨((0:Nat):Int),(v.x.natAbs:Int)⟩ from rfl]
 simp only[l1,l2,l3,ne h1,ne h2,ne h3];rw[show ((Nat.gcd (Nat.gcd v.x.natAbs v.y.natAbs) v.z.natAbs:Nat):Int)=g3 v from rfl]
 by_cases h:g3 v=0
 ·rw[if_pos h,show (g3 v==0)=true from by rw[h];rfl];rfl
 ·rw[if_neg h,show (g3 v==0)=false from by rw[beq_eq_false_iff_ne];exact h];rfl
theorem Hc8{v:V3}(h1:Sm 1000000000000000000 v.x)(h2:Sm 1000000000000000000 v.y)(h3:Sm 1000000000000000000 v.z):(xa6 v).2=g3 v:=by
 unfold xa6;rw[ed8 h1 h2 h3];split
 ·rename_i h;rw[h];rfl
 ·rfl
theorem Ze2{v:V3}(h1:Sm 1000000000000000000 v.x)(h2:Sm 1000000000000000000 v.y)(h3:Sm 1000000000000000000 v.z)(h:g3 v≠0):xa6 v=(⟨W (Int.tdiv v.x (g3 v)),W (Int.tdiv v.y (g3 v)),W (Int.tdiv v.z (g3 v))⟩,g3 v):=by
 unfold xa6;rw[ed8 h1 h2 h3,if_neg h];rfl
theorem je3{v:V3}(h1:Sm 1000000000000000000 v.x)(h2:Sm 1000000000000000000 v.y)(h3:Sm 1000000000000000000 v.z):Wa3 v=true:=by
 unfold Wa3;rw[ed8 h1 h2 h3]
 split<;>rfl
theorem Vc0(p:Pln):Ka5 p=some (b (okp p),[]):=by
 unfold Ka5 okp;cases hw:[p.n.x,p.n.y,p.n.z].all (smb 4608) with
 |false =>
  simp only[List.all_cons,List.all_nil,Qia,smb] at hw;cases h1:decide (p.n.x < -4608)<;>cases h2:decide (p.n.x>4608)<;>cases h3:decide (p.n.y < -4608)<;>cases h4:decide (p.n.y>4608)<;>cases h5:decide (p.n.z < -4608)<;>cases h6:decide (p.n.z>4608)<;>simp only[h1,h2,h3,h4,h5,h6] at hw ⊢<;>first | rfl | cases hw
 |true =>
  obtain⟨h1,h2,h3⟩:=sm3 hw;rw[bf (decide_eq_false (by have:=h1.1;omega)),bf (decide_eq_false (by have:=h1.2;omega)),bf (decide_eq_false (by have:=h2.1;omega)),bf (decide_eq_false (by have:=h2.2;omega)),bf (decide_eq_false (by have:=h3.1;omega)),bf (decide_eq_false (by have:=h3.2;omega))]
  have k1:=h1.mono (m:=1000000000000000000) (by omega)
  have k2:=h2.mono (m:=1000000000000000000) (by omega)
  have k3:=h3.mono (m:=1000000000000000000) (by omega)
  rw[bt (je3 k1 k2 k3),Hc8 k1 k2 k3];cases g3 p.n==1 with
  |false=>rfl
  |true =>
   simp only[List.all_cons,List.all_nil,Qia,smb,Qik];rw[l0];by_cases ha:p.b < -2097152
   ·rw[bf (decide_eq_false (by omega)),show decide (p.b < -2097152)=true from decide_eq_true ha];rfl
   ·rw[bt (decide_eq_true (by omega)),show decide (p.b < -2097152)=false from decide_eq_false ha]
    congr 3;by_cases hc:p.b<=2097152
    ·rw[decide_eq_true hc,decide_eq_false (by omega)];rfl
    ·rw[decide_eq_false hc,decide_eq_true (by omega)];rfl
theorem sd8(p:Pln):Ka6 p=okp p:=by unfold Ka6;rw[Vc0 p];rfl
theorem Hc9(p:Pln):Ka7 p=true:=by unfold Ka7;rw[Vc0 p];rfl
def chk(l:PLq):Int:=if (l.length:Int)>48 then 2 else if l.all okp then 0 else 12
theorem Vc1(l:PLq)(hl:l.length<=1000000000):Ka8 l=some (i (chk l),[]):=by
 have h:=Pa2 (step:=na1 ⟨l⟩) (mk:=λj=>(⟨(j:Int)⟩:N8)) (c:=λp=>!okp p) (u:=1) (fin:=2) tP l hl
  (λj hj=>by
   simp only[na1,va6,Int.toNat_natCast,sd8,Hc9,n7 hj (by omega)]
   rw[bt (Cb5 hj),bt (g7 hj),l0])
  (by simp only[na1,va6];rw[bf (db1 (Qed _))]) 0 (Qee _)
 rw[Qic] at h;have e:(l.any λx=>!okp x)=!l.all okp:=by rw[Qih]
 unfold Ka8 chk;simp only[j9,i8];rw[show (⟨0⟩:N8)=⟨((0:Nat):Int)⟩ from rfl,h,e]
 by_cases hn:(l.length:Int)>48
 ·rw[bt (decide_eq_true hn),if_pos hn]
 ·rw[bf (decide_eq_false hn),if_neg hn];cases l.all okp<;>rfl
theorem je4(l:PLq)(hl:l.length<=1000000000):cb3 l=chk l:=by unfold cb3;rw[Vc1 l hl];rfl
theorem je5(l:PLq)(hl:l.length<=1000000000):cb4 l=true:=by unfold cb4;rw[Vc1 l hl];rfl
theorem sd9{l:PLq}:chk l=0↔l.length<=48/\∀p∈l,okp p=true:=by
 unfold chk;by_cases hn:(l.length:Int)>48
 ·rw[if_pos hn];exact⟨λh=>absurd h (by decide),λh=>by omega⟩
 ·rw[if_neg hn];cases h:l.all okp with
  |true=>exact⟨λ_=>⟨by omega,Qcf.1 h⟩,λ_=>rfl⟩
  |false=>exact⟨λh=>absurd h (by decide),λh'=>by rw[Qcf.2 h'.2] at h;cases h⟩
theorem btD{p:Prop}{inst:Decidable p}(h:p){α:Type}(t e:α):sl (@decide p inst) t e=t:=bt (decide_eq_true h) t e
theorem bfD{p:Prop}{inst:Decidable p}(h:¬ p){α:Type}(t e:α):sl (@decide p inst) t e=e:=bf (decide_eq_false h) t e
theorem k8{j n:Nat}(h:j<n):(j:Int)<(n:Int):=Qig.2 h
theorem n9{j n:Nat}(h:¬ j<n):¬ (j:Int)<(n:Int):=λh'=>h (Qig.1 h')
theorem Ic0{σ τ α:Type}{step:σ->Stp σ}{mk:Nat->τ->σ}{f:α->List α->τ->τ}{g:List α->τ->τ}{fin:τ->Nat}(l:List α)(I:Nat->τ->Prop)(hl:l.length<=1000000000)
  (g0:∀a,g [] a=a) (g1:∀x r a,g (x::r) a=g r (f x r a))
  (h:∀j a (hj:j<l.length),I j a->step (mk j a)=.next (mk (j+1) (f l[j] (l.drop (j+1)) a))/\I (j+1) (f l[j] (l.drop (j+1)) a))
  (hf:∀j a,l.length<=j->I j a->step (mk j a)=.exit (fin a)) (j0:Nat) (a:τ) (hi:I j0 a) :
  lp step (mk j0 a)=(fin (g (l.drop j0) a),mk (max j0 l.length) (g (l.drop j0) a))/\I (max j0 l.length) (g (l.drop j0) a):=by
 have key:=Cb6 (step:=step) (I:=λm s=>∃j b,m=l.length-j/\max j l.length=max j0 l.length/\s=mk j b/\I j b/\g (l.drop j) b=g (l.drop j0) a)
  (Q:=λu s=>u=fin (g (l.drop j0) a)/\s=mk (max j0 l.length) (g (l.drop j0) a)/\I (max j0 l.length) (g (l.drop j0) a)) (λm s ⟨j,b,hm,hj,hs,hb,he⟩=>by
   subst hs;by_cases hlt:j<l.length
   ·obtain⟨h1,h2⟩:=h j b hlt hb;refine .inr ⟨_,l.length-(j+1),by omega,h1,j+1,_,rfl,by omega,rfl,h2,?_⟩
    rw[<- he,Qid hlt,g1]
   ·have hd:l.drop j=[]:=List.drop_eq_nil_of_le (by omega)
    rw[hd,g0] at he;have hj':j=max j0 l.length:=by omega
    subst he;rw[<- hj'];exact .inl ⟨_,hf j _ (by omega) hb,rfl,rfl,hb⟩) (l.length-j0) (mk j0 a) (by omega) ⟨j0,a,rfl,rfl,rfl,hi,rfl⟩
 exact⟨Prod.ext key.1 key.2.1,key.2.2⟩
def Fa4(r:PLq)(p q:Pln)(out:List Pt)(s:Pln):List Pt :=
 if (mpt p q s).2&&(!Hc5 out (mpt p q s).1&&inn r (mpt p q s).1) then out++[(mpt p q s).1] else out
def Eb0(r:PLq)(p q:Pln)(l:PLq)(out:List Pt):List Pt:=l.foldl (Fa4 r p q) out
def jb2(r:PLq)(p:Pln):PLq->List Pt->List Pt
 |[],out=>out
 |q::l,out=>jb2 r p l (Eb0 r p q l out)
def jc6(r:PLq):PLq->List Pt->List Pt
 |[],out=>out
 |p::l,out=>jc6 r l (jb2 r p l out)
def cor(r:PLq):List Pt:=jc6 r r []
def Bds(r:PLq):Prop:=∀p∈r,Bd p
theorem Vc2(r:PLq)(p q:Pln)(out:List Pt)(s:Pln):(Fa4 r p q out s).length<=out.length+1:=by
 unfold Fa4;split
 ·simp
 ·omega
theorem Ic1(r:PLq)(p q:Pln):∀(l:PLq) (out:List Pt),(Eb0 r p q l out).length<=out.length+l.length
 |[],out=>Qac _
 |s::l,out=>by
  have h1:=Vc2 r p q out s;have h2:=Ic1 r p q l (Fa4 r p q out s);show (Eb0 r p q l (Fa4 r p q out s)).length<=_;simp only[List.length_cons];omega
theorem td0(r:PLq)(p:Pln):∀(l:PLq) (out:List Pt),l.length<=200->(jb2 r p l out).length<=out.length+200*l.length
 |[],out,_=>by simp[jb2]
 |q::l,out,h=>by
  simp only[List.length_cons] at h ⊢;have h1:=Ic1 r p q l out;have h2:=td0 r p l (Eb0 r p q l out) (by omega)
  show (jb2 r p l (Eb0 r p q l out)).length<=_;omega
theorem td1(r:PLq):∀(l:PLq) (out:List Pt),l.length<=200->(jc6 r l out).length<=out.length+40000*l.length
 |[],out,_=>by simp[jc6]
 |p::l,out,h=>by
  simp only[List.length_cons] at h ⊢;have h1:=td0 r p l out (by omega)
  have h2:=td1 r l (jb2 r p l out) (by omega)
  show (jc6 r l (jb2 r p l out)).length<=_;omega
theorem Be9(r:PLq)(_:Bds r)(hr:r.length<=200):(cor r).length<=8000000:=by
 have:=td1 r r [] hr
 rw[List.length_nil] at this;show (jc6 r r []).length<=_;omega
def ph(out:List Pt):Nat:=match out with
 |[]=>0
 |_::_=>1
theorem je6(x:Pt):Hc5 [] x=false:=rfl
theorem ed9{α:Type}(t:Ty α)(l:List α)(n k:Nat):gL t (l.drop n) k=gL t l (n+k):=by simp[gL,Qda,Qbj]
theorem je7{n:Nat}{l:List Pt}(hn:n=l.length)(h:l.length<=1000000000):(Nat.beq n (len (bL tX l))&&Nat.ble ((n+1)*32) room)=true:=by
 subst hn;rw[S7,Qib,Qik];exact da0 (by omega)
theorem Ce0(l:List Pt)(x:Pt):app (bL tX l) [[i x.px,i x.py,i x.pz,i x.pw]]=bL tX (l++[x]):=xa2 tX l [x]
@[reducible] noncomputable def Jb4(k:Nat)(out:List Pt):o6:=⟨ph out,(k:Int),out.length,bL tX out⟩
theorem Ze3(r:PLq)(a c k:Nat)(out:List Pt)(hk:r.length<=k):I6 ⟨r,a,c⟩ (Jb4 k out)=.exit (ph out+1):=by
 unfold I6;have this:¬ ((k:Int)<(r.length:Int)):=by omega
 cases out with
 |nil =>
  show Q1 Stp.next Stp.exit Stp.fail _ (Jb4 k [])=_;simp only[Q1,Jb4];rw[bfD this];rfl
 |cons o os =>
  show Q3 Stp.next Stp.exit Stp.fail _ (Jb4 k (o::os))=_;simp only[Q3,Jb4];rw[bfD this];rfl
@[reducible] noncomputable def Jb5(r:PLq)(j:Nat)(out:List Pt):p6:=⟨ph out,r,(j:Int),out.length,bL tX out⟩
theorem Ze4(r:PLq)(a j:Nat)(out:List Pt)(hj:r.length<=j):E2 ⟨a⟩ (Jb5 r j out)=.exit (ph out+1):=by
 unfold E2;have this:¬ ((j:Int)<(r.length:Int)):=by omega
 cases out with
 |nil =>
  show Q4 Stp.next Stp.exit Stp.fail _ (Jb5 r j [])=_;simp only[Q4,Jb5];rw[bfD this];rfl
 |cons o os =>
  show Q5 Stp.next Stp.exit Stp.fail _ (Jb5 r j (o::os))=_;simp only[Q5,Jb5];rw[bfD this];rfl
@[reducible] noncomputable def Rb6(r:PLq)(j:Nat)(out:List Pt):s6:=⟨ph out,r,(j:Int),out.length,bL tX out⟩
theorem Ze5(r:PLq)(j:Nat)(out:List Pt)(hj:r.length<=j):I7 ⟨⟩ (Rb6 r j out)=.exit (ph out+1):=by
 unfold I7;have this:¬ ((j:Int)<(r.length:Int)):=by omega
 cases out with
 |nil =>
  show Q6 Stp.next Stp.exit Stp.fail _ (Rb6 r j [])=_;simp only[Q6,Rb6];rw[bfD this];rfl
 |cons o os =>
  show Q7 Stp.next Stp.exit Stp.fail _ (Rb6 r j (o::os))=_;simp only[Q7,Rb6];rw[bfD this];rfl
theorem Ta9{ρ:Type}(R:RR ρ){x:b9×List c7}{r:ρ}(h:R.rd x=some r):F6 R (some x)=r:=by
 show Option.rec (motive:=λ_=>ρ) R.d (λx=>x) (R.rd x)=r
 rw[h]
theorem nb7{ρ:Type}(R:RR ρ){x:b9×List c7}{r:ρ}(h:R.rd x=some r):okO R (some x)=true:=by
 show Option.rec (motive:=λ_=>Bool) false (λ_=>true) (R.rd x)=true
 rw[h]
@[reducible] noncomputable def flK:List (Nat×CK):=[(0,.int .i64),(1,.int .i64),(2,.int .i64),(3,.int .i64)]
theorem Ze6(s:Pln):((Nat.ble 4 (len (tP.row s)))&&(ma4 [CK.int .i64,CK.int .i64,CK.int .i64,CK.int .i64] (tP.row s)))=true:=rfl
def slP(l:PLq):b9×List c7:=(.sl 0 0 l.length 0,[⟨66,4,bL tP l,true,false,0⟩])
theorem Ic2(l:PLq):(one (r1L tP)).rd (slP l)=some l:=by
 show Bool.rec (motive:=λ_=>Option PLq) none (some (slR tP (bL tP l) 0 l.length)) (Bool.and true (okS tP (bL tP l) 0 l.length))=_
 rw[Va3,fb3];rfl
theorem je8{α:Type}(t:Ty α)(l:List α):(one (r1L t)).rd (eL t l,[])=some l:=by
 show Bool.rec (motive:=λ_=>Option (List α)) none (some (rt t l)) (Bool.and (Nat.beq t.es t.es) (okE t l))=_
 rw[j9,O7,Qib];rfl
def ws:PLq:=[⟨⟨1,0,0⟩,24⟩,⟨⟨-1,0,0⟩,24⟩,⟨⟨0,1,0⟩,24⟩,⟨⟨0,-1,0⟩,24⟩,⟨⟨0,0,1⟩,24⟩,⟨⟨0,0,-1⟩,24⟩]
theorem vf1:Bds ws:=by
 intro p hp
 have:okp p=true:=by
  have h:ws.all okp=true:=by decide
  exact Qcf.1 h p hp
 exact Ya9 this
def Rb7(lo hi:V3):PLq:=[⟨⟨1,0,0⟩,hi.x⟩,⟨⟨-1,0,0⟩,W (0-lo.x)⟩,⟨⟨0,1,0⟩,hi.y⟩,⟨⟨0,-1,0⟩,W (0-lo.y)⟩,⟨⟨0,0,1⟩,hi.z⟩,⟨⟨0,0,-1⟩,W (0-lo.z)⟩]
theorem je9(lo hi:V3):Gb9 lo hi=some (slP (Rb7 lo hi)):=rfl
theorem ke0(lo hi:V3):lb0 lo hi=Rb7 lo hi:=by unfold lb0;rw[je9];exact Ta9 _ (Ic2 _)
theorem ke1(lo hi:V3):lb1 lo hi=true:=by unfold lb1;rw[je9];exact nb7 _ (Ic2 _)
theorem Ze7:Rb7 ⟨-24,-24,-24⟩ ⟨24,24,24⟩=ws:=by
 simp only[Rb7,ws];rw[show W (0 - -24)=24 from by rw[ie5];rfl]
theorem Ce1{l:PLq}:Nat.beq (len (bL tP l)) 0=l.isEmpty:=by rw[S7];cases l<;>rfl
theorem ke2(c:PLq)(hc:c.length<=1000000000):lb2 c=some (slP (c++ws)):=by
 unfold lb2;simp only[kb1,ke0,ke1,Ze7,Ce1];have h6:(0+len (bL tP c))=c.length:=by rw[S7];omega
 have hw:len (bL tP ws)=6:=rfl;rw[h6,hw];have e1:Nat.ble (c.length*32) room=true:=da0 (by omega)
 have e2:Nat.ble ((c.length+6)*32) room=true:=da0 (by omega)
 have e3:app (app [] (bL tP c)) (bL tP ws)=bL tP (c++ws):=xa2 tP c ws;have e4:Nat.beq c.length (len (app [] (bL tP c)))=true:=by
  rw[show app [] (bL tP c)=bL tP c from rfl,S7,Qib]
 rw[e1,e2,e3,e4];cases c with
 |nil=>rfl
 |cons p c =>
  show some (b9.sl 0 0 ((p::c).length+6) 0,[(⟨66,4,bL tP (p::c++ws),true,false,0⟩:c7)])=_;unfold slP;rw[Qea];rfl
theorem vf2(c:PLq)(hc:c.length<=1000000000):Hb0 c=c++ws:=by unfold Hb0;rw[ke2 c hc];exact Ta9 _ (Ic2 _)
theorem vf3(c:PLq)(hc:c.length<=1000000000):Hb1 c=true:=by unfold Hb1;rw[ke2 c hc];exact nb7 _ (Ic2 _)
def pos(X:List Pt)(p:Pln):Bool:=X.any λx=>decide (rm p x>0)
def Ed8(r:PLq):Bool:=r.all (pos (cor r))
theorem Ed9(r:PLq)(X:List Pt)(hr:r.length<=200)(hX:X.length<=1000000000)(a:Nat)(ha:a<r.length):∃m,lp (ja8 ⟨r,X,(a:Int)⟩) ⟨false,0⟩=(1,⟨pos X r[a],m⟩):=by
 have h:=Md3 (step:=ja8 ⟨r,X,(a:Int)⟩) (mk:=λj (c:Bool)=>(⟨c,(j:Int)⟩:ba3)) (f:=λc x=>c||decide (rm r[a] x>0)) (fin:=1) tX X (λ_ _=>True) hX
  (λj c hj _=>⟨by
   simp only[ja8,Ca1,Int.toNat_natCast,Md5,n7 hj (by omega),La6 tP ha,g7 ha,g7 hj]
   rw[btD (k8 hj)];cases c<;>rfl,trivial⟩)
  (λc _=>by simp only[ja8,Ca1];rw[bfD (n9 (Qed _))]) 0 (Qee _) false trivial
 have h:=h.1;rw[Qic] at h;have e:∀(l:List Pt) (c:Bool),l.foldl (λc x=>c||decide (rm r[a] x>0)) c=(c||l.any λx=>decide (rm r[a] x>0)):=by
  intro l
  induction l with
  |nil=>intro c;simp
  |cons x l ih=>intro c;rw[List.foldl_cons,ih,List.any_cons,Bool.or_assoc]
 rw[e,Bool.false_or] at h;exact⟨_,h⟩
theorem fd0{c:PLq}(h:(chk c==0)=true):Bds (c++ws)/\(c++ws).length<=200:=by
 rw[beq_iff_eq,sd9] at h;refine⟨λp hp=>?_,by rw[Qea,show ws.length=6 from rfl];omega⟩
 rcases Qii.1 hp with hp|hp
 ·exact Ya9 (h.2 p hp)
 ·exact vf1 p hp
def ful(c:PLq):Bool:=(chk c==0)&&Ed8 (c++ws)
theorem td2{Q:Pt->Prop}(r:PLq)(p q:Pln):∀(l:PLq) (out:List Pt),(∀s∈l,(mpt p q s).2=true->inn r (mpt p q s).1=true->Q (mpt p q s).1)->(∀x∈out,Q x)->∀x∈Eb0 r p q l out,Q x
 |[],out,_,h=>h
 |s::l,out,hs,h=>td2 r p q l (Fa4 r p q out s) (λt ht=>hs t (Qcn _ ht)) λx hx=>by
  unfold Fa4 at hx
  split at hx
  ·rename_i hc;rw[Qbd,Qbd] at hc
   rcases Qii.1 hx with hx|hx
   ·exact h x hx
   ·rw[List.mem_singleton] at hx;subst hx;exact hs s Qck hc.1 hc.2.2
  ·exact h x hx
theorem td3{Q:Pt->Prop}(r:PLq)(p:Pln):∀(l:PLq) (out:List Pt),(∀q∈l,∀s∈l,(mpt p q s).2=true->inn r (mpt p q s).1=true->Q (mpt p q s).1)->(∀x∈out,Q x)->∀x∈jb2 r p l out,Q x
 |[],out,_,h=>h
 |q::l,out,hs,h=>td3 r p l _ (λa ha t ht=>hs a (Qcn _ ha) t (Qcn _ ht)) (td2 r p q l out (λt ht=>hs q Qck t (Qcn _ ht)) h)
theorem td4{Q:Pt->Prop}(r:PLq):∀(l:PLq) (out:List Pt),(∀p∈l,∀q∈l,∀s∈l,(mpt p q s).2=true->inn r (mpt p q s).1=true->Q (mpt p q s).1)->(∀x∈out,Q x)->∀x∈jc6 r l out,Q x
 |[],out,_,h=>h
 |p::l,out,hs,h=>td4 r l _ (λa ha c hc t ht=>hs a (Qcn _ ha) c (Qcn _ hc) t (Qcn _ ht)) (td3 r p l out (λc hc t ht=>hs p Qck c (Qcn _ hc) t (Qcn _ ht)) h)
theorem Md9{Q:Pt->Prop}{r:PLq}(hs:∀p∈r,∀q∈r,∀s∈r,(mpt p q s).2=true->inn r (mpt p q s).1=true->Q (mpt p q s).1):∀x∈cor r,Q x :=
 td4 r r [] hs λx hx=>by cases hx
structure Okx(x:Pt):Prop where
 w1:0<x.pw
 w2:x.pw<=600000000000
 c1:Sm 300000000000000 x.px
 c2:Sm 300000000000000 x.py
 c3:Sm 300000000000000 x.pz
theorem fd1{r:PLq}(hb:Bds r):∀x∈cor r,Okx x:=Md9 λp hp q hq s hs h _=>by
 obtain⟨h1,h2,h3,h4,h5⟩:=Ed7 (hb p hp) (hb q hq) (hb s hs) h;exact⟨h1,h5,h2,h3,h4⟩
theorem ke3{x y:Int}(hy:0<y):Int.tmod x y+y*Int.tdiv x y=x/\-y<Int.tmod x y/\Int.tmod x y<y:=by
 refine⟨Int.tmod_add_mul_tdiv x y,?_,Int.tmod_lt_of_pos x hy⟩
 have:=Int.lt_tmod_of_pos x hy
 omega
theorem ke4(x:Int){y:Int}(hy:0<y)(hy2:y<=4000000000000000000):lb3 x y=some (i (x % y),[]):=by
 have hz:(y==0)=false:=by rw[beq_eq_false_iff_ne];omega
 obtain⟨h1,h2,h3⟩:=ke3 (x:=x) hy;unfold lb3;rw[bfD (by omega),bf hz,bf hz,E7 (by omega) (by omega),Int.tmod_eq_emod_of_nonneg (by omega)]
 congr 3;rw[Int.add_emod_right]
 conv=>rhs;rw[<- h1]
 rw[Int.add_mul_emod_self_left]
theorem vf4(x:Int){y:Int}(hy:0<y)(hy2:y<=4000000000000000000):lb4 x y=x % y:=by unfold lb4;rw[ke4 x hy hy2];rfl
theorem Nd0(x:Int){y:Int}(hy:0<y)(hy2:y<=4000000000000000000):lb5 x y=true:=by unfold lb5;rw[ke4 x hy hy2];rfl
theorem Sm.neg{n x:Int}(h:Sm n x):Sm n (-x):=⟨by have:=h.2;omega,by have:=h.1;omega⟩
theorem ke5(x:Pln):(x.n.x==x.n.x&&(x.n.y==x.n.y&&(x.n.z==x.n.z&&(x.b==x.b&&true))))=true:=by simp
theorem Nd1(l:PLq)(hl:l.length<=1000000000):Xa2 l l=some (b true,[]):=by
 have h:=Pa2 (step:=ta5 ⟨l,l⟩) (mk:=λj=>(⟨(j:Int)⟩:ga7)) (c:=λ_=>false) (u:=1) (fin:=2) tP l hl
  (λj hj=>by
   simp only[ta5,Da2,Int.toNat_natCast,n7 hj (by omega),ke5]
   rw[btD (k8 hj),bt (g7 hj),bt (g7 hj)]
   rfl)
  (by simp only[ta5,Da2];rw[bfD (n9 (Qed _))]) 0 (Qee _)
 rw[Qic,show (l.any λ_=>false)=false by simp] at h
 unfold Xa2;simp only[j9,i8];rw[show (⟨0⟩:ga7)=⟨((0:Nat):Int)⟩ from rfl,h,bf (by simp)]
 rfl
theorem Ze8(l:PLq)(hl:l.length<=1000000000):rb6 l l=true:=by unfold rb6;rw[Nd1 l hl];rfl
theorem Ze9(l:PLq)(hl:l.length<=1000000000):rb7 l l=true:=by unfold rb7;rw[Nd1 l hl];rfl
def Nx{σ:Type}(x:Stp σ)(E:Nat->Prop)(N:σ->Prop):Prop:=(∃t,x=.exit t/\E t)\/∃s,x=.next s/\N s
theorem Nx.sl{σ:Type}{c:Bool}{t e:Stp σ}{E:Nat->Prop}{N:σ->Prop}(h1:c=true->Nx t E N)(h2:c=false->Nx e E N):Nx (sl c t e) E N:=by cases c;exact h2 rfl;exact h1 rfl
theorem Nx.ex{σ:Type}{t:Nat}{E:Nat->Prop}{N:σ->Prop}(h:E t):Nx (.exit t) E N:=.inl ⟨t,rfl,h⟩
theorem Nx.nx{σ:Type}{s:σ}{E:Nat->Prop}{N:σ->Prop}(h:N s):Nx (.next s) E N:=.inr ⟨s,rfl,h⟩
theorem L7{σ τ:Type}{step:σ->Stp σ}{mk:Nat->τ->σ}(n:Nat)(I:Nat->τ->Prop)(E:Nat->σ->Prop)(hn:n<=1000000000)
  (h:∀j a,j<n->I j a->Nx (step (mk j a)) (λt=>E t (mk j a)) (λs=>∃a',s=mk (j+1) a'/\I (j+1) a'))
  (hf:∀j a,n<=j->I j a->∃t,step (mk j a)=.exit t/\E t (mk j a)) (j0:Nat) (a:τ) (hi:I j0 a):∃t s,lp step (mk j0 a)=(t,s)/\E t s:=by
 have key:=Cb6 (step:=step) (I:=λm s=>∃j a,m=n-j/\s=mk j a/\I j a) (Q:=E) (λm s ⟨j,a,hm,hs,ha⟩=>by
  subst hs;by_cases hlt:j<n
  ·rcases h j a hlt ha with h1|⟨s',h1,a',h2,h3⟩
   ·exact .inl h1
   ·subst h2;exact .inr ⟨_,n-(j+1),by omega,h1,j+1,a',rfl,rfl,h3⟩
  ·exact .inl (hf j a (by omega) ha)) (n-j0) (mk j0 a) (by omega) ⟨j0,a,rfl,rfl,hi⟩
 exact⟨_,_,rfl,key⟩
def Rd{ρ:Type}(R:RR ρ)(o:ROq)(P:ρ->Prop):Prop:=∃x r,o=some x/\R.rd x=some r/\P r
theorem Rd.p{ρ:Type}{R:RR ρ}{o:ROq}{P:ρ->Prop}(h:Rd R o P):P (F6 R o):=by
 obtain⟨x,r,h1,h2,h3⟩:=h;rw[h1,Ta9 R h2];exact h3
theorem Rd.g{ρ:Type}{R:RR ρ}{o:ROq}{P:ρ->Prop}(h:Rd R o P):okO R o=true:=by
 obtain⟨x,r,h1,h2,h3⟩:=h;rw[h1];exact nb7 R h2
theorem Rd.sl{ρ:Type}{R:RR ρ}{c:Bool}{t e:ROq}{P:ρ->Prop}(h1:c=true->Rd R t P)(h2:c=false->Rd R e P):Rd R (sl c t e) P:=by cases c;exact h2 rfl;exact h1 rfl
theorem M9(n:Int)(l:List Int)(j:Int)(h1:0<=j)(h2:j<=1000000)(hn:0<n)(hn2:n<=1000000) :
  ∃v j',l7 ⟨n,l,j⟩=⟨1,v,j'⟩/\0<=v/\v<n/\j<=j'/\j'<=j+1:=by
 unfold l7 Oa3
 simp only
 by_cases h:j>=(l.length:Int)
 ·rw[btD h];exact⟨0,j,rfl,by omega,hn,by omega,by omega⟩
 ·rw[bfD h];have hW:W (W (j+1)-1)=j:=by rw[ed3,E7 (by omega) (by omega)];omega
  have hW2:W (j+1)=j+1:=E7 (by omega) (by omega)
  have hin:inB j l.length=true:=by rw[ed4];exact decide_eq_true (by omega)
  rw[hW,hW2,hin,Nd0 _ hn (by omega),vf4 _ hn (by omega)]
  exact⟨_,_,rfl,Int.emod_nonneg _ (by omega),Int.emod_lt_of_pos _ hn,by omega,by omega⟩
theorem Za0(m:Int)(l:List Int)(j:Int)(h1:0<=j)(h2:j<=900000)(hm:0<=m)(hm2:m<=100000) :
  ∃a b c j',Ha5 ⟨m,l,j⟩=⟨1,a,b,c,l,j'⟩/\Sm m a/\Sm m b/\Sm m c/\j<=j'/\j'<=j+3:=by
 unfold Ha5 gc1;simp only[j9,i8];have hW:W (W (2*m)+1)=2*m+1:=by rw[ib2,E7 (by omega) (by omega)]
 rw[hW];obtain⟨v1,j1,e1,a1,b1,c1,d1⟩:=M9 (2*m+1) l j h1 (by omega) (by omega) (by omega)
 rw[e1];obtain⟨v2,j2,e2,a2,b2,c2,d2⟩:=M9 (2*m+1) l j1 (by omega) (by omega) (by omega) (by omega)
 simp only
 rw[e2];obtain⟨v3,j3,e3,a3,b3,c3,d3⟩:=M9 (2*m+1) l j2 (by omega) (by omega) (by omega) (by omega)
 simp only
 rw[e3];refine⟨v1-m,v2-m,v3-m,j3,?_,⟨by omega,by omega⟩,⟨by omega,by omega⟩,⟨by omega,by omega⟩,by omega,by omega⟩
 simp only
 rw[E7 (n:=v1-m) (by omega) (by omega),E7 (n:=v2-m) (by omega) (by omega),E7 (n:=v3-m) (by omega) (by omega)]
 rfl
def inV(v:V3):Bool:=smb 24 v.x&&(smb 24 v.y&&smb 24 v.z)
theorem eb3(v:V3):inV v=true↔Sm 24 v.x/\Sm 24 v.y/\Sm 24 v.z:=by unfold inV;rw[Qbd,Qbd,wa7,wa7,wa7]
theorem ke6(v:V3):Bb2 v=some (b (inV v),[]):=by
 unfold Bb2 inV smb;cases h1:decide (v.x < -24)<;>cases h2:decide (v.x>24)<;>cases h3:decide (v.y < -24)<;>cases h4:decide (v.y>24)<;>cases h5:decide (v.z < -24)<;>cases h6:decide (v.z>24)<;>rfl
theorem Nd2(v:V3):Ka9 v=inV v:=by unfold Ka9;rw[ke6];rfl
theorem td5(v:V3):La0 v=true:=by unfold La0;rw[ke6];rfl
def sub(a b:V3):V3:=⟨a.x-b.x,a.y-b.y,a.z-b.z⟩
theorem Nd3{a b:V3}(ha:inV a=true)(hb:inV b=true):qa6 a b=sub a b/\Sm 48 (sub a b).x/\Sm 48 (sub a b).y/\Sm 48 (sub a b).z:=by
 rw[eb3] at ha hb;obtain⟨⟨a1,a2⟩,⟨a3,a4⟩,a5,a6⟩:=ha;obtain⟨⟨b1,b2⟩,⟨b3,b4⟩,b5,b6⟩:=hb;unfold qa6 sub;rw[E7 (by omega) (by omega),E7 (by omega) (by omega),E7 (by omega) (by omega)]
 exact⟨rfl,⟨by show _<=a.x-b.x;omega,by show a.x-b.x<=_;omega⟩,⟨by show _<=a.y-b.y;omega,by show a.y-b.y<=_;omega⟩,⟨by show _<=a.z-b.z;omega,by show a.z-b.z<=_;omega⟩⟩
theorem jb3{a b c:V3}(ha:inV a=true)(hb:inV b=true)(hc:inV c=true) :
  M2 (qa6 b a) (qa6 c a)=d9 (sub b a) (sub c a)/\Sm 4608 (d9 (sub b a) (sub c a)).x/\Sm 4608 (d9 (sub b a) (sub c a)).y/\Sm 4608 (d9 (sub b a) (sub c a)).z:=by
 obtain⟨e1,⟨u1,u2⟩,⟨u3,u4⟩,u5,u6⟩:=Nd3 hb ha;obtain⟨e2,⟨v1,v2⟩,⟨v3,v4⟩,v5,v6⟩:=Nd3 hc ha;rw[e1,e2,Zb5];generalize sub b a=p at *
 generalize sub c a=q at *
 have h1:=mb u3 u4 v5 v6;have h2:=mb u5 u6 v3 v4;have h3:=mb u5 u6 v1 v2;have h4:=mb u1 u2 v5 v6;have h5:=mb u1 u2 v3 v4;have h6:=mb u3 u4 v1 v2;have k:Sm 4608 (d9 p q).x/\Sm 4608 (d9 p q).y/\Sm 4608 (d9 p q).z:=by unfold Sm d9;simp only;omega
 obtain⟨k1,k2,k3⟩:=k;rw[Aa1 (k1.mono (by omega)),Aa1 (k2.mono (by omega)),Aa1 (k3.mono (by omega))]
 exact⟨rfl,k1,k2,k3⟩
def u9(a b c:V3):Pln×Bool :=
 if inV a&&(inV b&&inV c) then
  if g3 (d9 (sub b a) (sub c a))=0 then (⟨⟨0,0,0⟩,0⟩,false)
  else (⟨⟨Int.tdiv (d9 (sub b a) (sub c a)).x (g3 (d9 (sub b a) (sub c a))),Int.tdiv (d9 (sub b a) (sub c a)).y (g3 (d9 (sub b a) (sub c a))),Int.tdiv (d9 (sub b a) (sub c a)).z (g3 (d9 (sub b a) (sub c a)))⟩,
   dot ⟨Int.tdiv (d9 (sub b a) (sub c a)).x (g3 (d9 (sub b a) (sub c a))),Int.tdiv (d9 (sub b a) (sub c a)).y (g3 (d9 (sub b a) (sub c a))),Int.tdiv (d9 (sub b a) (sub c a)).z (g3 (d9 (sub b a) (sub c a)))⟩ a⟩,true)
 else (⟨⟨0,0,0⟩,0⟩,false)
theorem Hb6(v:V3):0<=g3 v:=by unfold g3;omega
theorem Ic3(a c d:V3):ta2 a c d=some (.tup [.agg (tP.row (u9 a c d).1),b (u9 a c d).2],[]):=by
 unfold ta2 u9;simp only[Nd2,td5];cases ha:inV a with
 |false=>rfl
 |true =>
  cases hc:inV c with
  |false=>rfl
  |true =>
   cases hd:inV d with
   |false=>rfl
   |true =>
    obtain⟨e,k1,k2,k3⟩:=jb3 ha hc hd;rw[e];generalize d9 (sub c a) (sub d a)=n at *
    have m1:=k1.mono (m:=1000000000000000000) (by omega)
    have m2:=k2.mono (m:=1000000000000000000) (by omega)
    have m3:=k3.mono (m:=1000000000000000000) (by omega)
    rw[je3 m1 m2 m3,Hc8 m1 m2 m3];by_cases h0:g3 n=0
    ·rw[show (g3 n==0)=true from by rw[h0];rfl]
     simp only[Bool.and_self,if_true,h0];rfl
    ·have hp:=Hb6 n;have q1:=I4 (g:=g3 n) k1 (by omega)
     have q2:=I4 (g:=g3 n) k2 (by omega)
     have q3:=I4 (g:=g3 n) k3 (by omega)
     rw[show (g3 n==0)=false from by rw[beq_eq_false_iff_ne];exact h0,Ze2 m1 m2 m3 h0]
     simp only[Bool.and_self,if_true,h0,if_false];rw[Aa1 (q1.mono (by omega)),Aa1 (q2.mono (by omega)),Aa1 (q3.mono (by omega))]
     have hdot:ja7 ⟨Int.tdiv n.x (g3 n),Int.tdiv n.y (g3 n),Int.tdiv n.z (g3 n)⟩ a=dot ⟨Int.tdiv n.x (g3 n),Int.tdiv n.y (g3 n),Int.tdiv n.z (g3 n)⟩ a:=by
      unfold ja7;simp only[ib2,Cb4];obtain⟨⟨a1,a2⟩,⟨a3,a4⟩,a5,a6⟩:=(eb3 a).1 ha;have r1:=mb q1.1 q1.2 a1 a2;have r2:=mb q2.1 q2.2 a3 a4;have r3:=mb q3.1 q3.2 a5 a6;rw[E7 (by omega) (by omega)]
      rfl
     rw[hdot];rfl
theorem Ua0(a b c:V3):ca1 a b c=u9 a b c:=by unfold ca1;rw[Ic3];rfl
theorem ra4(a b c:V3):ca2 a b c=true:=by unfold ca2;rw[Ic3];rfl
theorem Ce2(l:List Int):Rd (one r1P) (ga9 l) (λ_=>True):=by
 unfold ga9;simp only[j9,i8];obtain⟨v1,j1,e1,a1,b1,c1,d1⟩:=M9 8 l 0 (by omega) (by omega) (by omega) (by omega)
 rw[e1]
 simp only
 obtain⟨v2,j2,e2,a2,b2,c2,d2⟩:=M9 17 l j1 (by omega) (by omega) (by omega) (by omega)
 rw[e2]
 simp only
 obtain⟨x1,x2,x3,j3,e3,_,_,_,c3,d3⟩:=Za0 8 l j2 (by omega) (by omega) (by omega) (by omega)
 rw[e3]
 simp only
 obtain⟨y1,y2,y3,j4,e4,_,_,_,c4,d4⟩:=Za0 8 l j3 (by omega) (by omega) (by omega) (by omega)
 rw[e4]
 simp only
 obtain⟨z1,z2,z3,j5,e5,_,_,_,c5,d5⟩:=Za0 8 l j4 (by omega) (by omega) (by omega) (by omega)
 rw[e5];simp only[Ua0,ra4,Nd0 _ (show (0:Int)<3 by omega) (by omega),i8]
 simp only[Qib,Qia,l0];refine Rd.sl (λ_=>Rd.sl (λ_=>⟨_,_,rfl,rfl,trivial⟩) λ_=>?_) (λ_=>?_)
 ·exact Rd.sl (λ_=>⟨_,_,rfl,rfl,trivial⟩) λ_=>Rd.sl (λ_=>⟨_,_,rfl,rfl,trivial⟩) λ_=>⟨_,_,rfl,rfl,trivial⟩
 ·exact Rd.sl (λ_=>⟨_,_,rfl,rfl,trivial⟩) λ_=>Rd.sl (λ_=>⟨_,_,rfl,rfl,trivial⟩) λ_=>⟨_,_,rfl,rfl,trivial⟩
theorem Nd4(l:List Int):Qb7 l=true:=(Ce2 l).g
theorem Ce3(p:Pln)(v:V3):Rd (one r1I) (xa7 p v) (λ_=>True):=by
 unfold xa7;simp only[Hc9,td5,l0];exact Rd.sl (λ_=>⟨_,_,rfl,rfl,trivial⟩) λ_=>Rd.sl (λ_=>⟨_,_,rfl,rfl,trivial⟩) λ_=>Rd.sl (λ_=>⟨_,_,rfl,rfl,trivial⟩) λ_=>Rd.sl (λ_=>⟨_,_,rfl,rfl,trivial⟩) λ_=>⟨_,_,rfl,rfl,trivial⟩
theorem fd2(p:Pln)(v:V3):rb0 p v=true:=(Ce3 p v).g
theorem vf5(P:ha0)(hl:P.f0.length<=1000000000):∃t s,lp (u7 P) ⟨0⟩=(t,s)/\(t=1\/t=2\/t=3):=by
 obtain⟨l,x1,x2,x3,x4,x5,x6,x7,x8⟩:=P;refine L7 (step:=u7 ⟨l,x1,x2,x3,x4,x5,x6,x7,x8⟩) (mk:=λj (_:Unit)=>(⟨(j:Int)⟩:U2)) l.length (λ_ _=>True) (λt _=>t=1\/t=2\/t=3) hl (λj a hj _=>?_) (λj a hj _=>?_) 0 () trivial
 ·simp only[u7,X3,fd2,Int.toNat_natCast,n7 hj (show l.length<=4611686018427387904 from Qad hl (by omega))]
  rw[btD (k8 hj),bt (g7 hj),l0];exact Nx.sl (λ_=>Nx.sl (λ_=>.ex (by simp)) λ_=>.nx ⟨(),rfl,trivial⟩) λ_=>.ex (by simp)
 ·simp only[u7,X3];rw[bfD (by omega)]
  exact⟨_,rfl,by simp⟩
theorem vf6(l:List V3)(hl:l.length<=1000000000)(a c:Nat)(ha:a<l.length)(hc:c<a):∃t s,lp (K2 ⟨(a:Int),(c:Int)⟩) ⟨l,0⟩=(t,s)/\((t=1\/t=2)/\s.f0=l):=by
 refine L7 (step:=K2 ⟨(a:Int),(c:Int)⟩) (mk:=λj (_:Unit)=>(⟨l,(j:Int)⟩:U3)) c (λ_ _=>True) (λt s=>(t=1\/t=2)/\s.f0=l) (by omega) (λj x hj _=>?_) (λj x hj _=>?_) 0 () trivial
 ·simp only[K2,da9,ra4,Int.toNat_natCast,j9,i8,n7 hj (show c<=4611686018427387904 by omega)]
  rw[btD (k8 hj),bt (g7 ha),bt (g7 (show c<l.length by omega)),bt (g7 (show j<l.length by omega)),l0]
  generalize hP:ha0.mk _ _ _ _ _ _ _ _ _=P3;obtain⟨t,s,h1,h2⟩:=vf5 P3 (by subst hP;exact hl)
  rw[h1]
  rcases h2 with rfl|rfl|rfl
  ·exact .ex (by simp)
  ·exact .nx ⟨(),rfl,trivial⟩
  ·exact .nx ⟨(),rfl,trivial⟩
 ·simp only[K2,da9];rw[bfD (by omega)]
  exact⟨_,rfl,by simp⟩
theorem vf7(l:List V3)(hl:l.length<=1000000000)(a:Nat)(ha:a<l.length):∃t s,lp (K3 ⟨(a:Int)⟩) ⟨l,0⟩=(t,s)/\((t=1\/t=2)/\s.f0=l):=by
 refine L7 (step:=K3 ⟨(a:Int)⟩) (mk:=λj (_:Unit)=>(⟨l,(j:Int)⟩:U4)) a (λ_ _=>True) (λt s=>(t=1\/t=2)/\s.f0=l) (by omega) (λj x hj _=>?_) (λj x hj _=>?_) 0 () trivial
 ·simp only[K3,ea0,j9,i8,n7 hj (show a<=4611686018427387904 by omega)]
  obtain⟨t,s,h1,h2,h3⟩:=vf6 l hl a j ha hj;rw[btD (k8 hj),h1]
  rcases h2 with rfl|rfl
  ·exact .ex (by simp)
  ·exact .nx ⟨(),by rw[h3],trivial⟩
 ·simp only[K3,ea0];rw[bfD (by omega)]
  exact⟨_,rfl,by simp⟩
theorem ab9(l:List V3)(hl:l.length<=1000000000):Rd (one r1B) (xa8 l) (λ_=>True):=by
 have key:∃t s,lp (K4 ⟨⟩) ⟨l,0⟩=(t,s)/\(t=1\/t=2):=by
  refine L7 (step:=K4 ⟨⟩) (mk:=λj (_:Unit)=>(⟨l,(j:Int)⟩:U5)) l.length (λ_ _=>True) (λt s=>t=1\/t=2) hl (λj x hj _=>?_) (λj x hj _=>?_) 0 () trivial
  ·simp only[K4,ea1,j9,i8,n7 hj (show l.length<=4611686018427387904 by omega)]
   obtain⟨t,s,h1,h2,h3⟩:=vf7 l hl j hj;rw[btD (k8 hj),h1]
   rcases h2 with rfl|rfl
   ·exact .ex (by simp)
   ·exact .nx ⟨(),by rw[h3],trivial⟩
  ·simp only[K4,ea1];rw[bfD (by omega)]
   exact⟨_,rfl,by simp⟩
 obtain⟨t,s,h1,h2⟩:=key;unfold xa8;simp only[j9,i8];rw[h1]
 rcases h2 with rfl|rfl<;>exact⟨_,_,rfl,rfl,trivial⟩
theorem Fd0(l:List V3)(hl:l.length<=1000000000):Ha8 l=true:=(ab9 l hl).g
theorem Fd1(l:List V3)(hl:l.length<=1000000000):Rd (one r1I) (na6 l) (λ_=>True):=by
 have h:=Pa2 (step:=P0 ⟨l⟩) (mk:=λj=>(⟨(j:Int)⟩:N8)) (c:=λv=>!inV v) (u:=1) (fin:=2) tV l hl
  (λj hj=>by
   simp only[P0,aa2,Int.toNat_natCast,Nd2,td5,n7 hj (show l.length<=4611686018427387904 by omega)]
   rw[btD (k8 hj),bt (g7 hj),l0])
  (by simp only[P0,aa2];rw[bfD (n9 (Qed _))]) 0 (Qee _)
 unfold na6;simp only[j9,i8,O7,Fd0 l hl];rw[show (⟨0⟩:N8)=⟨((0:Nat):Int)⟩ from rfl,h]
 refine Rd.sl (λ_=>⟨_,_,rfl,rfl,trivial⟩) λ_=>?_
 rw[Qic];cases l.any λv=>!inV v with
 |true=>exact⟨_,_,rfl,rfl,trivial⟩
 |false =>
  show Rd (one r1I) (sl (xa9 l) (some (i 11,[])) (some (i 0,[]))) (λ_=>True)
  exact Rd.sl (λ_=>⟨_,_,rfl,rfl,trivial⟩) λ_=>⟨_,_,rfl,rfl,trivial⟩
theorem Vc3(l:List V3)(hl:l.length<=1000000000):Bb4 l=true:=(Fd1 l hl).g
theorem ke7(p:Pln)(l:List V3)(hl:l.length<=1000000000):Rd (one r1B) (na7 p l) (λ_=>True):=by
 have h:=Pa2 (step:=P1 ⟨l,p.n.x,p.n.y,p.n.z,p.b⟩) (mk:=λj=>(⟨(j:Int)⟩:ga7)) (c:=λv=>decide (Ha7 p v>0)) (u:=1) (fin:=2) tV l hl
  (λj hj=>by
   simp only[P1,aa3,Int.toNat_natCast,fd2,n7 hj (show l.length<=4611686018427387904 by omega)]
   rw[btD (k8 hj),bt (g7 hj),l0])
  (by simp only[P1,aa3];rw[bfD (n9 (Qed _))]) 0 (Qee _)
 unfold na7;simp only[j9,i8];rw[show (⟨0⟩:ga7)=⟨((0:Nat):Int)⟩ from rfl,h]
 split<;>exact⟨_,_,rfl,rfl,trivial⟩
theorem Nd5(p:Pln)(l:List V3)(hl:l.length<=1000000000):V5 p l=true:=(ke7 p l hl).g
theorem af0(p q:Pln):Rd (one r1I) (ca3 p q) (λ_=>True):=by
 have key:∃t s,lp (B1 ⟨p.n.x,p.n.y,p.n.z,p.b,q.n.x,q.n.y,q.n.z,q.b⟩) ⟨0⟩=(t,s)/\(t=1\/t=2\/t=3):=by
  refine L7 (step:=B1 ⟨p.n.x,p.n.y,p.n.z,p.b,q.n.x,q.n.y,q.n.z,q.b⟩) (mk:=λj (_:Unit)=>(⟨(j:Int)⟩:H9)) 4 (λ_ _=>True) (λt s=>t=1\/t=2\/t=3) (by omega) (λj x hj _=>?_) (λj x hj _=>?_) 0 () trivial
  ·have hn:=n7 hj (show 4<=4611686018427387904 by omega)
   simp only[B1,Q9,Int.toNat_natCast,hn];have hlt:(j:Int)<4:=by omega
   have hin:=g7 hj;have g:∀x1 x2 x3 x4:Int,((Nat.ble ((0+(j*1))+1) 4)&&(ma4 [CK.int .i64] (i9 [i x1,i x2,i x3,i x4] (0+(j*1)))))=true:=by
    intro x1 x2 x3 x4
    match j,hj with
    |0,_=>rfl
    |1,_=>rfl
    |2,_=>rfl
    |3,_=>rfl
   rw[btD hlt];simp only[hin,g,l0];exact Nx.sl (λ_=>.ex (by simp)) λ_=>Nx.sl (λ_=>.ex (by simp)) λ_=>.nx ⟨(),rfl,trivial⟩
  ·simp only[B1,Q9];rw[bfD (by omega)]
   exact⟨_,rfl,by simp⟩
 obtain⟨t,s,h1,h2⟩:=key;unfold ca3
 simp only
 rw[h1]
 rcases h2 with rfl|rfl|rfl<;>exact⟨_,_,rfl,rfl,trivial⟩
theorem ke8(p q:Pln):gb0 p q=true:=(af0 p q).g
theorem Ic4(l:PLq)(n:Nat)(h:n<=l.length):l9 (λk=>(λk=>tP.row (gL tP l k)) (0+k)) (List.range (n-0))=bL tP (l.take n):=by
 rw[<- kb1,k9,k9,Qif,Nat.min_eq_left h,Nat.sub_zero];apply Qci;intro k hk;rw[Qcj] at hk;show tP.row (gL tP l (0+k))=tP.row (gL tP (l.take n) k);congr 1;simp[gL,Qda,Qbe,hk]
theorem Ic5(l:PLq)(n:Nat):l9 (λk=>(λk=>tP.row (gL tP l k)) (n+k)) (List.range (l.length-n))=bL tP (l.drop n):=by
 rw[<- kb1,k9,k9,Qbr];apply Qci;intro k hk;show tP.row (gL tP l (n+k))=tP.row (gL tP (l.drop n) k);rw[ed9]
theorem Zb7(l:PLq)(x1 x2 x3 x4:Int):app (bL tP l) [[i x1,i x2,i x3,i x4]]=bL tP (l++[⟨⟨x1,x2,x3⟩,x4⟩]):=xa2 tP l [⟨⟨x1,x2,x3⟩,x4⟩]
def Jb6(x:PLq)(y:Pln)(n:Nat):PLq:=x.take n++(y::x.drop n)
theorem fd3{l:PLq}{n:Nat}{r:List (List b9)}{P:PLq->Prop}(hn:n=l.length)(hr:r=bL tP l)(h:P l):Rd (one (r1L tP)) (some (.sl 0 0 n 0,[⟨66,4,r,true,false,0⟩])) P:=by
 subst hn hr;exact⟨_,l,rfl,Ic2 l,h⟩
theorem ke9(x:PLq)(y:Pln)(hx:x.length<=1000000):Rd (one (r1L tP)) (Ha9 x y) (λr=>r≠[]/\r.length<=x.length+1/\∀p∈r,p=y\/p∈x):=by
 have h:=Ja5 (step:=N9 ⟨x,y.n.x,y.n.y,y.n.z,y.b⟩) (mk:=λj=>(⟨(j:Int)⟩:ga7)) (c:=λp=>!decide (ca4 p y<0)) (u:=1) (fin:=2) tP x (by omega)
  (λj hj=>by
   simp only[N9,ja9,Int.toNat_natCast,ke8,n7 hj (show x.length<=4611686018427387904 by omega)]
   rw[btD (k8 hj),bt (g7 hj),l0];cases decide (ca4 (gL tP x j) y<0)<;>rfl)
  (by simp only[N9,ja9];rw[bfD (n9 (Qed _))]) 0 (Qee _)
 rw[Qic] at h;have key:∃t n,lp (N9 ⟨x,y.n.x,y.n.y,y.n.z,y.b⟩) ⟨0⟩=(t,⟨((n:Nat):Int)⟩)/\(t=1\/t=2)/\n<=x.length:=by
  rw[show (⟨0⟩:ga7)=⟨((0:Nat):Int)⟩ from rfl,h]
  split
  ·exact⟨1,_,rfl,.inl rfl,by rw[Qbh];exact List.findIdx_le_length⟩
  ·exact⟨2,_,rfl,.inr rfl,Qac _⟩
 obtain⟨t,n,h1,h2,h3⟩:=key;have hlo:inB (n:Int) (x.length+1)=true:=g7 (by omega)
 have hd:(bL tP (x.take n)).length=n:=by rw[<- l6,S7,Qif];omega
 have hmem:∀p∈Jb6 x y n,p=y\/p∈x:=λp hp=>by
  unfold Jb6 at hp
  rcases Qii.1 hp with hp|hp
  ·exact .inr (List.mem_of_mem_take hp)
  ·rcases Qbp.1 hp with hp|hp
   ·exact .inl hp
   ·exact .inr (List.mem_of_mem_drop hp)
 have hne:Jb6 x y n≠[]:=by unfold Jb6;simp
 have hlen:(Jb6 x y n).length=x.length+1:=by unfold Jb6;simp only[Qea,List.length_cons,Qif,Qbr];omega
 have lt:len (bL tP (x.take n))=n:=by rw[l6];exact hd
 have ld:len (bL tP (x.drop n))=x.length-n:=by rw[S7,Qbr]
 have b1:(Nat.beq 1 1&&Nat.ble ((1+(x.length-n))*32) room)=true:=by rw[da0 (by omega)];rfl
 have b2:(Nat.beq 0 0&&Nat.ble ((0+n)*32) room)=true:=by rw[da0 (by omega)];rfl
 have e0:app [] (bL tP (x.take n))=bL tP (x.take n):=rfl;have b3:(Nat.beq (0+n) n&&Nat.ble (((0+n)+1)*32) room)=true:=by rw[da0 (by omega),Qbh,Qib];rfl
 have l3:len (bL tP (x.take n++[y]))=n+1:=by rw[S7,Qea,Qif];simp only[List.length_singleton];omega
 have b4:(Nat.beq ((0+n)+1) (n+1)&&Nat.ble ((((0+n)+1)+(x.length-n))*32) room)=true:=by rw[da0 (by omega),Qbh,Qib];rfl
 have z0:∀{k:Nat},Nat.beq k 0=true->k=0:=λ{k} h=>Qae h
 have fin:∀m r,m=x.length+1->r=bL tP (Jb6 x y n)->Rd (one (r1L tP)) (some (.sl 0 0 m 0,[⟨66,4,r,true,false,0⟩])) (λr=>r≠[]/\r.length<=x.length+1/\∀p∈r,p=y\/p∈x) :=
  λm r hm hr=>fd3 (by rw[hlen];exact hm) hr ⟨hne,by omega,hmem⟩
 have tail:Rd (one (r1L tP)) (some (.sl 0 0 (((0+n)+1)+(x.length-n)) 0,[⟨66,4,app (bL tP (x.take n++[y])) (bL tP (x.drop n)),true,false,0⟩])) (λr=>r≠[]/\r.length<=x.length+1/\∀p∈r,p=y\/p∈x):=by
  refine fin _ _ (by omega) ?_
  rw[xa2];unfold Jb6;rw[List.append_assoc];rfl
 have same:∀p:Pln,(p.n.x==y.n.x&&(p.n.y==y.n.y&&(p.n.z==y.n.z&&(p.b==y.b&&true))))=true->n<x.length->Rd (one (r1L tP)) (some (eL tP x,[])) (λr=>r≠[]/\r.length<=x.length+1/\∀p∈r,p=y\/p∈x):=λp _ hn =>
  ⟨_,x,rfl,je8 tP x,List.ne_nil_of_length_pos (by omega),Nat.le_succ _,λp hp=>Or.inr hp⟩
 unfold Ha9;simp only[j9,i8];rw[h1];simp only[Int.toNat_natCast,Ic4 x n h3,Ic5,lt,ld,b1,b2,e0,b3,Zb7,l3,b4,hlo,l0];have main:Rd (one (r1L tP)) (sl (decide ((n:Int)<(x.length:Int))) (sl (inB (n:Int) x.length) (sl (((gL tP x n).n.x==y.n.x)&&(((gL tP x n).n.y==y.n.y)&&(((gL tP x n).n.z==y.n.z)&&(((gL tP x n).b==y.b)&&true)))) (some (eL tP x,[])) (some (.sl 0 0 (((0+n)+1)+(x.length-n)) 0,[⟨66,4,app (bL tP (x.take n++[y])) (bL tP (x.drop n)),true,false,0⟩]))) none) (some (.sl 0 0 (((0+n)+1)+(x.length-n)) 0,[⟨66,4,app (bL tP (x.take n++[y])) (bL tP (x.drop n)),true,false,0⟩]))) (λr=>r≠[]/\r.length<=x.length+1/\∀p∈r,p=y\/p∈x):=by
  by_cases hn:n<x.length
  ·rw[btD (k8 hn),bt (g7 hn)];exact Rd.sl (λq=>same _ q hn) λ_=>tail
  ·rw[bfD (n9 hn)];exact tail
 rcases h2 with rfl|rfl
 ·exact main
 ·exact main
theorem Nd6(x:PLq)(y:Pln)(hx:x.length<=1000000):aa4 x y=true:=(ke9 x y hx).g
theorem Qe6(x:PLq)(y:Pln)(hx:x.length<=1000000):A4 x y≠[]/\(A4 x y).length<=x.length+1/\∀p∈A4 x y,p=y\/p∈x:=(ke9 x y hx).p
structure Fc(ph:Nat)(out:PLq)(m:Nat):Prop where
 h:(ph=0/\out=[])\/ph=1
 l:out.length<=m
theorem Fc.more{ph m m':Nat}{out:PLq}(h:Fc ph out m)(hm:m<=m'):Fc ph out m':=⟨h.h,Qad h.l hm⟩
theorem Ce4(l:List V3)(hl:l.length<=48)(a c:Nat)(ha:a<l.length)(hc:c<a)(h0:Nat)(out:PLq)(m:Nat)(hm:m<=900000)(hf:Fc h0 out m) :
  ∃t s,lp (L0 ⟨l,(a:Int),(c:Int)⟩) ⟨h0,0,out⟩=(t,s)/\(t=s.ph+1/\Fc s.ph s.ca6 (m+100)):=by
 refine L7 (step:=L0 ⟨l,(a:Int),(c:Int)⟩) (mk:=λj (x:Nat×PLq)=>(⟨x.1,(j:Int),x.2⟩:q8)) c (λj x=>Fc x.1 x.2 (m+2*j)/\j<=48) (λt s=>t=s.ph+1/\Fc s.ph s.ca6 (m+100)) (by omega) (λj x hj hx=>?_) (λj x hj hx=>?_) 0 (h0,out) ⟨hf,by omega⟩
 ·obtain⟨h,o⟩:=x;obtain⟨⟨hx,hx2⟩,_⟩:=hx;have hn:=n7 hj (show c<=4611686018427387904 by omega)
  have hh:∀p,V5 p l=true:=λp=>Nd5 p l (by omega)
  have hg1:∀y,aa4 o y=true:=λy=>Nd6 o y (by simp only at hx2;omega)
  have hp1:∀y,A4 o y≠[]/\(A4 o y).length<=o.length+1:=λy=>by have:=Qe6 o y (by simp only at hx2;omega);exact⟨this.1,this.2.1⟩
  have hg2:∀y z,aa4 (A4 o y) z=true:=λy z=>Nd6 _ z (by have:=(hp1 y).2;simp only at hx2;omega)
  have hp2:∀y z,(A4 (A4 o y) z).length<=o.length+2:=λy z=>by
   have:=(Qe6 (A4 o y) z (by have:=(hp1 y).2;simp only at hx2;omega)).2.1
   have:=(hp1 y).2
   omega
  simp only at hx hx2
  have stay:Fc h o (m+2*(j+1))/\j+1<=48:=⟨⟨hx,by omega⟩,by omega⟩
  have put1:∀y,Fc 1 (A4 o y) (m+2*(j+1))/\j+1<=48:=λy=>⟨⟨.inr rfl,by have:=(hp1 y).2;omega⟩,by omega⟩
  have put2:∀y z,Fc 1 (A4 (A4 o y) z) (m+2*(j+1))/\j+1<=48:=λy z=>⟨⟨.inr rfl,by have:=hp2 y z;omega⟩,by omega⟩
  rcases hx with⟨rfl,rfl⟩|rfl
  ·show Nx (D0 Stp.next Stp.exit Stp.fail _ _) _ _;simp only[D0,ra4,Int.toNat_natCast,j9,O7,hh,hg1,hg2,hn];rw[btD (k8 hj),bt (g7 ha),bt (g7 (show c<l.length by omega)),bt (g7 (show j<l.length by omega))]
   simp only[l0];refine Nx.sl (λ_=>.nx ⟨(0,[]),rfl,stay⟩) λ_=>Nx.sl (λ_=>Nx.sl (λ_=>.nx ⟨(1,_),rfl,put2 _ _⟩) λ_=>.nx ⟨(1,_),rfl,put1 _⟩) λ_=>Nx.sl (λ_=>.nx ⟨(1,_),rfl,put1 _⟩) λ_=>.nx ⟨(0,[]),rfl,stay⟩
  ·show Nx (D1 Stp.next Stp.exit Stp.fail _ _) _ _;simp only[D1,ra4,Int.toNat_natCast,j9,O7,hh,hg1,hg2,hn];rw[btD (k8 hj),bt (g7 ha),bt (g7 (show c<l.length by omega)),bt (g7 (show j<l.length by omega))]
   simp only[l0];refine Nx.sl (λ_=>.nx ⟨(1,o),rfl,stay⟩) λ_=>Nx.sl (λ_=>Nx.sl (λ_=>.nx ⟨(1,_),rfl,put2 _ _⟩) λ_=>.nx ⟨(1,_),rfl,put1 _⟩) λ_=>Nx.sl (λ_=>.nx ⟨(1,_),rfl,put1 _⟩) λ_=>.nx ⟨(1,o),rfl,stay⟩
 ·obtain⟨h,o⟩:=x;obtain⟨⟨hx,hx2⟩,h48⟩:=hx
  simp only at hx hx2
  rcases hx with⟨rfl,rfl⟩|rfl
  ·refine⟨1,?_,rfl,⟨.inl ⟨rfl,rfl⟩,by show 0<=_;omega⟩⟩
   show D0 Stp.next Stp.exit Stp.fail _ _=_;simp only[D0];rw[bfD (by omega)]
  ·refine⟨2,?_,rfl,⟨.inr rfl,by show o.length<=_;omega⟩⟩
   show D1 Stp.next Stp.exit Stp.fail _ _=_;simp only[D1];rw[bfD (by omega)]
theorem Ce5(l:List V3)(hl:l.length<=48)(a:Nat)(ha:a<l.length)(h0:Nat)(out:PLq)(m:Nat)(hm:m<=800000)(hf:Fc h0 out m) :
  ∃t s,lp (L1 ⟨(a:Int)⟩) ⟨h0,l,0,out⟩=(t,s)/\(t=s.ph+1/\Fc s.ph s.ca6 (m+5000)/\s.f0=l):=by
 refine L7 (step:=L1 ⟨(a:Int)⟩) (mk:=λj (x:Nat×PLq)=>(⟨x.1,l,(j:Int),x.2⟩:q9)) a (λj x=>Fc x.1 x.2 (m+100*j)/\j<=48) (λt s=>t=s.ph+1/\Fc s.ph s.ca6 (m+5000)/\s.f0=l) (by omega) (λj x hj hx=>?_) (λj x hj hx=>?_) 0 (h0,out) ⟨hf,by omega⟩
 ·obtain⟨h,o⟩:=x;obtain⟨hx,_⟩:=hx;have hn:=n7 hj (show a<=4611686018427387904 by omega)
  simp only at hx
  obtain⟨t,s,e1,e2,e3⟩:=Ce4 l hl a j ha hj h o (m+100*j) (by omega) hx
  obtain⟨s1,s2,s3⟩:=s
  simp only at e2 e3
  have go:Fc s1 s3 (m+100*(j+1))/\j+1<=48:=⟨e3.more (by omega),by omega⟩
  rcases hx.h with⟨rfl,rfl⟩|rfl
  ·show Nx (D2 Stp.next Stp.exit Stp.fail _ _) _ _;simp only[D2,j9,i8,hn];rw[btD (k8 hj),e1,e2]
   rcases e3.h with⟨rfl,rfl⟩|rfl
   ·exact .nx ⟨(0,[]),rfl,go⟩
   ·exact .nx ⟨(1,s3),rfl,go⟩
  ·show Nx (D3 Stp.next Stp.exit Stp.fail _ _) _ _;simp only[D3,j9,i8,hn];rw[btD (k8 hj),e1,e2]
   rcases e3.h with⟨rfl,rfl⟩|rfl
   ·exact .nx ⟨(0,[]),rfl,go⟩
   ·exact .nx ⟨(1,s3),rfl,go⟩
 ·obtain⟨h,o⟩:=x;obtain⟨hx,h48⟩:=hx
  simp only at hx
  have h2:=hx.more (show m+100*j<=m+5000 by omega)
  rcases hx.h with⟨rfl,rfl⟩|rfl
  ·refine⟨1,?_,rfl,h2,rfl⟩;show D2 Stp.next Stp.exit Stp.fail _ _=_;simp only[D2];rw[bfD (by omega)]
  ·refine⟨2,?_,rfl,h2,rfl⟩;show D3 Stp.next Stp.exit Stp.fail _ _=_;simp only[D3];rw[bfD (by omega)]
theorem Ce6(l:List V3)(hl:l.length<=48) :
  ∃t s,lp (ea2 ⟨⟩) ⟨0,l,0,[]⟩=(t,s)/\(t=s.ph+1/\Fc s.ph s.ca6 250000):=by
 refine L7 (step:=ea2 ⟨⟩) (mk:=λj (x:Nat×PLq)=>(⟨x.1,l,(j:Int),x.2⟩:r8)) l.length (λj x=>Fc x.1 x.2 (5000*j)/\j<=48) (λt s=>t=s.ph+1/\Fc s.ph s.ca6 250000) (by omega) (λj x hj hx=>?_) (λj x hj hx=>?_) 0 (0,[]) ⟨⟨.inl ⟨rfl,rfl⟩,Qac _⟩,by omega⟩
 ·obtain⟨h,o⟩:=x;obtain⟨hx,_⟩:=hx;have hn:=n7 hj (show l.length<=4611686018427387904 by omega)
  simp only at hx
  obtain⟨t,s,e1,e2,e3,e4⟩:=Ce5 l hl j hj h o (5000*j) (by omega) hx
  obtain⟨s1,s2,s3,s4⟩:=s
  simp only at e2 e3 e4
  subst e4;have go:Fc s1 s4 (5000*(j+1))/\j+1<=48:=⟨e3.more (by omega),by omega⟩
  rcases hx.h with⟨rfl,rfl⟩|rfl
  ·show Nx (D4 Stp.next Stp.exit Stp.fail ⟨⟩ _) _ _;simp only[D4,j9,i8,hn];rw[btD (k8 hj),e1,e2]
   rcases e3.h with⟨rfl,rfl⟩|rfl
   ·exact .nx ⟨(0,[]),rfl,go⟩
   ·exact .nx ⟨(1,s4),rfl,go⟩
  ·show Nx (D5 Stp.next Stp.exit Stp.fail ⟨⟩ _) _ _;simp only[D5,j9,i8,hn];rw[btD (k8 hj),e1,e2]
   rcases e3.h with⟨rfl,rfl⟩|rfl
   ·exact .nx ⟨(0,[]),rfl,go⟩
   ·exact .nx ⟨(1,s4),rfl,go⟩
 ·obtain⟨h,o⟩:=x;obtain⟨hx,h48⟩:=hx
  simp only at hx
  have h2:=hx.more (show 5000*j<=250000 by omega)
  rcases hx.h with⟨rfl,rfl⟩|rfl
  ·refine⟨1,?_,rfl,h2⟩;show D4 Stp.next Stp.exit Stp.fail ⟨⟩ _=_;simp only[D4];rw[bfD (by omega)]
  ·refine⟨2,?_,rfl,h2⟩;show D5 Stp.next Stp.exit Stp.fail ⟨⟩ _=_;simp only[D5];rw[bfD (by omega)]
theorem le0(l:PLq)(n:Int):(two (r1L tP) r1I).rd (.tup [eL tP l,i n],[])=some (l,n):=by
 have h:(r1L tP).rd [] (eL tP l)=some l:=by
  show Bool.rec (motive:=λ_=>Option PLq) none (some (rt tP l)) (Bool.and (Nat.beq tP.es tP.es) (okE tP l))=_
  rw[j9,O7,Qib];rfl
 simp only[two,h];rfl
theorem le1(l:List V3)(hl:l.length<=48):Rd (two (r1L tP) r1I) (na8 l) (λr=>r.1.length<=250000):=by
 obtain⟨t,s,e1,e2,e3⟩:=Ce6 l hl;unfold na8;simp only[j9,i8,O7,Vc3 l (show l.length<=1000000000 by omega),l0]
 refine Rd.sl (λ_=>⟨_,([],La2 l),rfl,rfl,Qee _⟩) λ_=>?_
 rw[e1,e2];obtain⟨s1,s2,s3,s4⟩:=s
 simp only at e3 ⊢
 rcases e3.h with⟨rfl,rfl⟩|rfl
 ·exact⟨_,([],0),rfl,rfl,Qee _⟩
 ·exact⟨_,(s4,0),rfl,le0 s4 0,e3.l⟩
theorem Nd7(l:List V3)(hl:l.length<=48):La4 l=true:=(le1 l hl).g
def phV(out:List V3):Nat:=match out with
 |[]=>0
 |_::_=>1
theorem Ce7(out:List V3)(x:V3):phV (out++[x])=1:=by cases out<;>rfl
theorem td6(l:List V3)(x1 x2 x3:Int):app (bL tV l) [[i x1,i x2,i x3]]=bL tV (l++[⟨x1,x2,x3⟩]):=xa2 tV l [⟨x1,x2,x3⟩]
theorem vf8{l:List V3}{m:Nat}(h:m<l.length):(((Nat.blt (0+m) (len (bL tV l)))&&(Nat.ble (0+3) (len (j6 (bL tV l) (0+m)))))&&(ma4 [CK.int .i64,CK.int .i64,CK.int .i64] (i9 (j6 (bL tV l) (0+m)) 0)))=true:=by
 rw[Qbh,W0 tV h,S7,show Nat.blt m l.length=true from by rw[Qch];exact h]
 rfl
theorem vf9{l:List V3}{m:Nat}(h:m<l.length):(((Nat.blt (0+m) (len (bL tV l)))&&(Nat.ble (2+1) (len (j6 (bL tV l) (0+m)))))&&(ma4 [CK.int .i64] (i9 (j6 (bL tV l) (0+m)) 2)))=true:=by
 rw[Qbh,W0 tV h,S7,show Nat.blt m l.length=true from by rw[Qch];exact h]
 rfl
theorem wf0{n:Nat}{l:List V3}(hn:l.length=n)(h:n<=1000000000):(Nat.beq n (len (bL tV l))&&Nat.ble ((n+1)*24) room)=true:=by
 subst hn;rw[S7,Qib,Qik,Nat.ble_eq];unfold room;omega
theorem Ce8(x:List Int)(N:Nat)(h4:4<=N)(h8:N<=8)(j0:Int)(hj0:0<=j0/\j0<=10) :
  ∃idx out,lp (va9 ⟨(N:Int)⟩) ⟨0,0,x,j0,0,[]⟩=(2,⟨1,(N:Int),x,idx,N,bL tV out⟩)/\out.length=N:=by
 have key:=L7 (step:=va9 ⟨(N:Int)⟩) (mk:=λj (a:Int×List V3)=>(⟨phV a.2,(j:Int),x,a.1,a.2.length,bL tV a.2⟩:s8)) N
  (λj a=>a.2.length=j/\0<=a.1/\a.1<=10+4*j/\j<=N) (λt s=>t=2/\∃idx out,s=⟨1,(N:Int),x,idx,N,bL tV out⟩/\out.length=N) (by omega) (λj a hj ha=>?_) (λj a hj ha=>?_) 0 (j0,[]) ⟨rfl,hj0.1,by omega,by omega⟩
 ·obtain⟨t,s,e1,rfl,idx,out,e2,e3⟩:=key;exact⟨idx,out,by rw[<- e2];exact e1,e3⟩
 ·obtain⟨at0,out⟩:=a;obtain⟨ho,ha1,ha2,_⟩:=ha
  simp only at ho ha1 ha2
  have hn:=n7 hj (show N<=4611686018427387904 by omega)
  obtain⟨v1,j1,d1,_,_,c1,b1⟩:=M9 17 x at0 ha1 (by omega) (by omega) (by omega)
  obtain⟨v2,j2,d2,_,_,c2,b2⟩:=M9 17 x j1 (by omega) (by omega) (by omega) (by omega)
  obtain⟨v3,j3,d3,_,_,c3,b3⟩:=M9 17 x j2 (by omega) (by omega) (by omega) (by omega)
  obtain⟨v4,j4,d4,_,_,c4,b4⟩:=M9 6 x j3 (by omega) (by omega) (by omega) (by omega)
  have leaf : ∀ (E : Nat → Prop) (x1 x2 x3 : Int), Nx (.next (⟨1, ((j + 1 : Nat) : Int), x, j4, j + 1, bL tV (out ++ [⟨x1, x2, x3⟩])⟩ : s8)) E
    (λs=>∃a':Int×List V3,s=⟨phV a'.2,((j+1:Nat):Int),x,a'.1,a'.2.length,bL tV a'.2⟩/\a'.2.length=j+1/\0<=a'.1/\a'.1<=10+4*((j+1:Nat):Int)/\j+1<=N):=λE x1 x2 x3=>by
   have hl:(out++[(⟨x1,x2,x3⟩:V3)]).length=j+1:=by simp[ho]
   exact .nx ⟨(j4,out++[⟨x1,x2,x3⟩]),by simp only[Ce7,hl],hl,by show 0<=j4;omega,by show j4<=_;omega,by omega⟩
  cases out with
  |nil =>
   have hj0':j=0:=by simpa using ho.symm
   subst hj0';show Nx (qa7 Stp.next Stp.exit Stp.fail _ _) _ _;simp only[qa7,j9,i8,d1,d2,d3,d4,hn];rw[btD (k8 hj)];have f1:decide (((0:Nat):Int)>1)=false:=rfl;have f2:decide (((0:Nat):Int)>0)=false:=rfl;have f3:decide (((0:Nat):Int)>2)=false:=rfl;have lf:∀(E:Nat->Prop) (x1 x2 x3:Int),Nx (.next (⟨1,((0+1:Nat):Int),x,j4,1,[[i x1,i x2,i x3]]⟩:s8)) E _:=leaf;simp only[f1,f2,f3,Va2,Qib,Qia,l0];refine Nx.sl (λ_=>?_) (λ_=>?_)<;>refine Nx.sl (λ_=>?_) (λ_=>?_)
   all_goals first
    |exact lf _ _ _ _
    |(refine Nx.sl (λ_=>?_) (λ_=>?_)<;>exact lf _ _ _ _)
  |cons o os =>
   have h1:1<=j:=by simp only[List.length_cons] at ho;omega
   generalize hO:o::os=O at *
   have hph:phV O=1:=by subst hO;rfl
   have w1:W ((j:Int)-1)=((j-1:Nat):Int):=by rw[E7 (by omega) (by omega)];omega
   have i1:inB ((j-1:Nat):Int) j=true:=g7 (by omega)
   have r1:=vf8 (l:=O) (m:=j-1) (by omega)
   have r1':=vf9 (l:=O) (m:=j-1) (by omega)
   have rr:=wf0 ho (by omega)
   have f2:∀{inst:Decidable ((j:Int)>0)},@decide ((j:Int)>0) inst=true:=decide_eq_true (by omega)
   show Nx (sel (Nat.beq (phV O) 1) (I8 Stp.next Stp.exit Stp.fail _ _) _) _ _;rw[hph];show Nx (I8 Stp.next Stp.exit Stp.fail _ _) _ _;by_cases h2:2<=j
   ·have w2:W ((j:Int)-2)=((j-2:Nat):Int):=by rw[E7 (by omega) (by omega)];omega
    have i2:inB ((j-2:Nat):Int) j=true:=g7 (by omega)
    have r2:=vf8 (l:=O) (m:=j-2) (by omega)
    simp only[I8,j9,i8,d1,d2,d3,d4,hn,ho,w1,w2,i1,i2,Int.toNat_natCast,r1,r1',r2,rr,td6];rw[btD (k8 hj)];simp only[Qib,Qia,l0]
    repeat' (first | exact leaf _ _ _ _ | refine Nx.sl (λ_=>?_) (λ_=>?_))
   ·have hj1:j=1:=by omega
    subst hj1;simp only[I8,j9,i8,d1,d2,d3,d4,hn,ho,w1,i1,Int.toNat_natCast,r1,r1',rr,td6];have f1:decide (((1:Nat):Int)>1)=false:=rfl;rw[btD (k8 hj)];simp only[f1,Va2,Qib,Qia,l0]
    repeat' (first | exact leaf _ _ _ _ | refine Nx.sl (λ_=>?_) (λ_=>?_))
 ·obtain⟨at0,out⟩:=a;obtain⟨ho,ha1,ha2,hjN⟩:=ha
  simp only at ho ha1 ha2
  have hj':j=N:=by omega
  subst hj';cases out with
  |nil=>simp only[List.length_nil] at ho;omega
  |cons o os =>
   refine⟨2,?_,rfl,at0,o::os,by rw[ho];rfl,ho⟩
   show I8 Stp.next Stp.exit Stp.fail _ _=_;simp only[I8];rw[bfD (by omega)]
theorem le2{l:List V3}{n:Nat}{r:List (List b9)}{P:List V3->Prop}(hn:n=l.length)(hr:r=bL tV l)(h:P l):Rd (one (r1L tV)) (some (.sl 0 0 n 0,[⟨23,3,r,true,false,0⟩])) P:=by
 subst hn hr;refine⟨_,l,rfl,?_,h⟩;show Bool.rec (motive:=λ_=>Option (List V3)) none (some (slR tV (bL tV l) 0 l.length)) (Bool.and true (okS tV (bL tV l) 0 l.length))=_
 rw[Va3,fb3];rfl
theorem Vc4(x:List Int):Rd (one (r1L tV)) (Da0 x) (λr=>4<=r.length/\r.length<=8):=by
 obtain⟨v,j,e1,a1,b1,c1,d1⟩:=M9 5 x 0 (by omega) (by omega) (by omega) (by omega)
 have hN:W (4+v)=(((4+v).toNat:Nat):Int):=by rw[E7 (by omega) (by omega)];omega
 obtain⟨idx,out,e2,e3⟩:=Ce8 x (4+v).toNat (by omega) (by omega) j (by omega)
 unfold Da0;simp only[j9,i8,e1,hN,e2];have h4:4<=(4+v).toNat:=by omega
 have h8:(4+v).toNat<=8:=by omega
 generalize (4+v).toNat=N at *
 have s1:lsL tV N (λk=>j6 (bL tV out) (0+k))=out:=by rw[<- e3];exact Va3 tV out
 have s2:okL tV N (λk=>j6 (bL tV out) (0+k))=true:=by rw[<- e3];exact fb3 tV out
 have gf:Ha8 out=true:=Fd0 out (by omega)
 rw[s1,s2,gf];simp only[Qib,Qia,l0,show Nat.beq 2 1=false from rfl,Va2]
 refine Rd.sl (λ_=>?_) λ_=>le2 e3.symm rfl ⟨by omega,by omega⟩
 have i0:inB 0 N=true:=g7 (j:=0) (by omega)
 have i1:inB 1 N=true:=g7 (j:=1) (by omega)
 have i2:inB 2 N=true:=g7 (j:=2) (by omega)
 have i3:inB 3 N=true:=g7 (j:=3) (by omega)
 have sp:∀(v:V3) (x1 x2 x3:Int),T8 (tV.row v) 0 [i x1,i x2,i x3]=tV.row ⟨x1,x2,x3⟩:=λ_ _ _ _=>rfl
 have rl:∀v:V3,Nat.ble (0+3) (len (tV.row v))=true:=λ_=>rfl
 have ck:∀v:V3,ma4 [CK.int .i64,CK.int .i64,CK.int .i64] (i9 (tV.row v) 0)=true:=λ_=>rfl
 have gr:∀(l:List V3) (k:Nat),l.length=N->k<4->j6 (bL tV l) k=tV.row (gL tV l k):=λl k hl hk=>W0 tV (by omega)
 have bl:∀(l:List V3) (k:Nat),l.length=N->k<4->Nat.blt k (len (bL tV l))=true:=λl k hl hk=>by rw[S7,Qch];omega
 have ls:∀(l:List V3) (k:Nat) (v:V3),l.length=N->(l.set k v).length=N:=λl k v hl=>by rw[Qij];exact hl
 rw[gr out 0 e3 (by omega),gr out 1 e3 (by omega)]
 simp only[sp,yb7];rw[gr _ 2 (ls out 1 _ e3) (by omega)]
 simp only[sp,yb7];rw[gr _ 3 (ls _ 2 _ (ls out 1 _ e3)) (by omega)]
 simp only[sp,yb7,rl,ck,i0,i1,i2,i3,bl out 0 e3 (by omega),bl out 1 e3 (by omega),bl _ 2 (ls out 1 _ e3) (by omega),bl _ 3 (ls _ 2 _ (ls out 1 _ e3)) (by omega),Qia,l0]
 exact le2 (by simp only[Qij];omega) rfl (by simp only[Qij];omega)
theorem td7(x:List Int):Ra7 x=true:=(Vc4 x).g
theorem td8(x:List Int):4<=(B9 x).length/\(B9 x).length<=8:=(Vc4 x).p
theorem fd4{l:PLq}{P:PLq->Prop}(h:P l):Rd (one (r1L tP)) (some (eL tP l,[])) P:=⟨_,l,rfl,je8 tP l,h⟩
theorem jc7(v:V3):na3 v=inV v/\na4 v=true:=by
 have h3:[v.x,v.y,v.z].length<=1000000000:=by simp
 have:Wa8 v=some (b (inV v),[]):=by
  unfold Wa8 inV;simp only[nb5 24 _ (by omega) h3,nb6 24 _ (by omega) h3,l0]
  simp only[List.all_cons,List.all_nil,Qia]
 unfold na3 na4;rw[this];exact⟨rfl,rfl⟩
def has(c:PLq)(v:V3):Bool:=(chk c==0)&&(inV v&&inn c ⟨v.x,v.y,v.z,1⟩)
def apart(a c:PLq):Bool:=!((chk a==0)&&(chk c==0))||!Ed8 (a++c++ws)
end Go.Ev.Ce
