/- Own work: a part of the proof. -/
import Derived.Test.YtekgjjgbdcgldaaGreatEvSp3
import Derived.Test.YtekgjjgbdcgldaaGreatEvODL
set_option linter.unusedVariables false
set_option linter.unusedSimpArgs false
set_option linter.unnecessarySimpa false
set_option linter.unusedSectionVars false
namespace Go.Ev.L
open Go Go.Ev
theorem Ge3 (n:Int):W n=(n+9223372036854775808) % 18446744073709551616 - 9223372036854775808:=IntKind.wrap_i64 n
theorem ka8 {n:Int} (h1:-9223372036854775808≤n) (h2:n≤9223372036854775807):W n=n:=by rw[Ge3];omega
theorem se2 (n:Int):∃ k,W n=n+18446744073709551616*k:=⟨-((n+9223372036854775808) / 18446744073709551616),by rw[Ge3];omega⟩
theorem mc9 (n k:Int):W (n+18446744073709551616*k)=W n:=by rw[Ge3,Ge3];omega
theorem Gb5 (a b:Int):W (W a+b)=W (a+b):=by
 obtain⟨k,hk⟩:=se2 a
 rw[hk,show a+18446744073709551616*k+b=a+b+18446744073709551616*k by omega,mc9]
theorem nc0 (a b:Int):W (a+W b)=W (a+b):=by rw[Int.add_comm,Gb5,Int.add_comm]
theorem Sd4 (a b:Int):W (W a - b)=W (a - b):=by
 obtain⟨k,hk⟩:=se2 a
 rw[hk,show a+18446744073709551616*k - b=a - b+18446744073709551616*k by omega,mc9]
theorem se3 (a b:Int):W (a - W b)=W (a - b):=by
 obtain⟨k,hk⟩:=se2 b
 rw[hk,show a - (b+18446744073709551616*k)=a - b+18446744073709551616*(-k) by omega,mc9]
theorem o6 {j n:Nat} (h:j < n) (hn:n≤4611686018427387904):W ((j:Int)+1)=((j+1:Nat):Int):=by
 rw[ka8 (by omega) (by omega)];omega
theorem Rc0 {j n:Nat} (h:j < n):decide ((j:Int) < (n:Int))=true:=decide_eq_true (by omega)
theorem dc8 {j n:Nat} (h:¬ j < n):decide ((j:Int) < (n:Int))=false:=decide_eq_false (by omega)
theorem f7 {j n:Nat} (h:j < n):inB (j:Int) n=true:=by
 show Nat.blt j n=true
 rw[Nat.blt_eq];exact h
theorem Ge4 (m:Int) (n:Nat):inB m n=decide (0≤m∧m < n):=by
 unfold inB
 cases m with
 | ofNat k =>
  rw[Bool.eq_iff_iff,decide_eq_true_eq]
  show Nat.blt k n=true↔_
  rw[Nat.blt_eq]
  constructor
  ·intro h;exact⟨Int.natCast_nonneg k,Int.ofNat_lt.2 h⟩
  ·intro h;exact Int.ofNat_lt.1 h.2
 | negSucc k=>exact (decide_eq_false (fun h=>by omega)).symm
theorem bt {c:Bool} (h:c=true) {α:Type} (t e:α):sl c t e=t:=by rw[h];rfl
theorem bf {c:Bool} (h:c=false) {α:Type} (t e:α):sl c t e=e:=by rw[h];rfl
theorem ab1 {n:Nat} (h:n≤1000000000000):Nat.ble (n*32) room=true:=by
 rw[Nat.ble_eq];unfold room;omega
theorem se4 {σ : Type} {step : σ → Stp σ} {I : Nat → σ → Prop} {Q : Nat → σ → Prop} (h : ∀ m s, I m s → (∃ t, step s = .exit t ∧ Q t s) ∨ ∃ s' m', m = m' + 1 ∧ step s = .next s' ∧ I m' s') :
  ∀ (m n:Nat) (s:σ),m≤n→I m s→Q (lp0 step n s).1 (lp0 step n s).2
 | m,n,s,hn,hi=>by
  rcases h m s hi with⟨t,h1,h2⟩ | ⟨s',m',rfl,h1,h2⟩
  ·rw[Lc6 h1]
   exact h2
  ·cases n with
   | zero=>omega
   | succ n =>
    rw[Bd9 h1]
    exact se4 h m' n s' (by omega) h2
theorem nc1 {σ : Type} {step : σ → Stp σ} {I : Nat → σ → Prop} {Q : Nat → σ → Prop} (h : ∀ m s, I m s → (∃ t, step s = .exit t ∧ Q t s) ∨ ∃ s' m', m = m' + 1 ∧ step s = .next s' ∧ I m' s')
  (m:Nat) (s:σ) (hm:m≤18446744073709551615) (hi:I m s):Q (lp step s).1 (lp step s).2:=by
 rw[ne6]
 exact se4 h m rounds s (by unfold rounds;omega) hi
section
variable {σ τ α:Type} {step:σ→Stp σ}
theorem Ge5 {mk : Nat → τ → σ} {f : τ → α → τ} {fin : Nat} (t : Ty α) (l : List α) (I : Nat → τ → Prop) (hl : l.length ≤ 1000000000)
  (h:∀ j a,j < l.length→I j a→step (mk j a)=.next (mk (j+1) (f a (gL t l j)))∧I (j+1) (f a (gL t l j)))
  (hf:∀ a,I l.length a→step (mk l.length a)=.exit fin) (j0:Nat) (hj:j0≤l.length) (a:τ) (hi:I j0 a) :
  lp step (mk j0 a)=(fin,mk l.length ((l.drop j0).foldl f a))∧I l.length ((l.drop j0).foldl f a):=by
 have key:=nc1 (step:=step) (I:=fun m s=>∃ j b,m=l.length - j∧j≤l.length∧s=mk j b∧I j b∧(l.drop j).foldl f b=(l.drop j0).foldl f a)
  (Q:=fun u s=>u=fin∧s=mk l.length ((l.drop j0).foldl f a)∧I l.length ((l.drop j0).foldl f a)) (fun m s ⟨j,b,hm,hj,hs,hb,he⟩=>by
   subst hs
   by_cases hlt:j < l.length
   ·obtain⟨h1,h2⟩:=h j b hlt hb
    refine .inr ⟨_,l.length - (j+1),by omega,h1,j+1,_,rfl,by omega,rfl,h2,?_⟩
    rw[← he,List.drop_eq_getElem_cons hlt,List.foldl_cons]
    simp[gL,List.getD_eq_getElem?_getD,List.getElem?_eq_getElem hlt]
   ·have:j=l.length:=by omega
    subst this
    have he:b=(l.drop j0).foldl f a:=by rw[← he];simp
    subst he
    exact .inl ⟨fin,hf _ hb,rfl,rfl,hb⟩) (l.length - j0) (mk j0 a) (by omega) ⟨j0,a,rfl,hj,rfl,hi,rfl⟩
 exact⟨by rw[← key.2.1,← key.1],key.2.2⟩
theorem Wa1 {mk : Nat → σ} {c : α → Bool} {u fin : Nat} (t : Ty α) (l : List α) (hl : l.length ≤ 1000000000)
  (h:∀ j,j < l.length→step (mk j)=sl (c (gL t l j)) (.exit u) (.next (mk (j+1)))) (hf:step (mk l.length)=.exit fin) (j0:Nat) (hj:j0≤l.length) :
  (lp step (mk j0)).1=if (l.drop j0).any c then u else fin :=
 nc1 (step:=step) (I:=fun m s=>∃ j,m=l.length - j∧j≤l.length∧s=mk j∧(l.drop j).any c=(l.drop j0).any c)
  (Q:=fun v _=>v=if (l.drop j0).any c then u else fin) (fun m s ⟨j,hm,hj,hs,he⟩=>by
   subst hs
   by_cases hlt:j < l.length
   ·have h1:=h j hlt
    have e:gL t l j=l[j]:=by simp[gL,List.getD_eq_getElem?_getD,List.getElem?_eq_getElem hlt]
    have e2:(l.drop j).any c=(c l[j]||(l.drop (j+1)).any c):=by rw[List.drop_eq_getElem_cons hlt,List.any_cons]
    rw[e] at h1
    cases hc:c l[j] with
    | true =>
     rw[hc] at h1
     refine .inl ⟨u,h1,?_⟩
     rw[← he,e2,hc];rfl
    | false =>
     rw[hc] at h1
     refine .inr ⟨_,l.length - (j+1),by omega,h1,j+1,rfl,by omega,rfl,?_⟩
     rw[← he,e2,hc];rfl
   ·have:j=l.length:=by omega
    subst this
    refine .inl ⟨fin,hf,?_⟩
    rw[← he];simp) (l.length - j0) (mk j0) (by omega) ⟨j0,rfl,hj,rfl,rfl⟩
theorem Ka6 {mk : Nat → σ} {c : α → Bool} {u fin : Nat} (t : Ty α) (l : List α) (hl : l.length ≤ 1000000000)
  (h:∀ j,j < l.length→step (mk j)=sl (c (gL t l j)) (.exit u) (.next (mk (j+1)))) (hf:step (mk l.length)=.exit fin) (j0:Nat) (hj:j0≤l.length) :
  lp step (mk j0)=if (l.drop j0).any c then (u,mk (j0+(l.drop j0).findIdx c)) else (fin,mk l.length):=by
 have key:=nc1 (step:=step) (I:=fun m s=>∃ j,m=l.length - j∧j≤l.length∧j0≤j∧s=mk j∧(l.drop j).any c=(l.drop j0).any c∧j+(l.drop j).findIdx c=j0+(l.drop j0).findIdx c)
  (Q:=fun v s=>(v,s)=if (l.drop j0).any c then (u,mk (j0+(l.drop j0).findIdx c)) else (fin,mk l.length)) (fun m s ⟨j,hm,hj,hj0,hs,he,hi⟩=>by
   subst hs
   by_cases hlt:j < l.length
   ·have h1:=h j hlt
    have e:gL t l j=l[j]:=by simp[gL,List.getD_eq_getElem?_getD,List.getElem?_eq_getElem hlt]
    have e2:(l.drop j).any c=(c l[j]||(l.drop (j+1)).any c):=by rw[List.drop_eq_getElem_cons hlt,List.any_cons]
    have e3:(l.drop j).findIdx c=if c l[j] then 0 else (l.drop (j+1)).findIdx c+1:=by rw[List.drop_eq_getElem_cons hlt,List.findIdx_cons];cases c l[j]<;>rfl
    rw[e] at h1
    cases hc:c l[j] with
    | true =>
     rw[hc] at h1
     refine .inl ⟨u,h1,?_⟩
     rw[← he,e2,hc,← hi,e3,hc];rfl
    | false =>
     rw[hc] at h1
     refine .inr ⟨_,l.length - (j+1),by omega,h1,j+1,rfl,by omega,by omega,rfl,?_,?_⟩
     ·rw[← he,e2,hc];rfl
     ·rw[← hi,e3,hc];simp only[Bool.false_eq_true,if_false];omega
   ·have:j=l.length:=by omega
    subst this
    refine .inl ⟨fin,hf,?_⟩
    rw[← he];simp) (l.length - j0) (mk j0) (by omega) ⟨j0,rfl,hj,Nat.le_refl _,rfl,rfl,rfl⟩
 exact key
end
theorem Pa5 {α:Type} (t:Ty α) {l:List α} {j:Nat} (h:j < l.length):gL t l j∈l:=by
 simp[gL,List.getD_eq_getElem?_getD,List.getElem?_eq_getElem h]
theorem kb7 {α:Type} (t:Ty α) {l:List α} {j:Nat} (h:j < l.length):gL t l j=l[j]:=by
 simp[gL,List.getD_eq_getElem?_getD,List.getElem?_eq_getElem h]
end Go.Ev.L
namespace Go.Ev.L
open Go Go.Ev
def euF:Nat→Int→Int→Int
 | 0,g,_=>g
 | k+1,g,n=>if n=0 then g else euF k n (Int.tmod g n)
def eu (g n:Int):Int:=euF (n.natAbs+1) g n
theorem bb1 {g n:Int} (h:n≠0):(Int.tmod g n).natAbs < n.natAbs:=by
 rw[Int.natAbs_tmod]
 exact Nat.mod_lt _ (by omega)
theorem Gd7:∀ (k m:Nat) {g n:Int},n.natAbs < k→n.natAbs < m→euF k g n=euF m g n
 | 0,_,_,_,h,_=>by omega
 | _+1,0,_,_,_,h=>by omega
 | k+1,m+1,g,n,h1,h2=>by
  unfold euF
  by_cases h:n=0
  ·rw[if_pos h,if_pos h]
  ·rw[if_neg h,if_neg h]
   have:=bb1 (g:=g) h
   exact Gd7 k m (by omega) (by omega)
theorem dc9 (g:Int):eu g 0=g:=by simp[eu,euF]
theorem td9 {g n:Int} (h:n≠0):eu g n=eu n (Int.tmod g n):=by
 have:=bb1 (g:=g) h
 unfold eu
 conv=>lhs;unfold euF
 rw[if_neg h]
 exact Gd7 _ _ (by omega) (by omega)
theorem Ue5:∀ (k:Nat) (g n:Int),n.natAbs≤k→(eu g n).natAbs=Int.gcd g n:=by
 intro k
 induction k with
 | zero =>
  intro g n h
  have:n=0:=by omega
  subst this
  rw[dc9];simp
 | succ k ih =>
  intro g n h
  by_cases h0:n=0
  ·subst h0;rw[dc9];simp
  ·have:=bb1 (g:=g) h0
   rw[td9 h0,ih n (Int.tmod g n) (by omega)]
   unfold Int.gcd
   rw[Int.natAbs_tmod,Nat.gcd_comm g.natAbs,Nat.gcd_comm n.natAbs,← Nat.gcd_rec]
theorem Ue6 (g n:Int):(eu g n).natAbs=Int.gcd g n:=Ue5 _ g n (Nat.le_refl _)
theorem he6:∀ (k:Nat) (g n:Int),n.natAbs≤k→0≤g→0≤n→0≤eu g n:=by
 intro k
 induction k with
 | zero =>
  intro g n h hg _
  have:n=0:=by omega
  subst this
  rw[dc9];exact hg
 | succ k ih =>
  intro g n h hg hn
  by_cases h0:n=0
  ·subst h0;rw[dc9];exact hg
  ·have:=bb1 (g:=g) h0
   rw[td9 h0]
   exact ih n _ (by omega) hn (Int.tmod_nonneg _ hg)
theorem Ue7 {g n:Int} (hg:0≤g) (hn:0≤n):eu g n=(Int.gcd g n:Int):=by
 have h1:=he6 _ g n (Nat.le_refl _) hg hn
 have h2:=Ue6 g n
 omega
section
variable {σ:Type} {step:σ→Stp σ} {mk:Int→Int→σ}
theorem vc5 (h:∀ g n,0 < n→step (mk g n)=.next (mk n (Int.tmod g n))) (h0:∀ g,step (mk g 0)=.exit 1) (g n:Int) (hg:0≤g) (h1:0≤n) (hn:n≤9223372036854775808):lp step (mk g n)=(1,mk (eu g n) 0):=by
 have:=nc1 (step:=step) (I:=fun m s=>∃ a c,s=mk a c∧c.natAbs≤m∧0≤a∧0≤c∧eu a c=eu g n) (Q:=fun u s=>(u,s)=(1,mk (eu g n) 0)) (fun m s ⟨a,c,hs,hm,ha,hc0,he⟩=>by
  subst hs
  by_cases hc:c=0
  ·subst hc
   rw[dc9] at he
   subst he
   exact .inl ⟨1,h0 _,rfl⟩
  ·have ht:=bb1 (g:=a) hc
   exact .inr ⟨_,m - 1,by omega,h a c (by omega),c,_,rfl,by omega,hc0,Int.tmod_nonneg _ ha,by rw[← he,td9 hc]⟩) n.natAbs (mk g n) (by omega) ⟨g,n,rfl,Nat.le_refl _,hg,h1,rfl⟩
 exact this
end
theorem mb {a c A C:Int} (h1:-A≤a) (h2:a≤A) (h3:-C≤c) (h4:c≤C):-(A*C)≤a*c∧a*c≤A*C:=by
 have hA:a.natAbs≤A.natAbs:=by omega
 have hC:c.natAbs≤C.natAbs:=by omega
 have h5:=Nat.mul_le_mul hA hC
 rw[← Int.natAbs_mul,← Int.natAbs_mul] at h5
 have h6:0≤A*C:=Int.mul_nonneg (by omega) (by omega)
 omega
end Go.Ev.L
namespace Go.Proofs
open Go.Shelf
set_option maxRecDepth 100000 in
def Ce.sortLayV_ren:Go.Shelf.Ren:=⟨fun | 6=>146 | 15=>180 | 14=>187 | 28=>207 | 29=>208 | 20=>212 | 21=>213 | 22=>214 | 23=>215 | 24=>216 | 25=>217 | 26=>218 | 27=>219 | 46=>230 | 47=>224 | 48=>225 | 49=>231 | 50=>232 | 57=>234 | n=>n,fun | 22=>33 | 24=>27 | 25=>112 | 3=>3 | 39=>173 | 0=>0 | 53=>197 | 55=>199 | 4=>4 | 46=>191 | 45=>190 | 50=>50 | 5=>5 | 9=>9 | 66=>210 | 70=>214 | 76=>218 | 77=>219 | n=>n,fun | n=>n⟩
set_option maxRecDepth 100000 in
theorem Ce.sortLayV:Go.Proofs.SlLaysF0.n6 Tryz.prog Ce.sortLayV_ren:={
 mixed:=by kernel_rfl
 f6:=⟨Tryz.f146.name,by decide,Tryz.func146.trans (congrArg some (by kernel_rfl))⟩
 f14:=⟨Tryz.f187.name,by decide,Tryz.func187.trans (congrArg some (by kernel_rfl))⟩
 f15:=Tryz.func180.trans (congrArg some (by kernel_rfl))
 f20:=⟨Tryz.f212.name,by decide,Tryz.func212.trans (congrArg some (by kernel_rfl))⟩
 f21:=⟨Tryz.f213.name,by decide,Tryz.func213.trans (congrArg some (by kernel_rfl))⟩
 f22:=⟨Tryz.f214.name,by decide,Tryz.func214.trans (congrArg some (by kernel_rfl))⟩
 f23:=⟨Tryz.f215.name,by decide,Tryz.func215.trans (congrArg some (by kernel_rfl))⟩
 f24:=⟨Tryz.f216.name,by decide,Tryz.func216.trans (congrArg some (by kernel_rfl))⟩
 f25:=⟨Tryz.f217.name,by decide,Tryz.func217.trans (congrArg some (by kernel_rfl))⟩
 f26:=⟨Tryz.f218.name,by decide,Tryz.func218.trans (congrArg some (by kernel_rfl))⟩
 f27:=⟨Tryz.f219.name,by decide,Tryz.func219.trans (congrArg some (by kernel_rfl))⟩
 f28:=Tryz.func207.trans (congrArg some (by kernel_rfl))
 f29:=Tryz.func208.trans (congrArg some (by kernel_rfl))
 f46:=⟨Tryz.f230.name,by decide,Tryz.func230.trans (congrArg some (by kernel_rfl))⟩
 f47:=Tryz.func224.trans (congrArg some (by kernel_rfl))
 f48:=Tryz.func225.trans (congrArg some (by kernel_rfl))
 f49:=⟨Tryz.f231.name,by decide,Tryz.func231.trans (congrArg some (by kernel_rfl))⟩
 f50:=⟨Tryz.f232.name,by decide,Tryz.func232.trans (congrArg some (by kernel_rfl))⟩
 f57:=⟨Tryz.f234.name,by decide,Tryz.func234.trans (congrArg some (by kernel_rfl))⟩
 t0:=Tryz.underlying0
 a0:=Tryz.isAgg0
 z0:=Tryz.sizeOf0
 v0:=Tryz.zeroValue0
 t3:=Tryz.underlying3
 a3:=Tryz.isAgg3
 z3:=Tryz.sizeOf3
 v3:=Tryz.zeroValue3
 t4:=Tryz.underlying4
 a4:=Tryz.isAgg4
 z4:=Tryz.sizeOf4
 v4:=Tryz.zeroValue4
 t5:=Tryz.underlying5
 a5:=Tryz.isAgg5
 z5:=Tryz.sizeOf5
 v5:=Tryz.zeroValue5
 t9:=Tryz.underlying9
 a9:=Tryz.isAgg9
 z9:=Tryz.sizeOf9
 v9:=Tryz.zeroValue9
 t22:=Tryz.underlying33
 a22:=Tryz.isAgg33
 z22:=Tryz.sizeOf33
 v22:=Tryz.zeroValue33
 t25:=Tryz.underlying112
 a25:=Tryz.isAgg112
 z25:=Tryz.sizeOf112
 v25:=Tryz.zeroValue112
 t39:=Tryz.underlying173
 a39:=Tryz.isAgg173
 z39:=Tryz.sizeOf173
 v39:=Tryz.zeroValue173
 t45:=Tryz.underlying190
 a45:=Tryz.isAgg190
 z45:=Tryz.sizeOf190
 v45:=Tryz.zeroValue190
 t46:=Tryz.underlying191
 a46:=Tryz.isAgg191
 z46:=Tryz.sizeOf191
 v46:=Tryz.zeroValue191
 t50:=Tryz.underlying50
 a50:=Tryz.isAgg50
 z50:=Tryz.sizeOf50
 v50:=Tryz.zeroValue50
 t53:=Tryz.underlying197
 a53:=Tryz.isAgg197
 z53:=Tryz.sizeOf197
 v53:=Tryz.zeroValue197
 t55:=Tryz.underlying199
 a55:=Tryz.isAgg199
 z55:=Tryz.sizeOf199
 v55:=Tryz.zeroValue199
 t66:=Tryz.underlying210
 a66:=Tryz.isAgg210
 z66:=Tryz.sizeOf210
 v66:=Tryz.zeroValue210
 t70:=Tryz.underlying214
 a70:=Tryz.isAgg214
 z70:=Tryz.sizeOf214
 v70:=Tryz.zeroValue214
 t76:=Tryz.underlying218
 a76:=Tryz.isAgg218
 z76:=Tryz.sizeOf218
 v76:=Tryz.zeroValue218
 t77:=Tryz.underlying219
 a77:=Tryz.isAgg219
 z77:=Tryz.sizeOf219
 v77:=Tryz.zeroValue219 }
end Go.Proofs
namespace Go.Ev.Ce
open Go Go.Ev Go.Ev.L Go.Proofs Go.Sort
theorem Zd2 (x y:Int):ia4 x y=some (i (Ha6 x y),[]):=by
 unfold ia4 Ea1 Ha6
 simp only[bne_self_eq_false,Ub7,decide_eq_true_eq,Bool.false_eq_true,if_false]
 split<;>(try split)<;>rfl
theorem Ue8 (x y:Int):Y5 x y=Ha6 x y:=by unfold Y5;rw[Zd2];rfl
theorem Ue9 (x y:Int):Y6 x y=true:=by unfold Y6;rw[Zd2];rfl
def orI (a c d:Int):Int:=if a=0 then if c=0 then d else c else a
theorem Ge6 (a c d:Int):((lp (aa5 ⟨[a,c,d],3⟩) ⟨0⟩).1=1∧gL tI [a,c,d] (lp (aa5 ⟨[a,c,d],3⟩) ⟨0⟩).2.is8.toNat=orI a c d)∨((lp (aa5 ⟨[a,c,d],3⟩) ⟨0⟩).1=2∧orI a c d=0):=by
 have g0:gL tI [a,c,d] 0=a:=rfl
 have g1:gL tI [a,c,d] 1=c:=rfl
 have g2:gL tI [a,c,d] 2=d:=rfl
 refine nc1 (step:=aa5 ⟨[a,c,d],3⟩) (I:=fun m s=>(m=3∧s=⟨0⟩)∨(m=2∧s=⟨1⟩∧a=0)∨(m=1∧s=⟨2⟩∧a=0∧c=0)∨(m=0∧s=⟨3⟩∧a=0∧c=0∧d=0))
  (Q:=fun t s=>(t=1∧gL tI [a,c,d] s.is8.toNat=orI a c d)∨(t=2∧orI a c d=0)) (fun m s hi=>?_) 3 ⟨0⟩ (by omega) (.inl ⟨rfl,rfl⟩)
 rcases hi with⟨rfl,rfl⟩ | ⟨rfl,rfl,ha⟩ | ⟨rfl,rfl,ha,hc⟩ | ⟨rfl,rfl,ha,hc,hd⟩
 ·by_cases h:a=0
  ·exact .inr ⟨⟨1⟩,2,rfl,by subst h;rfl,.inr (.inl ⟨rfl,rfl,h⟩)⟩
  ·refine .inl ⟨1,?_,.inl ⟨rfl,by unfold orI;rw[if_neg h];rfl⟩⟩
   show sl (a != 0) (Stp.exit 1) (Stp.next (⟨W (0+1)⟩:L5))=_
   rw[bt (by simpa using h)]
 ·by_cases h:c=0
  ·exact .inr ⟨⟨2⟩,1,rfl,by subst h;rfl,.inr (.inr (.inl ⟨rfl,rfl,ha,h⟩))⟩
  ·refine .inl ⟨1,?_,.inl ⟨rfl,by unfold orI;rw[if_pos ha,if_neg h];rfl⟩⟩
   show sl (c != 0) (Stp.exit 1) (Stp.next (⟨W (1+1)⟩:L5))=_
   rw[bt (by simpa using h)]
 ·by_cases h:d=0
  ·exact .inr ⟨⟨3⟩,0,rfl,by subst h;rfl,.inr (.inr (.inr ⟨rfl,rfl,ha,hc,h⟩))⟩
  ·refine .inl ⟨1,?_,.inl ⟨rfl,by unfold orI;rw[if_pos ha,if_pos hc];rfl⟩⟩
   show sl (d != 0) (Stp.exit 1) (Stp.next (⟨W (2+1)⟩:L5))=_
   rw[bt (by simpa using h)]
 ·exact .inl ⟨2,rfl,.inr ⟨rfl,by unfold orI;rw[if_pos ha,if_pos hc];exact hd⟩⟩
theorem Pe5 (a c d:Int):Ka3 [a,c,d]=some (i (orI a c d),[]):=by
 have h:=Ge6 a c d
 unfold Ka3
 simp only[j8,j7]
 rw[show ((([a,c,d]:List Int).length:Nat):Int)=3 from rfl]
 generalize lp (aa5 ⟨[a,c,d],3⟩) ⟨0⟩=r at *
 rcases h with⟨h1,h2⟩ | ⟨h1,h2⟩
 ·rw[h1,h2];rfl
 ·rw[h1,h2];rfl
theorem rf3 (a c d:Int):Za9 [a,c,d]=orI a c d:=by unfold Za9;rw[Pe5];rfl
theorem rf4 (a c d:Int):ab0 [a,c,d]=true:=by unfold ab0;rw[Pe5];rfl
def Ga2 (x y:V3):Int:=orI (Ha6 x.x y.x) (Ha6 x.y y.y) (Ha6 x.z y.z)
def LtV (x y:V3):Prop:=x.x < y.x∨x.x=y.x∧(x.y < y.y∨x.y=y.y∧x.z < y.z)
instance (x y:V3):Decidable (LtV x y):=by unfold LtV;exact inferInstance
theorem Hc1 (x y:V3):Ga2 x y < 0↔LtV x y:=by
 have h1:=wb0 x.x y.x;have h2:=cc6 x.x y.x
 have h3:=wb0 x.y y.y;have h4:=cc6 x.y y.y
 have h5:=wb0 x.z y.z
 unfold Ga2 orI LtV
 split
 ·split<;>omega
 ·omega
theorem Ha3 (x y:V3):ltOf Ga2 x y=decide (LtV x y):=by
 unfold ltOf
 rw[decide_eq_decide]
 exact Hc1 x y
theorem ff7:SWO (ltOf Ga2) where
 irrefl x:=by rw[Ha3];simp[LtV]
 trans x y z h1 h2:=by rw[Ha3,decide_eq_true_eq] at *;unfold LtV at *;omega
 ntrans x y z h1 h2:=by rw[Ha3,decide_eq_false_iff_not] at *;unfold LtV at *;omega
theorem rf5 (x y:V3) (h1:ltOf Ga2 x y=false) (h2:ltOf Ga2 y x=false):x=y:=by
 rw[Ha3,decide_eq_false_iff_not] at *
 unfold LtV at *
 obtain⟨a,b,c⟩:=x;obtain⟨a',b',c'⟩:=y
 simp only at *
 have:a=a'∧b=b'∧c=c':=by omega
 obtain⟨rfl,rfl,rfl⟩:=this
 rfl
theorem vc6 (x y:V3):wa3 x y=some (i (Ga2 x y),[]):=by
 unfold wa3 Ga2
 simp only[Ue8,Ue9,rf3,rf4,q8]
theorem Ve0 (x y:V3):Ka4 x y=Ga2 x y:=by unfold Ka4;rw[vc6];rfl
theorem Ve1 (x y:V3):Ka5 x y=true:=by unfold Ka5;rw[vc6];rfl
theorem Ve2 (x y:V3):(fb1 [.agg (tV.row x),.agg (tV.row y)] []).run=some (i (Ga2 x y),[]):=by
 have:(fb1 [.agg (tV.row x),.agg (tV.row y)] []).run=sel (Ka5 x y) (some (i (Ka4 x y),[])) none:=by kernel_rfl
 rw[this,Ve1,Ve0]
def se5 (p:V3):List Value:=[.int .i64 p.x,.int .i64 p.y,.int .i64 p.z]
instance:Inhabited V3:=⟨⟨0,0,0⟩⟩
def yb8 (l:List V3):List V3:=l.mergeSort fun x y=>!ltOf Ga2 y x
theorem kd9 (l:List V3):(yb8 l).length=l.length:=List.length_mergeSort l
noncomputable def ta6:Sum:=Yd3 tV 147 27 yb8
theorem he7:Ce.sortLayV_ren.f 6=146:=by kernel_rfl
theorem Rc1:Ce.sortLayV_ren.t 24=27:=by kernel_rfl
set_option maxRecDepth 100000 in
theorem Ka7:g9 prog G 146 ta6:=by
 refine Yd4 (enc:=se5) (cf:=Ga2) ⟨_,Tryz.func146,by kernel_rfl,of_decide_eq_true (by kernel_rfl)⟩ (by decide) (fun _=>rfl) (fun r h=>bb2 (n:=3) h) (fun x v hv=>?_) kd9
  (fun blk off size w=>Yd2 Ac2 Ve2 (fun _=>rfl) (fun _=>rfl) _ _ _ _ _) (fun blk cap d w hcl hH hb hs=>?_)
 ·simp[se5] at hv
  rcases hv with rfl | rfl | rfl<;>rfl
 ·have eg:∀ args w,(callFunc 147 args).run Tryz.prog w=.ok (.enter 147 args) w:=enters_of Tryz.func147 (by kernel_rfl) rfl
  have:=AnyQ.slices_SortFunc Ce.sortLayV 3 (by rw[Rc1];exact Tryz.isAgg27) (by rw[Rc1];exact Tryz.sizeOf27) se5 (fun _=>rfl) (fun x v hv=>by simp[se5] at hv;rcases hv with rfl | rfl | rfl<;>rfl) Ga2 ff7 147 #[] blk 0 cap d w eg (hcl 0 d.size) hH hb hs
  rw[he7] at this
  refine this.mono fun e w' ⟨h1,d',n,os,h2,h3,h4⟩=>⟨h1,n,os,?_⟩
  have h5:=sorted_unique_holds ff7 rf5 d d' h2 h3
  rw[h4]
  show _=sortWorldK se5 3 w blk 0 n (d.toList.mergeSort fun x y=>!ltOf Ga2 y x).toArray os
  rw[← h5]
end Go.Ev.Ce
section
namespace Go.Ev.Ce
open Go Go.Ev Go.Ev.L Go.Proofs
set_option maxRecDepth 100000
noncomputable def Ob6:List (Nat×Sum):=[]
theorem Gb6:j9 prog G Ob6:=trivial
structure oa8 where
 alt:Nat
 ns0:Nat
 eh0:List (List b7)
noncomputable def S8 {α:Type} (kk:oa8→α) (x:V3×List V3):α:=(sl (Nat.beq (len (r6 (fun k=>(tV).row (gL tV (x.1::x.2) k)) (List.range (List.length x.2+1)))) 0) (kk ⟨1,0,[]⟩) (sl (Nat.beq 0 0&&Nat.ble ((0+(len (r6 (fun k=>(tV).row (gL tV (x.1::x.2) k)) (List.range (List.length x.2+1)))))*24) room) (kk ⟨1,(0+(len (r6 (fun k=>(tV).row (gL tV (x.1::x.2) k)) (List.range (List.length x.2+1))))),(app [] (r6 (fun k=>(tV).row (gL tV (x.1::x.2) k)) (List.range (List.length x.2+1))))⟩) (kk ⟨0,0,[]⟩)))
noncomputable def fa0 (x:V3×List V3):oa8:=S8 (fun r=>r) x
noncomputable def za6 (r:oa8):DT (b7×List c7):=(.ite (Nat.beq r.alt 1) (.ret ((.sl 0 0 r.ns0 0),[⟨27,3,r.eh0,true,false,0⟩])) .fail)
theorem Wb2 {α β:Type} (F:α→β) (kk:oa8→α) (x:V3×List V3):F (S8 kk x)=S8 (fun r=>F (kk r)) x:=by unfold S8;(repeat' apply k8 (f:=F))<;>rfl
noncomputable def Ga3:Sum:=V6 (Cd2 tV) (fun x=>za6 (fa0 x))
theorem Xa8:g9 prog G 145 Ga3:=vb1 (bd of5 Gb6) fun x=>A6 (Eq.trans (b:=S8 (fun r=>(za6 r).run) x) (by kernel_rfl) (Wb2 (fun r=>(za6 r).run) (fun r=>r) x).symm)
structure ia5 where
 ns0:Nat
 eh0:List (List b7)
noncomputable def ta7:List (Nat×Sum):=[]
theorem wb8:j9 prog G ta7:=trivial
structure D2 where
 ns0:Nat
 os4:Nat
 ns4:Nat
structure r5 where
 is3:Int
 is5:Int
 eh0:List (List b7)
noncomputable def rb2 (p:D2) (s:r5):St:=⟨((.sl 0 0 p.ns0 0)::(.unk::(.unk::((i s.is3)::((.sl 0 p.os4 p.ns4 0)::((i s.is5)::(ra 55 []))))))),[⟨27,3,s.eh0,true,false,0⟩]⟩
noncomputable def L6 {α:Type} (k:r5→α) (e:Nat→α) (z:α) (p:D2) (s:r5):α:=(sl (decide (s.is5 < (↑p.ns4:Int))) (sl (inB s.is5 p.ns4) (sl (ldR tV s.eh0 (p.os4+s.is5.toNat)) (sl (inB (W (s.is5 - 1)) p.ns4) (sl (ldR tV s.eh0 (p.os4+(W (s.is5 - 1)).toNat)) (sl (!(((rdR tV s.eh0 (p.os4+s.is5.toNat)).x==(rdR tV s.eh0 (p.os4+(W (s.is5 - 1)).toNat)).x)&&(((rdR tV s.eh0 (p.os4+s.is5.toNat)).y==(rdR tV s.eh0 (p.os4+(W (s.is5 - 1)).toNat)).y)&&(((rdR tV s.eh0 (p.os4+s.is5.toNat)).z==(rdR tV s.eh0 (p.os4+(W (s.is5 - 1)).toNat)).z)&&true)))) (sl (inB s.is5 p.ns4) (sl (ldR tV s.eh0 (p.os4+s.is5.toNat)) (sl (inB s.is3 p.ns0) (sl ((Nat.blt (0+s.is3.toNat) (len s.eh0))&&(Nat.ble (0+3) (len (e8 s.eh0 (0+s.is3.toNat))))) (k ⟨(W (s.is3+1)),(W (s.is5+1)),(setAt s.eh0 (0+s.is3.toNat) (S4 (e8 s.eh0 (0+s.is3.toNat)) 0 [(i (rdR tV s.eh0 (p.os4+s.is5.toNat)).x),(i (rdR tV s.eh0 (p.os4+s.is5.toNat)).y),(i (rdR tV s.eh0 (p.os4+s.is5.toNat)).z)]))⟩) z) z) z) z) (k ⟨s.is3,(W (s.is5+1)),s.eh0⟩)) z) z) z) z) (e 1))
noncomputable def s6 (p:D2) (s:r5):Stp r5:=L6 .next .exit .fail p s
noncomputable def oa9:Lo D2 r5:=⟨En ta7,1,re5,[1,1,0,1,4,4,1,0,4,1,2,1,0,1,4,4],[0,3,4,5],.p,[⟨((.s (.o (.sl 0 0 (some 0) none)))::((.s (.o .unk))::((.s (.o .unk))::((.s (.o (.int .i64)))::((.s (.o (.sl 0 0 none none)))::((.s (.o (.int .i64)))::(ru2 55 []))))))),[⟨27,3,true,none⟩],fun a H=>(⟨(slN (slT a 0)),(slO (slT a 4)),(slN (slT a 4))⟩,⟨(toI (slT a 3)),(toI (slT a 5)),(elT H 0)⟩)⟩],s6,[(some 2,fun p s=>⟨((.sl 0 0 p.ns0 0)::(.unk::(.unk::((i s.is3)::((.sl 0 p.os4 p.ns4 0)::((i s.is5)::(ra 23 ((i s.is5)::((.sl 0 p.os4 p.ns4 0)::((i (↑p.ns4:Int))::((b (decide (s.is5 < (↑p.ns4:Int))))::(ra 28 [])))))))))))),[⟨27,3,s.eh0,true,false,0⟩]⟩)],rb2⟩
theorem rb3:oa9.Ok:=Lo.ok [] (by kernel_rfl) .nil rfl (.cons (fun a H=>by kernel_rfl) .nil) fun p s=>(.of @L6 (fun F _ _ _ _ _=>by unfold L6;(repeat' apply k8 (f:=F))<;>rfl) (by kernel_rfl))
structure O9 where
 ns0:Nat
 eh0:List (List b7)
structure v8 where
 is3:Int
noncomputable def rb4 (p:O9) (s:v8):St:=⟨((.sl 0 0 p.ns0 0)::(.unk::(.unk::((i s.is3)::(ra 57 []))))),[⟨27,3,p.eh0,true,false,0⟩]⟩
noncomputable def L7 {α:Type} (k:v8→α) (e:Nat→α) (z:α) (p:O9) (s:v8):α:=let t1:=(lp (s6 (⟨p.ns0,(0+s.is3.toNat),(p.ns0 - s.is3.toNat)⟩:D2)) (⟨s.is3,1,p.eh0⟩:r5));(sl (decide (s.is3 < (↑p.ns0:Int))) (sl (inB s.is3 p.ns0) (sl (ldR tV p.eh0 (0+s.is3.toNat)) (sl (inB (W (s.is3 - 1)) p.ns0) (sl (ldR tV p.eh0 (0+(W (s.is3 - 1)).toNat)) (sl (((rdR tV p.eh0 (0+s.is3.toNat)).x==(rdR tV p.eh0 (0+(W (s.is3 - 1)).toNat)).x)&&(((rdR tV p.eh0 (0+s.is3.toNat)).y==(rdR tV p.eh0 (0+(W (s.is3 - 1)).toNat)).y)&&(((rdR tV p.eh0 (0+s.is3.toNat)).z==(rdR tV p.eh0 (0+(W (s.is3 - 1)).toNat)).z)&&true))) (sl (inB s.is3 (p.ns0+1)) (sl (Nat.beq t1.1 1) (sl (inB t1.2.is3 (p.ns0+1)) (sl (inB t1.2.is3 (p.ns0+1)) (e 1) z) z) z) z) (k ⟨(W (s.is3+1))⟩)) z) z) z) z) (e 2))
noncomputable def M7 (p:O9) (s:v8):Stp v8:=L7 .next .exit .fail p s
noncomputable def pa0:Lo O9 v8:=⟨En ta7,1,re5,[1,1,0,1,4,4],[0,3],(.s .p (.s (.b (.s .p (.c (.s .p (.s (.s .p (.b (.u oa9.ls))) .p)) .p))) .p)),[⟨((.s (.o (.sl 0 0 (some 0) none)))::((.s (.o .unk))::((.s (.o .unk))::((.s (.o (.int .i64)))::(ru2 57 []))))),[⟨27,3,true,none⟩],fun a H=>(⟨(slN (slT a 0)),(elT H 0)⟩,⟨(toI (slT a 3))⟩)⟩],M7,[(none,fun p s=>let t1:=(lp (s6 (⟨p.ns0,(0+s.is3.toNat),(p.ns0 - s.is3.toNat)⟩:D2)) (⟨s.is3,1,p.eh0⟩:r5));⟨[(.sl 0 0 (t1.2.is3.toNat - 0) 0)],[⟨27,3,(app (I1 t1.2.eh0 (0+t1.2.is3.toNat)) (app (List.replicate (p.ns0 - t1.2.is3.toNat) [(i 0),(i 0),(i 0)]) (d9 t1.2.eh0 ((0+t1.2.is3.toNat)+(p.ns0 - t1.2.is3.toNat))))),true,false,0⟩]⟩),(some 0,fun p s=>⟨((.sl 0 0 p.ns0 0)::(.unk::(.unk::((i s.is3)::(ra 6 ((i s.is3)::((.sl 0 0 p.ns0 0)::((i (↑p.ns0:Int))::((b (decide (s.is3 < (↑p.ns0:Int))))::(ra 47 [])))))))))),[⟨27,3,p.eh0,true,false,0⟩]⟩)],rb4⟩
theorem rb5:pa0.Ok:=Lo.ok [oa9.pr] (by kernel_rfl) (.cons rb3 .nil) rfl (.cons (fun a H=>by kernel_rfl) .nil) fun p s=>(.of @L7 (fun F _ _ _ _ _=>by unfold L7;(repeat' apply k8 (f:=F))<;>rfl) (by kernel_rfl))
structure ia6 where
 alt:Nat
 ns0:Nat
 eh0:List (List b7)
noncomputable def M8 {α:Type} (kk:ia6→α) (x:ia5):α:=let t1:=(lp (M7 (⟨x.ns0,x.eh0⟩:O9)) (⟨1⟩:v8));let t2:=(lp (s6 (⟨x.ns0,(0+t1.2.is3.toNat),(x.ns0 - t1.2.is3.toNat)⟩:D2)) (⟨t1.2.is3,1,x.eh0⟩:r5));(sl (decide ((↑x.ns0:Int) < 2)) (kk ⟨1,x.ns0,x.eh0⟩) (sl (Nat.beq t1.1 1) (kk ⟨1,(t2.2.is3.toNat - 0),(app (I1 t2.2.eh0 (0+t2.2.is3.toNat)) (app (List.replicate (x.ns0 - t2.2.is3.toNat) [(i 0),(i 0),(i 0)]) (d9 t2.2.eh0 ((0+t2.2.is3.toNat)+(x.ns0 - t2.2.is3.toNat)))))⟩) (sl (Nat.beq t1.1 2) (kk ⟨1,x.ns0,x.eh0⟩) (kk ⟨0,0,[]⟩))))
noncomputable def M9 (x:ia5):ia6:=M8 (fun r=>r) x
noncomputable def ta8 (x:ia5) (r:ia6):DT (b7×List c7):=(.ite (Nat.beq r.alt 1) (.ret ((.sl 0 0 r.ns0 0),[⟨27,3,r.eh0,true,false,0⟩])) .fail)
theorem Gb7 {α β:Type} (F:α→β) (kk:ia6→α) (x:ia5):F (M8 kk x)=M8 (fun r=>F (kk r)) x:=by unfold M8;(repeat' apply k8 (f:=F))<;>rfl
noncomputable def wa4:Sum:=mb4 ⟨[(.s (.o (.sl 0 0 (some 0) none)))],[⟨27,3,true,none⟩],fun a H=>(⟨(slN (slT a 0)),(elT H 0)⟩,())⟩ (fun x=>ta8 x (M9 x))
theorem Na6:g9 prog G 148 wa4:=X4 (enc:=fun x=>⟨[(.sl 0 0 x.ns0 0)],[⟨27,3,x.eh0,true,false,0⟩]⟩) (fun a H=>by kernel_rfl) (bd of7 wb8) fun x=>xa9 (.s .p (.s .p (.s (.s .p (.b (.u pa0.ls))) .p))) [pa0.pr] (by kernel_rfl) (.cons rb5 .nil) (Eq.trans (b:=M8 (fun r=>(ta8 x r).run) x) (by kernel_rfl) (Gb7 (fun r=>(ta8 x r).run) (fun r=>r) x).symm)
noncomputable def nc2:List (Nat×Sum):=[(145,Ga3),(146,ta6),(148,wa4)]
theorem ec0:j9 prog G nc2:=⟨Xa8,Ka7,Na6,trivial⟩
noncomputable def qa4 (x:V3×List V3):Option (b7×List c7):=let t1:=(fa0 (hC tV (fun k=>(tV).row (gL tV (x.1::x.2) k)),tC tV (List.length x.2) (fun k=>(tV).row (gL tV (x.1::x.2) k))));let t2:=(M9 ⟨t1.ns0,(app (bL tV (yb8 (slR tV t1.eh0 0 t1.ns0))) (d9 t1.eh0 t1.ns0))⟩);(sl (okL tV (List.length x.2+1) (fun k=>(tV).row (gL tV (x.1::x.2) k))) (sl (Nat.beq t1.alt 1) (sl (Bool.and (Nat.ble t1.ns0 room) (Bool.and (Nat.ble t1.ns0 (len t1.eh0)) (okS tV t1.eh0 0 t1.ns0))) (sl (Nat.beq t2.alt 1) (some ((.sl 0 0 t2.ns0 0),[⟨27,3,t2.eh0,true,false,0⟩])) none) none) none) none)
noncomputable def Wa2 (x:V3×List V3):List V3:=M4 (one (r1L tV)) (qa4 x)
noncomputable def Wa3 (x:V3×List V3):Bool:=okO (one (r1L tV)) (qa4 x)
noncomputable def yb9:Sum:=V6 (Cd2 tV) (fun x=>.guard (Wa3 x) (.ret ((one (r1L tV)).enc (Wa2 x),[])))
theorem nc3:g9 prog G 92 yb9:=Ta2 (bd b92 ec0) (one (r1L tV)) (o:=qa4) fun x=>A6 (by kernel_rfl)
end Go.Ev.Ce
end
section
namespace Go.Ev.Ce
open Go Go.Ev Go.Ev.L Go.Proofs
set_option maxRecDepth 100000
noncomputable def Ra7:List (Nat×Sum):=[(118,wb7),(92,yb9),(177,Va7),(52,dc2),(120,Rb2),(121,Ga9),(119,va8)]
theorem Rc2:j9 prog G Ra7:=⟨Rb3,nc3,qb8,cd5,Qc7,mb8,Da7,trivial⟩
structure P0 where
 is3:Int
 is4:Int
 is9:Int
 w4:Int
 U2:Int
 o9:Int
 Ca8:Int
 b9:List V3
 c9:List V3
structure B5 where
 ph:Nat
 C4:Int
 eh4:List (List b7)
 y9:Nat
 eh5:List (List b7)
noncomputable def nc4 (p:P0) (s:B5):St:=⟨(.unk::((.ptr 0 0 0 0)::(.unk::((i p.is3)::((i p.is4)::(ra 4 ((i p.is9)::((i p.w4)::(ra 5 ((i p.U2)::((i p.o9)::(ra 5 ((i p.Ca8)::((i s.C4)::(ra 35 ((i 0)::(.unk::((.ptr 1 0 0 0)::((.v (.slice none 0 0))::((i 0)::(.unk::((.ptr 2 0 0 0)::((.ptr 3 0 0 0)::(ra 28 [])))))))))))))))))))))))),[⟨0,1,[[(eL tV p.b9)]],true,false,0⟩,⟨0,1,[[(eL tV p.c9)]],true,false,0⟩,⟨0,0,[[(.ptr 4 0 0 0)]],true,false,0⟩,⟨0,0,[[(.v (.slice none 0 0))]],true,false,0⟩,⟨143,0,s.eh4,true,false,0⟩]⟩
noncomputable def nc5 (p:P0) (s:B5):St:=⟨(.unk::((.ptr 0 0 0 0)::(.unk::((i p.is3)::((i p.is4)::(ra 4 ((i p.is9)::((i p.w4)::(ra 5 ((i p.U2)::((i p.o9)::(ra 5 ((i p.Ca8)::((i s.C4)::(ra 35 ((i 0)::(.unk::((.ptr 1 0 0 0)::((.v (.slice none 0 0))::((i 0)::(.unk::((.ptr 2 0 0 0)::((.ptr 3 0 0 0)::(ra 28 [])))))))))))))))))))))))),[⟨0,1,[[(eL tV p.b9)]],true,false,0⟩,⟨0,1,[[(eL tV p.c9)]],true,false,0⟩,⟨0,0,[[(.ptr 4 0 0 0)]],true,false,0⟩,⟨0,0,[[(.sl 5 0 s.y9 0)]],true,false,0⟩,⟨143,0,s.eh4,true,false,0⟩,⟨73,4,s.eh5,true,false,0⟩]⟩
noncomputable def Ac3 (p:P0) (s:B5):St:=(sel (Nat.beq s.ph 1) (nc5 p s) (nc4 p s))
noncomputable def S9 {α:Type} (k:B5→α) (e:Nat→α) (z:α) (p:P0) (s:B5):α:=let t1:=(H7 (gL tV p.b9 s.C4.toNat) (gL tV p.b9 p.is4.toNat) (gL tV p.b9 p.is3.toNat));let t2:=(ya2 t1.1);let t3:=(da0 (rt tV p.c9) t2);let t4:=(da0 (rt tV p.c9) t1.1);(sl (decide (s.C4 < p.Ca8)) (sl (inB s.C4 (List.length p.b9)) (sl (inB p.is4 (List.length p.b9)) (sl (inB p.is3 (List.length p.b9)) (sl (ha3 (gL tV p.b9 s.C4.toNat) (gL tV p.b9 p.is4.toNat) (gL tV p.b9 p.is3.toNat)) (sl t1.2 (sl t1.2 (sl (Ga6 4 [(0,(.int .i64)),(1,(.int .i64)),(2,(.int .i64)),(3,(.int .i64))] [(i t1.1.n.x),(i t1.1.n.y),(i t1.1.n.z),(i t1.1.b)] s.eh4) (sl (Ga6 4 [(0,(.int .i64)),(1,(.int .i64)),(2,(.int .i64)),(3,(.int .i64))] [(i t2.n.x),(i t2.n.y),(i t2.n.z),(i t2.b)] s.eh4) (k ⟨0,(W (s.C4+1)),s.eh4,0,[]⟩) (sl (okE tV p.c9) (sl (H9 (rt tV p.c9) t2) (sl (!t3) (k ⟨1,(W (s.C4+1)),(V2 [(0,(.int .i64)),(1,(.int .i64)),(2,(.int .i64)),(3,(.int .i64))] [(i t2.n.x),(i t2.n.y),(i t2.n.z),(i t2.b)] [(i t2.n.x),(i t2.n.y),(i t2.n.z),(i t2.b),(b true)] s.eh4),1,[[(i t2.n.x),(i t2.n.y),(i t2.n.z),(i t2.b)]]⟩) (k ⟨0,(W (s.C4+1)),(V2 [(0,(.int .i64)),(1,(.int .i64)),(2,(.int .i64)),(3,(.int .i64))] [(i t2.n.x),(i t2.n.y),(i t2.n.z),(i t2.b)] [(i t2.n.x),(i t2.n.y),(i t2.n.z),(i t2.b),(b true)] s.eh4),0,[]⟩)) z) z)) (sl (okE tV p.c9) (sl (H9 (rt tV p.c9) t1.1) (sl (!t4) (sl (Ga6 4 [(0,(.int .i64)),(1,(.int .i64)),(2,(.int .i64)),(3,(.int .i64))] [(i t2.n.x),(i t2.n.y),(i t2.n.z),(i t2.b)] (V2 [(0,(.int .i64)),(1,(.int .i64)),(2,(.int .i64)),(3,(.int .i64))] [(i t1.1.n.x),(i t1.1.n.y),(i t1.1.n.z),(i t1.1.b)] [(i t1.1.n.x),(i t1.1.n.y),(i t1.1.n.z),(i t1.1.b),(b true)] s.eh4)) (k ⟨1,(W (s.C4+1)),(V2 [(0,(.int .i64)),(1,(.int .i64)),(2,(.int .i64)),(3,(.int .i64))] [(i t1.1.n.x),(i t1.1.n.y),(i t1.1.n.z),(i t1.1.b)] [(i t1.1.n.x),(i t1.1.n.y),(i t1.1.n.z),(i t1.1.b),(b true)] s.eh4),1,[[(i t1.1.n.x),(i t1.1.n.y),(i t1.1.n.z),(i t1.1.b)]]⟩) (sl (okE tV p.c9) (sl (H9 (rt tV p.c9) t2) (sl (!t3) (k ⟨1,(W (s.C4+1)),(V2 [(0,(.int .i64)),(1,(.int .i64)),(2,(.int .i64)),(3,(.int .i64))] [(i t2.n.x),(i t2.n.y),(i t2.n.z),(i t2.b)] [(i t2.n.x),(i t2.n.y),(i t2.n.z),(i t2.b),(b true)] (V2 [(0,(.int .i64)),(1,(.int .i64)),(2,(.int .i64)),(3,(.int .i64))] [(i t1.1.n.x),(i t1.1.n.y),(i t1.1.n.z),(i t1.1.b)] [(i t1.1.n.x),(i t1.1.n.y),(i t1.1.n.z),(i t1.1.b),(b true)] s.eh4)),2,[[(i t1.1.n.x),(i t1.1.n.y),(i t1.1.n.z),(i t1.1.b)],[(i t2.n.x),(i t2.n.y),(i t2.n.z),(i t2.b)]]⟩) (k ⟨1,(W (s.C4+1)),(V2 [(0,(.int .i64)),(1,(.int .i64)),(2,(.int .i64)),(3,(.int .i64))] [(i t2.n.x),(i t2.n.y),(i t2.n.z),(i t2.b)] [(i t2.n.x),(i t2.n.y),(i t2.n.z),(i t2.b),(b true)] (V2 [(0,(.int .i64)),(1,(.int .i64)),(2,(.int .i64)),(3,(.int .i64))] [(i t1.1.n.x),(i t1.1.n.y),(i t1.1.n.z),(i t1.1.b)] [(i t1.1.n.x),(i t1.1.n.y),(i t1.1.n.z),(i t1.1.b),(b true)] s.eh4)),1,[[(i t1.1.n.x),(i t1.1.n.y),(i t1.1.n.z),(i t1.1.b)]]⟩)) z) z)) (sl (Ga6 4 [(0,(.int .i64)),(1,(.int .i64)),(2,(.int .i64)),(3,(.int .i64))] [(i t2.n.x),(i t2.n.y),(i t2.n.z),(i t2.b)] (V2 [(0,(.int .i64)),(1,(.int .i64)),(2,(.int .i64)),(3,(.int .i64))] [(i t1.1.n.x),(i t1.1.n.y),(i t1.1.n.z),(i t1.1.b)] [(i t1.1.n.x),(i t1.1.n.y),(i t1.1.n.z),(i t1.1.b),(b true)] s.eh4)) (k ⟨0,(W (s.C4+1)),(V2 [(0,(.int .i64)),(1,(.int .i64)),(2,(.int .i64)),(3,(.int .i64))] [(i t1.1.n.x),(i t1.1.n.y),(i t1.1.n.z),(i t1.1.b)] [(i t1.1.n.x),(i t1.1.n.y),(i t1.1.n.z),(i t1.1.b),(b true)] s.eh4),0,[]⟩) (sl (okE tV p.c9) (sl (H9 (rt tV p.c9) t2) (sl (!t3) (k ⟨1,(W (s.C4+1)),(V2 [(0,(.int .i64)),(1,(.int .i64)),(2,(.int .i64)),(3,(.int .i64))] [(i t2.n.x),(i t2.n.y),(i t2.n.z),(i t2.b)] [(i t2.n.x),(i t2.n.y),(i t2.n.z),(i t2.b),(b true)] (V2 [(0,(.int .i64)),(1,(.int .i64)),(2,(.int .i64)),(3,(.int .i64))] [(i t1.1.n.x),(i t1.1.n.y),(i t1.1.n.z),(i t1.1.b)] [(i t1.1.n.x),(i t1.1.n.y),(i t1.1.n.z),(i t1.1.b),(b true)] s.eh4)),1,[[(i t2.n.x),(i t2.n.y),(i t2.n.z),(i t2.b)]]⟩) (k ⟨0,(W (s.C4+1)),(V2 [(0,(.int .i64)),(1,(.int .i64)),(2,(.int .i64)),(3,(.int .i64))] [(i t2.n.x),(i t2.n.y),(i t2.n.z),(i t2.b)] [(i t2.n.x),(i t2.n.y),(i t2.n.z),(i t2.b),(b true)] (V2 [(0,(.int .i64)),(1,(.int .i64)),(2,(.int .i64)),(3,(.int .i64))] [(i t1.1.n.x),(i t1.1.n.y),(i t1.1.n.z),(i t1.1.b)] [(i t1.1.n.x),(i t1.1.n.y),(i t1.1.n.z),(i t1.1.b),(b true)] s.eh4)),0,[]⟩)) z) z))) z) z)) (k ⟨0,(W (s.C4+1)),s.eh4,0,[]⟩)) (sl t1.2 z (k ⟨0,(W (s.C4+1)),s.eh4,0,[]⟩))) z) z) z) z) (e 1))
noncomputable def T0 {α:Type} (k:B5→α) (e:Nat→α) (z:α) (p:P0) (s:B5):α:=let t1:=(H7 (gL tV p.b9 s.C4.toNat) (gL tV p.b9 p.is4.toNat) (gL tV p.b9 p.is3.toNat));let t2:=(ya2 t1.1);let t3:=(da0 (rt tV p.c9) t2);let t4:=(da0 (rt tV p.c9) t1.1);let a0:=(Nat.beq s.y9 (len s.eh5)&&Nat.ble ((s.y9+1)*32) room);(sl (decide (s.C4 < p.Ca8)) (sl (inB s.C4 (List.length p.b9)) (sl (inB p.is4 (List.length p.b9)) (sl (inB p.is3 (List.length p.b9)) (sl (ha3 (gL tV p.b9 s.C4.toNat) (gL tV p.b9 p.is4.toNat) (gL tV p.b9 p.is3.toNat)) (sl t1.2 (sl t1.2 (sl (Ga6 4 [(0,(.int .i64)),(1,(.int .i64)),(2,(.int .i64)),(3,(.int .i64))] [(i t1.1.n.x),(i t1.1.n.y),(i t1.1.n.z),(i t1.1.b)] s.eh4) (sl (Ga6 4 [(0,(.int .i64)),(1,(.int .i64)),(2,(.int .i64)),(3,(.int .i64))] [(i t2.n.x),(i t2.n.y),(i t2.n.z),(i t2.b)] s.eh4) (k ⟨1,(W (s.C4+1)),s.eh4,s.y9,s.eh5⟩) (sl (okE tV p.c9) (sl (H9 (rt tV p.c9) t2) (sl (!t3) (sl a0 (k ⟨1,(W (s.C4+1)),(V2 [(0,(.int .i64)),(1,(.int .i64)),(2,(.int .i64)),(3,(.int .i64))] [(i t2.n.x),(i t2.n.y),(i t2.n.z),(i t2.b)] [(i t2.n.x),(i t2.n.y),(i t2.n.z),(i t2.b),(b true)] s.eh4),(s.y9+1),(app s.eh5 [[(i t2.n.x),(i t2.n.y),(i t2.n.z),(i t2.b)]])⟩) z) (k ⟨1,(W (s.C4+1)),(V2 [(0,(.int .i64)),(1,(.int .i64)),(2,(.int .i64)),(3,(.int .i64))] [(i t2.n.x),(i t2.n.y),(i t2.n.z),(i t2.b)] [(i t2.n.x),(i t2.n.y),(i t2.n.z),(i t2.b),(b true)] s.eh4),s.y9,s.eh5⟩)) z) z)) (sl (okE tV p.c9) (sl (H9 (rt tV p.c9) t1.1) (sl (!t4) (sl a0 (sl (Ga6 4 [(0,(.int .i64)),(1,(.int .i64)),(2,(.int .i64)),(3,(.int .i64))] [(i t2.n.x),(i t2.n.y),(i t2.n.z),(i t2.b)] (V2 [(0,(.int .i64)),(1,(.int .i64)),(2,(.int .i64)),(3,(.int .i64))] [(i t1.1.n.x),(i t1.1.n.y),(i t1.1.n.z),(i t1.1.b)] [(i t1.1.n.x),(i t1.1.n.y),(i t1.1.n.z),(i t1.1.b),(b true)] s.eh4)) (k ⟨1,(W (s.C4+1)),(V2 [(0,(.int .i64)),(1,(.int .i64)),(2,(.int .i64)),(3,(.int .i64))] [(i t1.1.n.x),(i t1.1.n.y),(i t1.1.n.z),(i t1.1.b)] [(i t1.1.n.x),(i t1.1.n.y),(i t1.1.n.z),(i t1.1.b),(b true)] s.eh4),(s.y9+1),(app s.eh5 [[(i t1.1.n.x),(i t1.1.n.y),(i t1.1.n.z),(i t1.1.b)]])⟩) (sl (okE tV p.c9) (sl (H9 (rt tV p.c9) t2) (sl (!t3) (sl (Nat.beq (s.y9+1) (len (app s.eh5 [[(i t1.1.n.x),(i t1.1.n.y),(i t1.1.n.z),(i t1.1.b)]]))&&Nat.ble (((s.y9+1)+1)*32) room) (k ⟨1,(W (s.C4+1)),(V2 [(0,(.int .i64)),(1,(.int .i64)),(2,(.int .i64)),(3,(.int .i64))] [(i t2.n.x),(i t2.n.y),(i t2.n.z),(i t2.b)] [(i t2.n.x),(i t2.n.y),(i t2.n.z),(i t2.b),(b true)] (V2 [(0,(.int .i64)),(1,(.int .i64)),(2,(.int .i64)),(3,(.int .i64))] [(i t1.1.n.x),(i t1.1.n.y),(i t1.1.n.z),(i t1.1.b)] [(i t1.1.n.x),(i t1.1.n.y),(i t1.1.n.z),(i t1.1.b),(b true)] s.eh4)),((s.y9+1)+1),(app (app s.eh5 [[(i t1.1.n.x),(i t1.1.n.y),(i t1.1.n.z),(i t1.1.b)]]) [[(i t2.n.x),(i t2.n.y),(i t2.n.z),(i t2.b)]])⟩) z) (k ⟨1,(W (s.C4+1)),(V2 [(0,(.int .i64)),(1,(.int .i64)),(2,(.int .i64)),(3,(.int .i64))] [(i t2.n.x),(i t2.n.y),(i t2.n.z),(i t2.b)] [(i t2.n.x),(i t2.n.y),(i t2.n.z),(i t2.b),(b true)] (V2 [(0,(.int .i64)),(1,(.int .i64)),(2,(.int .i64)),(3,(.int .i64))] [(i t1.1.n.x),(i t1.1.n.y),(i t1.1.n.z),(i t1.1.b)] [(i t1.1.n.x),(i t1.1.n.y),(i t1.1.n.z),(i t1.1.b),(b true)] s.eh4)),(s.y9+1),(app s.eh5 [[(i t1.1.n.x),(i t1.1.n.y),(i t1.1.n.z),(i t1.1.b)]])⟩)) z) z)) z) (sl (Ga6 4 [(0,(.int .i64)),(1,(.int .i64)),(2,(.int .i64)),(3,(.int .i64))] [(i t2.n.x),(i t2.n.y),(i t2.n.z),(i t2.b)] (V2 [(0,(.int .i64)),(1,(.int .i64)),(2,(.int .i64)),(3,(.int .i64))] [(i t1.1.n.x),(i t1.1.n.y),(i t1.1.n.z),(i t1.1.b)] [(i t1.1.n.x),(i t1.1.n.y),(i t1.1.n.z),(i t1.1.b),(b true)] s.eh4)) (k ⟨1,(W (s.C4+1)),(V2 [(0,(.int .i64)),(1,(.int .i64)),(2,(.int .i64)),(3,(.int .i64))] [(i t1.1.n.x),(i t1.1.n.y),(i t1.1.n.z),(i t1.1.b)] [(i t1.1.n.x),(i t1.1.n.y),(i t1.1.n.z),(i t1.1.b),(b true)] s.eh4),s.y9,s.eh5⟩) (sl (okE tV p.c9) (sl (H9 (rt tV p.c9) t2) (sl (!t3) (sl a0 (k ⟨1,(W (s.C4+1)),(V2 [(0,(.int .i64)),(1,(.int .i64)),(2,(.int .i64)),(3,(.int .i64))] [(i t2.n.x),(i t2.n.y),(i t2.n.z),(i t2.b)] [(i t2.n.x),(i t2.n.y),(i t2.n.z),(i t2.b),(b true)] (V2 [(0,(.int .i64)),(1,(.int .i64)),(2,(.int .i64)),(3,(.int .i64))] [(i t1.1.n.x),(i t1.1.n.y),(i t1.1.n.z),(i t1.1.b)] [(i t1.1.n.x),(i t1.1.n.y),(i t1.1.n.z),(i t1.1.b),(b true)] s.eh4)),(s.y9+1),(app s.eh5 [[(i t2.n.x),(i t2.n.y),(i t2.n.z),(i t2.b)]])⟩) z) (k ⟨1,(W (s.C4+1)),(V2 [(0,(.int .i64)),(1,(.int .i64)),(2,(.int .i64)),(3,(.int .i64))] [(i t2.n.x),(i t2.n.y),(i t2.n.z),(i t2.b)] [(i t2.n.x),(i t2.n.y),(i t2.n.z),(i t2.b),(b true)] (V2 [(0,(.int .i64)),(1,(.int .i64)),(2,(.int .i64)),(3,(.int .i64))] [(i t1.1.n.x),(i t1.1.n.y),(i t1.1.n.z),(i t1.1.b)] [(i t1.1.n.x),(i t1.1.n.y),(i t1.1.n.z),(i t1.1.b),(b true)] s.eh4)),s.y9,s.eh5⟩)) z) z))) z) z)) (k ⟨1,(W (s.C4+1)),s.eh4,s.y9,s.eh5⟩)) (sl t1.2 z (k ⟨1,(W (s.C4+1)),s.eh4,s.y9,s.eh5⟩))) z) z) z) z) (e 2))
noncomputable def Q5 (p:P0) (s:B5):Stp B5:=(sel (Nat.beq s.ph 1) (T0 .next .exit .fail p s) (S9 .next .exit .fail p s))
noncomputable def fb2:Lo P0 B5:=⟨En Ra7,0,Fe2,[1,1,1,1,1,0,1,4,4,1,4,4,1,1,0,4,1,1,4,4,1,1,0,4,1,1,4,4],[1,3,4,9,10,16,17,23,24,60,62,63,64,66,67],.p,[⟨((.s (.o .unk))::((.s (.o (.ptr 0 0 0 0)))::((.s (.o .unk))::((.s (.o (.int .i64)))::((.s (.o (.int .i64)))::(ru2 4 ((.s (.o (.int .i64)))::((.s (.o (.int .i64)))::(ru2 5 ((.s (.o (.int .i64)))::((.s (.o (.int .i64)))::(ru2 5 ((.s (.o (.int .i64)))::((.s (.o (.int .i64)))::(ru2 35 ((.s (.o (.lit .i64 0)))::((.s (.o .unk))::((.s (.o (.ptr 1 0 0 0)))::((.s (.o .nil))::((.s (.o (.lit .i64 0)))::((.s (.o .unk))::((.s (.o (.ptr 2 0 0 0)))::((.s (.o (.ptr 3 0 0 0)))::(ru2 28 [])))))))))))))))))))))))),[⟨0,1,true,(some [[(.c 3 (nL tV))]])⟩,⟨0,1,true,(some [[(.c 3 (nL tV))]])⟩,⟨0,0,true,(some [[(.o (.ptr 4 0 0 0))]])⟩,⟨0,0,true,(some [[(.o .nil)]])⟩,⟨143,0,true,none⟩],fun a H=>(⟨(toI (slT a 3)),(toI (slT a 4)),(toI (slT a 9)),(toI (slT a 10)),(toI (slT a 16)),(toI (slT a 17)),(toI (slT a 23)),(rL tV (slT (rwT (elT H 0) 0) 0)),(rL tV (slT (rwT (elT H 1) 0) 0))⟩,⟨0,(toI (slT a 24)),(elT H 4),0,[]⟩)⟩,⟨((.s (.o .unk))::((.s (.o (.ptr 0 0 0 0)))::((.s (.o .unk))::((.s (.o (.int .i64)))::((.s (.o (.int .i64)))::(ru2 4 ((.s (.o (.int .i64)))::((.s (.o (.int .i64)))::(ru2 5 ((.s (.o (.int .i64)))::((.s (.o (.int .i64)))::(ru2 5 ((.s (.o (.int .i64)))::((.s (.o (.int .i64)))::(ru2 35 ((.s (.o (.lit .i64 0)))::((.s (.o .unk))::((.s (.o (.ptr 1 0 0 0)))::((.s (.o .nil))::((.s (.o (.lit .i64 0)))::((.s (.o .unk))::((.s (.o (.ptr 2 0 0 0)))::((.s (.o (.ptr 3 0 0 0)))::(ru2 28 [])))))))))))))))))))))))),[⟨0,1,true,(some [[(.c 3 (nL tV))]])⟩,⟨0,1,true,(some [[(.c 3 (nL tV))]])⟩,⟨0,0,true,(some [[(.o (.ptr 4 0 0 0))]])⟩,⟨0,0,true,(some [[(.o (.sl 5 0 (some 0) none))]])⟩,⟨143,0,true,none⟩,⟨73,4,true,none⟩],fun a H=>(⟨(toI (slT a 3)),(toI (slT a 4)),(toI (slT a 9)),(toI (slT a 10)),(toI (slT a 16)),(toI (slT a 17)),(toI (slT a 23)),(rL tV (slT (rwT (elT H 0) 0) 0)),(rL tV (slT (rwT (elT H 1) 0) 0))⟩,⟨1,(toI (slT a 24)),(elT H 4),(slN (slT (rwT (elT H 3) 0) 0)),(elT H 5)⟩)⟩],Q5,[(some 4,fun p s=>⟨(.unk::((.ptr 0 0 0 0)::(.unk::((i p.is3)::((i p.is4)::(ra 4 ((i p.is9)::((i p.w4)::(ra 5 ((i p.U2)::((i p.o9)::(ra 5 ((i p.Ca8)::((i s.C4)::((b (decide (s.C4 < p.Ca8)))::(ra 34 ((i 0)::(.unk::((.ptr 1 0 0 0)::((.v (.slice none 0 0))::((i 0)::(.unk::((.ptr 2 0 0 0)::((.ptr 3 0 0 0)::(ra 28 []))))))))))))))))))))))))),[⟨0,1,[[(eL tV p.b9)]],true,false,0⟩,⟨0,1,[[(eL tV p.c9)]],true,false,0⟩,⟨0,0,[[(.ptr 4 0 0 0)]],true,false,0⟩,⟨0,0,[[(.v (.slice none 0 0))]],true,false,0⟩,⟨143,0,s.eh4,true,false,0⟩]⟩),(some 4,fun p s=>⟨(.unk::((.ptr 0 0 0 0)::(.unk::((i p.is3)::((i p.is4)::(ra 4 ((i p.is9)::((i p.w4)::(ra 5 ((i p.U2)::((i p.o9)::(ra 5 ((i p.Ca8)::((i s.C4)::((b (decide (s.C4 < p.Ca8)))::(ra 34 ((i 0)::(.unk::((.ptr 1 0 0 0)::((.v (.slice none 0 0))::((i 0)::(.unk::((.ptr 2 0 0 0)::((.ptr 3 0 0 0)::(ra 28 []))))))))))))))))))))))))),[⟨0,1,[[(eL tV p.b9)]],true,false,0⟩,⟨0,1,[[(eL tV p.c9)]],true,false,0⟩,⟨0,0,[[(.ptr 4 0 0 0)]],true,false,0⟩,⟨0,0,[[(.sl 5 0 s.y9 0)]],true,false,0⟩,⟨143,0,s.eh4,true,false,0⟩,⟨73,4,s.eh5,true,false,0⟩]⟩)],Ac3⟩
theorem Ac4:fb2.OkM:=Lo.okM [] (by kernel_rfl) .nil rfl (.cons (fun a H=>by kernel_rfl) (.cons (fun a H=>by kernel_rfl) .nil)) fun p s=>(.sel (Nat.beq s.ph 1) (.of @T0 (fun F _ _ _ _ _=>by unfold T0;(repeat' apply k8 (f:=F))<;>rfl) (by kernel_rfl)) (.of @S9 (fun F _ _ _ _ _=>by unfold S9;(repeat' apply k8 (f:=F))<;>rfl) (by kernel_rfl)))
structure P1 where
 is3:Int
 is9:Int
 w4:Int
 U2:Int
structure A0 where
 ph:Nat
 o9:Int
 b9:List V3
 c9:List V3
 eh4:List (List b7)
 y9:Nat
 eh5:List (List b7)
noncomputable def nc6 (p:P1) (s:A0):St:=⟨(.unk::((.ptr 0 0 0 0)::(.unk::((i p.is3)::(ra 5 ((i p.is9)::((i p.w4)::(ra 5 ((i p.U2)::((i s.o9)::(ra 42 ((i 0)::(.unk::((.ptr 1 0 0 0)::((.v (.slice none 0 0))::((i 0)::(.unk::((.ptr 2 0 0 0)::((.ptr 3 0 0 0)::(ra 28 [])))))))))))))))))))),[⟨0,1,[[(eL tV s.b9)]],true,false,0⟩,⟨0,1,[[(eL tV s.c9)]],true,false,0⟩,⟨0,0,[[(.ptr 4 0 0 0)]],true,false,0⟩,⟨0,0,[[(.v (.slice none 0 0))]],true,false,0⟩,⟨143,0,s.eh4,true,false,0⟩]⟩
noncomputable def nc7 (p:P1) (s:A0):St:=⟨(.unk::((.ptr 0 0 0 0)::(.unk::((i p.is3)::(ra 5 ((i p.is9)::((i p.w4)::(ra 5 ((i p.U2)::((i s.o9)::(ra 42 ((i 0)::(.unk::((.ptr 1 0 0 0)::((.v (.slice none 0 0))::((i 0)::(.unk::((.ptr 2 0 0 0)::((.ptr 3 0 0 0)::(ra 28 [])))))))))))))))))))),[⟨0,1,[[(eL tV s.b9)]],true,false,0⟩,⟨0,1,[[(eL tV s.c9)]],true,false,0⟩,⟨0,0,[[(.ptr 4 0 0 0)]],true,false,0⟩,⟨0,0,[[(.sl 5 0 s.y9 0)]],true,false,0⟩,⟨143,0,s.eh4,true,false,0⟩,⟨73,4,s.eh5,true,false,0⟩]⟩
noncomputable def Ac5 (p:P1) (s:A0):St:=(sel (Nat.beq s.ph 1) (nc7 p s) (nc6 p s))
noncomputable def T1 {α:Type} (k:A0→α) (e:Nat→α) (z:α) (p:P1) (s:A0):α:=let t1:=(lp (Q5 (⟨p.is3,s.o9,p.is9,p.w4,p.U2,s.o9,(↑(s.o9.toNat - 0):Int),(rt tV s.b9),(rt tV s.c9)⟩:P0)) (⟨0,0,s.eh4,0,[]⟩:B5));(sl (decide (s.o9 < p.U2)) (sl (inB s.o9 ((List.length s.b9)+1)) (sl ((cnE tV s.b9)&&((cnE tV s.c9)&&true)) (sl (Nat.beq t1.1 1) (k ⟨0,(W (s.o9+1)),(rt tV s.b9),(rt tV s.c9),t1.2.eh4,0,[]⟩) (sl (Nat.beq t1.1 2) (k ⟨1,(W (s.o9+1)),(rt tV s.b9),(rt tV s.c9),t1.2.eh4,t1.2.y9,t1.2.eh5⟩) z)) z) z) (e 1))
noncomputable def T2 {α:Type} (k:A0→α) (e:Nat→α) (z:α) (p:P1) (s:A0):α:=let t1:=(lp (Q5 (⟨p.is3,s.o9,p.is9,p.w4,p.U2,s.o9,(↑(s.o9.toNat - 0):Int),(rt tV s.b9),(rt tV s.c9)⟩:P0)) (⟨1,0,s.eh4,s.y9,s.eh5⟩:B5));(sl (decide (s.o9 < p.U2)) (sl (inB s.o9 ((List.length s.b9)+1)) (sl ((cnE tV s.b9)&&((cnE tV s.c9)&&true)) (sl (Nat.beq t1.1 1) (k ⟨0,(W (s.o9+1)),(rt tV s.b9),(rt tV s.c9),t1.2.eh4,0,[]⟩) (sl (Nat.beq t1.1 2) (k ⟨1,(W (s.o9+1)),(rt tV s.b9),(rt tV s.c9),t1.2.eh4,t1.2.y9,t1.2.eh5⟩) z)) z) z) (e 2))
noncomputable def aa6 (p:P1) (s:A0):Stp A0:=(sel (Nat.beq s.ph 1) (T2 .next .exit .fail p s) (T1 .next .exit .fail p s))
noncomputable def fb3:Lo P1 A0:=⟨En Ra7,0,Fe2,[1,1,1,1,1,0,1,4,4,1,4,4,1,1,0,4,1,1,4,4],[1,3,9,10,16,17,60,62,63,64,66,67],(.s .p (.s .p (.s (.b (.s .p (.s .p (.b (.u fb2.lsM))))) .p))),[⟨((.s (.o .unk))::((.s (.o (.ptr 0 0 0 0)))::((.s (.o .unk))::((.s (.o (.int .i64)))::(ru2 5 ((.s (.o (.int .i64)))::((.s (.o (.int .i64)))::(ru2 5 ((.s (.o (.int .i64)))::((.s (.o (.int .i64)))::(ru2 42 ((.s (.o (.lit .i64 0)))::((.s (.o .unk))::((.s (.o (.ptr 1 0 0 0)))::((.s (.o .nil))::((.s (.o (.lit .i64 0)))::((.s (.o .unk))::((.s (.o (.ptr 2 0 0 0)))::((.s (.o (.ptr 3 0 0 0)))::(ru2 28 [])))))))))))))))))))),[⟨0,1,true,(some [[(.c 3 (nL tV))]])⟩,⟨0,1,true,(some [[(.c 3 (nL tV))]])⟩,⟨0,0,true,(some [[(.o (.ptr 4 0 0 0))]])⟩,⟨0,0,true,(some [[(.o .nil)]])⟩,⟨143,0,true,none⟩],fun a H=>(⟨(toI (slT a 3)),(toI (slT a 9)),(toI (slT a 10)),(toI (slT a 16))⟩,⟨0,(toI (slT a 17)),(rL tV (slT (rwT (elT H 0) 0) 0)),(rL tV (slT (rwT (elT H 1) 0) 0)),(elT H 4),0,[]⟩)⟩,⟨((.s (.o .unk))::((.s (.o (.ptr 0 0 0 0)))::((.s (.o .unk))::((.s (.o (.int .i64)))::(ru2 5 ((.s (.o (.int .i64)))::((.s (.o (.int .i64)))::(ru2 5 ((.s (.o (.int .i64)))::((.s (.o (.int .i64)))::(ru2 42 ((.s (.o (.lit .i64 0)))::((.s (.o .unk))::((.s (.o (.ptr 1 0 0 0)))::((.s (.o .nil))::((.s (.o (.lit .i64 0)))::((.s (.o .unk))::((.s (.o (.ptr 2 0 0 0)))::((.s (.o (.ptr 3 0 0 0)))::(ru2 28 [])))))))))))))))))))),[⟨0,1,true,(some [[(.c 3 (nL tV))]])⟩,⟨0,1,true,(some [[(.c 3 (nL tV))]])⟩,⟨0,0,true,(some [[(.o (.ptr 4 0 0 0))]])⟩,⟨0,0,true,(some [[(.o (.sl 5 0 (some 0) none))]])⟩,⟨143,0,true,none⟩,⟨73,4,true,none⟩],fun a H=>(⟨(toI (slT a 3)),(toI (slT a 9)),(toI (slT a 10)),(toI (slT a 16))⟩,⟨1,(toI (slT a 17)),(rL tV (slT (rwT (elT H 0) 0) 0)),(rL tV (slT (rwT (elT H 1) 0) 0)),(elT H 4),(slN (slT (rwT (elT H 3) 0) 0)),(elT H 5)⟩)⟩],aa6,[(some 2,fun p s=>⟨(.unk::((.ptr 0 0 0 0)::(.unk::((i p.is3)::(ra 5 ((i p.is9)::((i p.w4)::(ra 5 ((i p.U2)::((i s.o9)::((b (decide (s.o9 < p.U2)))::(ra 41 ((i 0)::(.unk::((.ptr 1 0 0 0)::((.v (.slice none 0 0))::((i 0)::(.unk::((.ptr 2 0 0 0)::((.ptr 3 0 0 0)::(ra 28 []))))))))))))))))))))),[⟨0,1,[[(eL tV s.b9)]],true,false,0⟩,⟨0,1,[[(eL tV s.c9)]],true,false,0⟩,⟨0,0,[[(.ptr 4 0 0 0)]],true,false,0⟩,⟨0,0,[[(.v (.slice none 0 0))]],true,false,0⟩,⟨143,0,s.eh4,true,false,0⟩]⟩),(some 2,fun p s=>⟨(.unk::((.ptr 0 0 0 0)::(.unk::((i p.is3)::(ra 5 ((i p.is9)::((i p.w4)::(ra 5 ((i p.U2)::((i s.o9)::((b (decide (s.o9 < p.U2)))::(ra 41 ((i 0)::(.unk::((.ptr 1 0 0 0)::((.v (.slice none 0 0))::((i 0)::(.unk::((.ptr 2 0 0 0)::((.ptr 3 0 0 0)::(ra 28 []))))))))))))))))))))),[⟨0,1,[[(eL tV s.b9)]],true,false,0⟩,⟨0,1,[[(eL tV s.c9)]],true,false,0⟩,⟨0,0,[[(.ptr 4 0 0 0)]],true,false,0⟩,⟨0,0,[[(.sl 5 0 s.y9 0)]],true,false,0⟩,⟨143,0,s.eh4,true,false,0⟩,⟨73,4,s.eh5,true,false,0⟩]⟩)],Ac5⟩
theorem Ac6:fb3.OkM:=Lo.okM [fb2.prM] (by kernel_rfl) (.cons Ac4 .nil) rfl (.cons (fun a H=>by kernel_rfl) (.cons (fun a H=>by kernel_rfl) .nil)) fun p s=>(.sel (Nat.beq s.ph 1) (.of @T2 (fun F _ _ _ _ _=>by unfold T2;(repeat' apply k8 (f:=F))<;>rfl) (by kernel_rfl)) (.of @T1 (fun F _ _ _ _ _=>by unfold T1;(repeat' apply k8 (f:=F))<;>rfl) (by kernel_rfl)))
structure W6 where
 is9:Int
structure B6 where
 ph:Nat
 w4:Int
 b9:List V3
 c9:List V3
 eh4:List (List b7)
 y9:Nat
 eh5:List (List b7)
noncomputable def nc8 (p:W6) (s:B6):St:=⟨(.unk::((.ptr 0 0 0 0)::(ra 7 ((i p.is9)::((i s.w4)::(ra 49 ((i 0)::(.unk::((.ptr 1 0 0 0)::((.v (.slice none 0 0))::((i 0)::(.unk::((.ptr 2 0 0 0)::((.ptr 3 0 0 0)::(ra 28 []))))))))))))))),[⟨0,1,[[(eL tV s.b9)]],true,false,0⟩,⟨0,1,[[(eL tV s.c9)]],true,false,0⟩,⟨0,0,[[(.ptr 4 0 0 0)]],true,false,0⟩,⟨0,0,[[(.v (.slice none 0 0))]],true,false,0⟩,⟨143,0,s.eh4,true,false,0⟩]⟩
noncomputable def nc9 (p:W6) (s:B6):St:=⟨(.unk::((.ptr 0 0 0 0)::(ra 7 ((i p.is9)::((i s.w4)::(ra 49 ((i 0)::(.unk::((.ptr 1 0 0 0)::((.v (.slice none 0 0))::((i 0)::(.unk::((.ptr 2 0 0 0)::((.ptr 3 0 0 0)::(ra 28 []))))))))))))))),[⟨0,1,[[(eL tV s.b9)]],true,false,0⟩,⟨0,1,[[(eL tV s.c9)]],true,false,0⟩,⟨0,0,[[(.ptr 4 0 0 0)]],true,false,0⟩,⟨0,0,[[(.sl 5 0 s.y9 0)]],true,false,0⟩,⟨143,0,s.eh4,true,false,0⟩,⟨73,4,s.eh5,true,false,0⟩]⟩
noncomputable def Ac7 (p:W6) (s:B6):St:=(sel (Nat.beq s.ph 1) (nc9 p s) (nc8 p s))
noncomputable def T3 {α:Type} (k:B6→α) (e:Nat→α) (z:α) (p:W6) (s:B6):α:=let t1:=(lp (aa6 (⟨s.w4,p.is9,s.w4,(↑(s.w4.toNat - 0):Int)⟩:P1)) (⟨0,0,(rt tV s.b9),(rt tV s.c9),s.eh4,0,[]⟩:A0));(sl (decide (s.w4 < p.is9)) (sl (inB s.w4 ((List.length s.b9)+1)) (sl ((cnE tV s.b9)&&((cnE tV s.c9)&&true)) (sl (Nat.beq t1.1 1) (k ⟨0,(W (s.w4+1)),t1.2.b9,t1.2.c9,t1.2.eh4,0,[]⟩) (sl (Nat.beq t1.1 2) (k ⟨1,(W (s.w4+1)),t1.2.b9,t1.2.c9,t1.2.eh4,t1.2.y9,t1.2.eh5⟩) z)) z) z) (e 1))
noncomputable def T4 {α:Type} (k:B6→α) (e:Nat→α) (z:α) (p:W6) (s:B6):α:=let t1:=(lp (aa6 (⟨s.w4,p.is9,s.w4,(↑(s.w4.toNat - 0):Int)⟩:P1)) (⟨1,0,(rt tV s.b9),(rt tV s.c9),s.eh4,s.y9,s.eh5⟩:A0));(sl (decide (s.w4 < p.is9)) (sl (inB s.w4 ((List.length s.b9)+1)) (sl ((cnE tV s.b9)&&((cnE tV s.c9)&&true)) (sl (Nat.beq t1.1 1) (k ⟨0,(W (s.w4+1)),t1.2.b9,t1.2.c9,t1.2.eh4,0,[]⟩) (sl (Nat.beq t1.1 2) (k ⟨1,(W (s.w4+1)),t1.2.b9,t1.2.c9,t1.2.eh4,t1.2.y9,t1.2.eh5⟩) z)) z) z) (e 2))
noncomputable def Ea2 (p:W6) (s:B6):Stp B6:=(sel (Nat.beq s.ph 1) (T4 .next .exit .fail p s) (T3 .next .exit .fail p s))
noncomputable def fb4:Lo W6 B6:=⟨En Ra7,0,Fe2,[1,1,1,1,1,0,1,4,4,1,4,4],[1,9,10,60,62,63,64,66,67],(.s .p (.s .p (.s (.b (.s .p (.s .p (.b (.u fb3.lsM))))) .p))),[⟨((.s (.o .unk))::((.s (.o (.ptr 0 0 0 0)))::(ru2 7 ((.s (.o (.int .i64)))::((.s (.o (.int .i64)))::(ru2 49 ((.s (.o (.lit .i64 0)))::((.s (.o .unk))::((.s (.o (.ptr 1 0 0 0)))::((.s (.o .nil))::((.s (.o (.lit .i64 0)))::((.s (.o .unk))::((.s (.o (.ptr 2 0 0 0)))::((.s (.o (.ptr 3 0 0 0)))::(ru2 28 []))))))))))))))),[⟨0,1,true,(some [[(.c 3 (nL tV))]])⟩,⟨0,1,true,(some [[(.c 3 (nL tV))]])⟩,⟨0,0,true,(some [[(.o (.ptr 4 0 0 0))]])⟩,⟨0,0,true,(some [[(.o .nil)]])⟩,⟨143,0,true,none⟩],fun a H=>(⟨(toI (slT a 9))⟩,⟨0,(toI (slT a 10)),(rL tV (slT (rwT (elT H 0) 0) 0)),(rL tV (slT (rwT (elT H 1) 0) 0)),(elT H 4),0,[]⟩)⟩,⟨((.s (.o .unk))::((.s (.o (.ptr 0 0 0 0)))::(ru2 7 ((.s (.o (.int .i64)))::((.s (.o (.int .i64)))::(ru2 49 ((.s (.o (.lit .i64 0)))::((.s (.o .unk))::((.s (.o (.ptr 1 0 0 0)))::((.s (.o .nil))::((.s (.o (.lit .i64 0)))::((.s (.o .unk))::((.s (.o (.ptr 2 0 0 0)))::((.s (.o (.ptr 3 0 0 0)))::(ru2 28 []))))))))))))))),[⟨0,1,true,(some [[(.c 3 (nL tV))]])⟩,⟨0,1,true,(some [[(.c 3 (nL tV))]])⟩,⟨0,0,true,(some [[(.o (.ptr 4 0 0 0))]])⟩,⟨0,0,true,(some [[(.o (.sl 5 0 (some 0) none))]])⟩,⟨143,0,true,none⟩,⟨73,4,true,none⟩],fun a H=>(⟨(toI (slT a 9))⟩,⟨1,(toI (slT a 10)),(rL tV (slT (rwT (elT H 0) 0) 0)),(rL tV (slT (rwT (elT H 1) 0) 0)),(elT H 4),(slN (slT (rwT (elT H 3) 0) 0)),(elT H 5)⟩)⟩],Ea2,[(some 0,fun p s=>⟨(.unk::((.ptr 0 0 0 0)::(ra 7 ((i p.is9)::((i s.w4)::((b (decide (s.w4 < p.is9)))::(ra 48 ((i 0)::(.unk::((.ptr 1 0 0 0)::((.v (.slice none 0 0))::((i 0)::(.unk::((.ptr 2 0 0 0)::((.ptr 3 0 0 0)::(ra 28 [])))))))))))))))),[⟨0,1,[[(eL tV s.b9)]],true,false,0⟩,⟨0,1,[[(eL tV s.c9)]],true,false,0⟩,⟨0,0,[[(.ptr 4 0 0 0)]],true,false,0⟩,⟨0,0,[[(.v (.slice none 0 0))]],true,false,0⟩,⟨143,0,s.eh4,true,false,0⟩]⟩),(some 0,fun p s=>⟨(.unk::((.ptr 0 0 0 0)::(ra 7 ((i p.is9)::((i s.w4)::((b (decide (s.w4 < p.is9)))::(ra 48 ((i 0)::(.unk::((.ptr 1 0 0 0)::((.v (.slice none 0 0))::((i 0)::(.unk::((.ptr 2 0 0 0)::((.ptr 3 0 0 0)::(ra 28 [])))))))))))))))),[⟨0,1,[[(eL tV s.b9)]],true,false,0⟩,⟨0,1,[[(eL tV s.c9)]],true,false,0⟩,⟨0,0,[[(.ptr 4 0 0 0)]],true,false,0⟩,⟨0,0,[[(.sl 5 0 s.y9 0)]],true,false,0⟩,⟨143,0,s.eh4,true,false,0⟩,⟨73,4,s.eh5,true,false,0⟩]⟩)],Ac7⟩
theorem Ac8:fb4.OkM:=Lo.okM [fb3.prM] (by kernel_rfl) (.cons Ac6 .nil) rfl (.cons (fun a H=>by kernel_rfl) (.cons (fun a H=>by kernel_rfl) .nil)) fun p s=>(.sel (Nat.beq s.ph 1) (.of @T4 (fun F _ _ _ _ _=>by unfold T4;(repeat' apply k8 (f:=F))<;>rfl) (by kernel_rfl)) (.of @T3 (fun F _ _ _ _ _=>by unfold T3;(repeat' apply k8 (f:=F))<;>rfl) (by kernel_rfl)))
noncomputable def pa1 (x:V3×List V3):Option (b7×List c7):=let t1:=(Ka1 (rt tV (x.1::x.2)));let t2:=(Wa2 (hC tV (fun k=>(tV).row (gL tV (x.1::x.2) k)),tC tV (List.length x.2) (fun k=>(tV).row (gL tV (x.1::x.2) k))));let t3:=(lp (Ea2 (⟨(↑(List.length t2):Int)⟩:W6)) (⟨0,0,(rt tV t2),(rt tV t2),[],0,[]⟩:B6));(sl (okE tV (x.1::x.2)) (sl (Ka2 (rt tV (x.1::x.2))) (sl (t1 != 0) (some ((.tup [(.v (.slice none 0 0)),(i t1)]),[])) (sl (okL tV (List.length x.2+1) (fun k=>(tV).row (gL tV (x.1::x.2) k))) (sl (Wa3 (hC tV (fun k=>(tV).row (gL tV (x.1::x.2) k)),tC tV (List.length x.2) (fun k=>(tV).row (gL tV (x.1::x.2) k)))) (sl ((cnE tV t2)&&((cnE tV t2)&&true)) (sl (Nat.beq t3.1 1) none (sl (Nat.beq t3.1 2) (sl (Bool.and (Nat.ble t3.2.y9 room) (Bool.and (Nat.ble t3.2.y9 (len t3.2.eh5)) (okS tP t3.2.eh5 0 t3.2.y9))) (some ((.tup [(.sl 0 0 t3.2.y9 0),(i 0)]),[⟨73,4,(app (bL tP (Qb8 (slR tP t3.2.eh5 0 t3.2.y9))) (d9 t3.2.eh5 t3.2.y9)),true,false,0⟩])) none) none)) none) none) none)) none) none)
noncomputable def wb9 (x:V3×List V3):List Pln×Int:=M4 (two (r1L tP) r1I) (pa1 x)
noncomputable def xb0 (x:V3×List V3):Bool:=okO (two (r1L tP) r1I) (pa1 x)
noncomputable def ec1:Sum:=V6 (Cd2 tV) (fun x=>.guard (xb0 x) (.ret ((two (r1L tP) r1I).enc (wb9 x),[])))
theorem dd3:g9 prog G 64 ec1:=Ta2 (bd b64 Rc2) (two (r1L tP) r1I) (o:=pa1) fun x=>Fd1 (.s .p (.s .p (.s .p (.s .p (.s .p (.s (.s .p (.b (.i (.s .p (.b (.u fb4.lsM)))))) .p)))))) [fb4.prM] (by kernel_rfl) (.cons Ac8 .nil) (by kernel_rfl)
end Go.Ev.Ce
end
section
namespace Go.Ev.Ce
open Go Go.Ev Go.Ev.L Go.Proofs
set_option maxRecDepth 100000
structure Ea3 where
 fa6:Int
 fa7:Int
 fa8:Int
 Wc8:Int
 d6:Int
 b8:Int
 d8:Int
noncomputable def oc0:List (Nat×Sum):=[(83,Ta4)]
theorem ec2:j9 prog G oc0:=⟨Ya7,trivial⟩
structure Ea4 where
 bs0:Bool
noncomputable def ha5 {α:Type} (kk:Ea4→α) (x:Ea3):α:=let t1:=(r7 (⟨x.d6,x.b8,x.d8⟩:V3) (⟨x.fa6,x.fa7,x.fa8⟩:V3));(kk ⟨(t1 != 0)⟩)
noncomputable def Wa4 (x:Ea3):Ea4:=ha5 (fun r=>r) x
noncomputable def Pa6 (x:Ea3) (r:Ea4):DT (b7×List c7):=.ret ((b r.bs0),[⟨0,3,[[(i x.d6),(i x.b8),(i x.d8)]],true,false,0⟩])
theorem Ac9 {α β:Type} (F:α→β) (kk:Ea4→α) (x:Ea3):F (ha5 kk x)=ha5 (fun r=>F (kk r)) x:=by unfold ha5;(repeat' apply k8 (f:=F))<;>rfl
noncomputable def zb0:Sum:=mb4 ⟨[(.agg [(.o (.int .i64)),(.o (.int .i64)),(.o (.int .i64)),(.o (.int .i64))]),(.s (.o (.ptr 0 0 0 0)))],[⟨0,3,true,(some [[(.o (.int .i64)),(.o (.int .i64)),(.o (.int .i64))]])⟩],fun a H=>(⟨(toI (slT (cellsOf (slT a 0)) 0)),(toI (slT (cellsOf (slT a 0)) 1)),(toI (slT (cellsOf (slT a 0)) 2)),(toI (slT (cellsOf (slT a 0)) 3)),(toI (slT (rwT (elT H 0) 0) 0)),(toI (slT (rwT (elT H 0) 0) 1)),(toI (slT (rwT (elT H 0) 0) 2))⟩,())⟩ (fun x=>Pa6 x (Wa4 x))
theorem oc1:g9 prog G 143 zb0:=X4 (enc:=fun x=>⟨[(.agg [(i x.fa6),(i x.fa7),(i x.fa8),(i x.Wc8)]),(.ptr 0 0 0 0)],[⟨0,3,[[(i x.d6),(i x.b8),(i x.d8)]],true,false,0⟩]⟩) (fun a H=>by kernel_rfl) (bd of4 ec2) fun x=>A6 (Eq.trans (b:=ha5 (fun r=>(Pa6 x r).run) x) (by kernel_rfl) (Ac9 (fun r=>(Pa6 x r).run) (fun r=>r) x).symm)
structure R5 where
 i9:List Pln
 d6:Int
 b8:Int
 d8:Int
noncomputable def wa5:List (Nat×Sum):=[(143,zb0)]
theorem ab2:j9 prog G wa5:=⟨oc1,trivial⟩
structure E2 where
 i9:List Pln
 is7:Int
 d6:Int
 b8:Int
 d8:Int
structure o5 where
 is8:Int
noncomputable def Wa5 (p:E2) (s:o5):St:=⟨((eL tP p.i9)::((.fn 143 [(.ptr 0 0 0 0)])::(ra 5 ((i p.is7)::((i s.is8)::(ra 10 [])))))),[⟨0,3,[[(i p.d6),(i p.b8),(i p.d8)]],true,false,0⟩]⟩
noncomputable def C9 {α:Type} (k:o5→α) (e:Nat→α) (z:α) (p:E2) (s:o5):α:=let t1:=(Wa4 ⟨(gL tP p.i9 s.is8.toNat).n.x,(gL tP p.i9 s.is8.toNat).n.y,(gL tP p.i9 s.is8.toNat).n.z,(gL tP p.i9 s.is8.toNat).b,p.d6,p.b8,p.d8⟩);(sl (decide (s.is8 < p.is7)) (sl (inB s.is8 (List.length p.i9)) (sl t1.bs0 (e 1) (k ⟨(W (s.is8+1))⟩)) z) (e 2))
noncomputable def D4 (p:E2) (s:o5):Stp o5:=C9 .next .exit .fail p s
noncomputable def ca3:Lo E2 o5:=⟨En wa5,1,Oe6,[1,0,1,4,4],[0,1,7,8],.p,[⟨((.s (.c 4 (nL tP)))::((.fn 143 [(.o (.ptr 0 0 0 0))])::(ru2 5 ((.s (.o (.int .i64)))::((.s (.o (.int .i64)))::(ru2 10 [])))))),[⟨0,3,true,(some [[(.o (.int .i64)),(.o (.int .i64)),(.o (.int .i64))]])⟩],fun a H=>(⟨(rL tP (slT a 0)),(toI (slT a 7)),(toI (slT (rwT (elT H 0) 0) 0)),(toI (slT (rwT (elT H 0) 0) 1)),(toI (slT (rwT (elT H 0) 0) 2))⟩,⟨(toI (slT a 8))⟩)⟩],D4,[(none,fun p s=>⟨[(i s.is8)],[⟨0,3,[[(i p.d6),(i p.b8),(i p.d8)]],true,false,0⟩]⟩),(some 0,fun p s=>⟨((eL tP p.i9)::((.fn 143 [(.ptr 0 0 0 0)])::(ra 5 ((i p.is7)::((i s.is8)::((b (decide (s.is8 < p.is7)))::(ra 9 []))))))),[⟨0,3,[[(i p.d6),(i p.b8),(i p.d8)]],true,false,0⟩]⟩)],Wa5⟩
theorem Wa6:ca3.Ok:=Lo.ok [] (by kernel_rfl) .nil rfl (.cons (fun a H=>by kernel_rfl) .nil) fun p s=>(.of @C9 (fun F _ _ _ _ _=>by unfold C9;(repeat' apply k8 (f:=F))<;>rfl) (by kernel_rfl))
structure R6 where
 alt:Nat
 is0:Int
noncomputable def D1 {α:Type} (kk:R6→α) (x:R5):α:=let t1:=(lp (D4 (⟨(rt tP x.i9),(↑(List.length x.i9):Int),x.d6,x.b8,x.d8⟩:E2)) (⟨0⟩:o5));(sl ((cnE tP x.i9)&&true) (sl (Nat.beq t1.1 1) (kk ⟨1,t1.2.is8⟩) (sl (Nat.beq t1.1 2) (kk ⟨1,(-1)⟩) (kk ⟨0,0⟩))) (kk ⟨0,0⟩))
noncomputable def R7 (x:R5):R6:=D1 (fun r=>r) x
noncomputable def fa1 (x:R5) (r:R6):DT (b7×List c7):=(.ite (Nat.beq r.alt 1) (.ret ((i r.is0),[⟨0,3,[[(i x.d6),(i x.b8),(i x.d8)]],true,false,0⟩])) .fail)
theorem ib4 {α β:Type} (F:α→β) (kk:R6→α) (x:R5):F (D1 kk x)=D1 (fun r=>F (kk r)) x:=by unfold D1;(repeat' apply k8 (f:=F))<;>rfl
noncomputable def za3:Sum:=mb4 ⟨[(.s (.c 4 (nL tP))),(.fn 143 [(.o (.ptr 0 0 0 0))])],[⟨0,3,true,(some [[(.o (.int .i64)),(.o (.int .i64)),(.o (.int .i64))]])⟩],fun a H=>(⟨(rL tP (slT a 0)),(toI (slT (rwT (elT H 0) 0) 0)),(toI (slT (rwT (elT H 0) 0) 1)),(toI (slT (rwT (elT H 0) 0) 2))⟩,())⟩ (fun x=>fa1 x (R7 x))
theorem fb5:g9 prog G 139 za3:=X4 (enc:=fun x=>⟨[(eL tP x.i9),(.fn 143 [(.ptr 0 0 0 0)])],[⟨0,3,[[(i x.d6),(i x.b8),(i x.d8)]],true,false,0⟩]⟩) (fun a H=>by kernel_rfl) (bd of0 ab2) fun x=>xa9 (.s .p (.s (.s .p (.b (.u ca3.ls))) .p)) [ca3.pr] (by kernel_rfl) (.cons Wa6 .nil) (Eq.trans (b:=D1 (fun r=>(fa1 x r).run) x) (by kernel_rfl) (ib4 (fun r=>(fa1 x r).run) (fun r=>r) x).symm)
structure M1 where
 i9:List Pln
 d6:Int
 b8:Int
 d8:Int
noncomputable def Ua0:List (Nat×Sum):=[(139,za3)]
theorem Pa7:j9 prog G Ua0:=⟨fb5,trivial⟩
structure M2 where
 alt:Nat
 bs0:Bool
noncomputable def z6 {α:Type} (kk:M2→α) (x:M1):α:=let t1:=(R7 ⟨(rt tP x.i9),x.d6,x.b8,x.d8⟩);(sl ((cnE tP x.i9)&&true) (sl (Nat.beq t1.alt 1) (kk ⟨1,(decide (t1.is0≥0))⟩) (kk ⟨0,false⟩)) (kk ⟨0,false⟩))
noncomputable def M3 (x:M1):M2:=z6 (fun r=>r) x
noncomputable def W7 (x:M1) (r:M2):DT (b7×List c7):=(.ite (Nat.beq r.alt 1) (.ret ((b r.bs0),[⟨0,3,[[(i x.d6),(i x.b8),(i x.d8)]],true,false,0⟩])) .fail)
theorem Wa7 {α β:Type} (F:α→β) (kk:M2→α) (x:M1):F (z6 kk x)=z6 (fun r=>F (kk r)) x:=by unfold z6;(repeat' apply k8 (f:=F))<;>rfl
noncomputable def qa5:Sum:=mb4 ⟨[(.s (.c 4 (nL tP))),(.fn 143 [(.o (.ptr 0 0 0 0))])],[⟨0,3,true,(some [[(.o (.int .i64)),(.o (.int .i64)),(.o (.int .i64))]])⟩],fun a H=>(⟨(rL tP (slT a 0)),(toI (slT (rwT (elT H 0) 0) 0)),(toI (slT (rwT (elT H 0) 0) 1)),(toI (slT (rwT (elT H 0) 0) 2))⟩,())⟩ (fun x=>W7 x (M3 x))
theorem Ua1:g9 prog G 86 qa5:=X4 (enc:=fun x=>⟨[(eL tP x.i9),(.fn 143 [(.ptr 0 0 0 0)])],[⟨0,3,[[(i x.d6),(i x.b8),(i x.d8)]],true,false,0⟩]⟩) (fun a H=>by kernel_rfl) (bd b86 Pa7) fun x=>A6 (Eq.trans (b:=z6 (fun r=>(W7 x r).run) x) (by kernel_rfl) (Wa7 (fun r=>(W7 x r).run) (fun r=>r) x).symm)
noncomputable def fb6:List (Nat×Sum):=[(142,mb5),(86,qa5)]
theorem Bc0:j9 prog G fb6:=⟨Fb1,Ua1,trivial⟩
structure qa6 where
 i9:List Pln
 tb2:List Pln
 is9:Int
 w4:Int
 Ze4:Nat
 Vd8:Nat→List b7
 ma0:Int
 d6:Int
 b8:Int
 d8:Int
 g8:Int
structure Q6 where
 tc5:Int
noncomputable def oc2 (p:qa6) (s:Q6):St:=⟨((eL tP p.i9)::(ra 3 ((.ptr 0 0 0 0)::(ra 3 ((eL tP p.tb2)::((i p.is9)::((i p.w4)::(ra 6 ((.tree 4 p.Ze4 p.Vd8)::((i p.ma0)::((i s.tc5)::(ra 18 [])))))))))))),[⟨0,4,[[(i p.d6),(i p.b8),(i p.d8),(i p.g8)]],true,false,0⟩]⟩
noncomputable def ia7 {α:Type} (k:Q6→α) (e:Nat→α) (z:α) (p:qa6) (s:Q6):α:=let t1:=(ca5 (⟨p.d6,p.b8,p.d8⟩:V3) (⟨(toI (hdA (p.Vd8 s.tc5.toNat))),(toI (hdA (tlA (p.Vd8 s.tc5.toNat)))),(toI (hdA (tlA (tlA (p.Vd8 s.tc5.toNat)))))⟩:V3));let t2:=(M3 ⟨(rt tP p.i9),t1.x,t1.y,t1.z⟩);(sl (decide (s.tc5 < p.ma0)) (sl (inB s.tc5 p.Ze4) (sl ((Nat.ble 4 (len (p.Vd8 s.tc5.toNat)))&&(K6 [(CK.int .i64),(CK.int .i64),(CK.int .i64),(CK.int .i64)] (p.Vd8 s.tc5.toNat))) (sl (!((t1.x==0)&&((t1.y==0)&&((t1.z==0)&&true)))) (sl ((cnE tP p.i9)&&true) (sl (Nat.beq t2.alt 1) (sl t2.bs0 (e 1) (k ⟨(W (s.tc5+1))⟩)) z) z) (k ⟨(W (s.tc5+1))⟩)) z) z) (e 2))
noncomputable def da3 (p:qa6) (s:Q6):Stp Q6:=ia7 .next .exit .fail p s
noncomputable def Wa8:Lo qa6 Q6:=⟨En fb6,0,Ue0,[1,0,1,4,4,1,1,0,4,1,1,4,4],[0,4,8,9,10,17,18,19],.p,[⟨((.s (.c 4 (nL tP)))::(ru2 3 ((.s (.o (.ptr 0 0 0 0)))::(ru2 3 ((.s (.c 4 (nL tP)))::((.s (.o (.int .i64)))::((.s (.o (.int .i64)))::(ru2 6 ((.s (.o (.tree 4)))::((.s (.o (.int .i64)))::((.s (.o (.int .i64)))::(ru2 18 [])))))))))))),[⟨0,4,true,(some [[(.o (.int .i64)),(.o (.int .i64)),(.o (.int .i64)),(.o (.int .i64))]])⟩],fun a H=>(⟨(rL tP (slT a 0)),(rL tP (slT a 8)),(toI (slT a 9)),(toI (slT a 10)),(toN (slT a 17)),(toG (slT a 17)),(toI (slT a 18)),(toI (slT (rwT (elT H 0) 0) 0)),(toI (slT (rwT (elT H 0) 0) 1)),(toI (slT (rwT (elT H 0) 0) 2)),(toI (slT (rwT (elT H 0) 0) 3))⟩,⟨(toI (slT a 19))⟩)⟩],da3,[(none,fun p s=>⟨[(b true)],[]⟩),(some 2,fun p s=>⟨((eL tP p.i9)::(ra 3 ((.ptr 0 0 0 0)::(ra 3 ((eL tP p.tb2)::((i p.is9)::((i p.w4)::(ra 6 ((.tree 4 p.Ze4 p.Vd8)::((i p.ma0)::((i s.tc5)::((b (decide (s.tc5 < p.ma0)))::(ra 17 []))))))))))))),[⟨0,4,[[(i p.d6),(i p.b8),(i p.d8),(i p.g8)]],true,false,0⟩]⟩)],oc2⟩
theorem oc3:Wa8.Ok:=Lo.ok [] (by kernel_rfl) .nil rfl (.cons (fun a H=>by kernel_rfl) .nil) fun p s=>(.of @ia7 (fun F _ _ _ _ _=>by unfold ia7;(repeat' apply k8 (f:=F))<;>rfl) (by kernel_rfl))
structure qa7 where
 is9:Int
structure Q7 where
 i9:List Pln
 tb2:List Pln
 w4:Int
noncomputable def oc4 (p:qa7) (s:Q7):St:=⟨((eL tP s.i9)::(ra 7 ((eL tP s.tb2)::((i p.is9)::((i s.w4)::(ra 27 [])))))),[]⟩
noncomputable def ia8 {α:Type} (k:Q7→α) (e:Nat→α) (z:α) (p:qa7) (s:Q7):α:=let t1:=(lp (da3 (⟨(rt tP s.i9),(rt tP s.tb2),p.is9,s.w4,(s.w4.toNat - 0),(fun k=>(fun k=>(tP).row (gL tP s.i9 k)) (0+k)),(↑(s.w4.toNat - 0):Int),(gL tP s.tb2 s.w4.toNat).n.x,(gL tP s.tb2 s.w4.toNat).n.y,(gL tP s.tb2 s.w4.toNat).n.z,(gL tP s.tb2 s.w4.toNat).b⟩:qa6)) (⟨0⟩:Q6));(sl (decide (s.w4 < p.is9)) (sl (inB s.w4 (List.length s.tb2)) (sl (inB s.w4 ((List.length s.i9)+1)) (sl ((cnE tP s.i9)&&((cnE tP s.tb2)&&true)) (sl (Nat.beq t1.1 1) (e 1) (sl (Nat.beq t1.1 2) (k ⟨(rt tP s.i9),(rt tP s.tb2),(W (s.w4+1))⟩) z)) z) z) z) (e 2))
noncomputable def da4 (p:qa7) (s:Q7):Stp Q7:=ia8 .next .exit .fail p s
noncomputable def Wa9:Lo qa7 Q7:=⟨En fb6,0,Ue0,[1,0,1,4,4],[0,8,9,10],(.s .p (.s .p (.s (.b (.s .p (.s .p (.b (.u Wa8.ls))))) .p))),[⟨((.s (.c 4 (nL tP)))::(ru2 7 ((.s (.c 4 (nL tP)))::((.s (.o (.int .i64)))::((.s (.o (.int .i64)))::(ru2 27 [])))))),[],fun a H=>(⟨(toI (slT a 9))⟩,⟨(rL tP (slT a 0)),(rL tP (slT a 8)),(toI (slT a 10))⟩)⟩],da4,[(none,fun p s=>⟨[(b true)],[]⟩),(some 0,fun p s=>⟨((eL tP s.i9)::(ra 7 ((eL tP s.tb2)::((i p.is9)::((i s.w4)::((b (decide (s.w4 < p.is9)))::(ra 26 []))))))),[]⟩)],oc4⟩
theorem oc5:Wa9.Ok:=Lo.ok [Wa8.pr] (by kernel_rfl) (.cons oc3 .nil) rfl (.cons (fun a H=>by kernel_rfl) .nil) fun p s=>(.of @ia8 (fun F _ _ _ _ _=>by unfold ia8;(repeat' apply k8 (f:=F))<;>rfl) (by kernel_rfl))
noncomputable def Ba7 (x:List Pln):Option (b7×List c7):=let t1:=(lp (da4 (⟨(↑(List.length x):Int)⟩:qa7)) (⟨(rt tP x),(rt tP x),0⟩:Q7));(sl ((cnE tP x)&&((cnE tP x)&&true)) (sl (Nat.beq t1.1 1) (some ((b true),[])) (sl (Nat.beq t1.1 2) (some ((b false),[])) none)) none)
noncomputable def sa5 (x:List Pln):Bool:=M4 (one r1B) (Ba7 x)
noncomputable def sa6 (x:List Pln):Bool:=okO (one r1B) (Ba7 x)
noncomputable def Rb5:Sum:=V6 (oa4 tP) (fun x=>.guard (sa6 x) (.ret ((one r1B).enc (sa5 x),[])))
theorem Rc3:g9 prog G 90 Rb5:=Ta2 (bd b90 Bc0) (one r1B) (o:=Ba7) fun x=>xa9 (.s .p (.s (.s .p (.b (.u Wa9.ls))) .p)) [Wa9.pr] (by kernel_rfl) (.cons oc5 .nil) (by kernel_rfl)
structure ya4 where
 fa6:Int
 fa7:Int
 fa8:Int
 s8:List Pln
noncomputable def kb8:List (Nat×Sum):=[(88,Za1),(90,Rb5)]
theorem Wb3:j9 prog G kb8:=⟨nb6,Rc3,trivial⟩
structure G6 where
 Na2:List Pln
 is8:Int
 s8:List Pln
 F6:Int
 F7:Int
 F8:Int
structure o3 where
 ph:Nat
 is9:Int
 ns4:Nat
 eh2:List (List b7)
noncomputable def Gb8 (p:G6) (s:o3):St:=⟨(.unk::(.unk::((.ptr 1 0 0 0)::(.unk::((.v (.slice none 0 0))::(.unk::(.unk::((eL tP p.Na2)::((i p.is8)::((i s.is9)::(ra 15 []))))))))))),[⟨0,1,[[(eL tP p.s8)]],true,false,0⟩,⟨0,3,[[(i p.F6),(i p.F7),(i p.F8)]],true,false,0⟩]⟩
noncomputable def Gb9 (p:G6) (s:o3):St:=⟨(.unk::(.unk::((.ptr 1 0 0 0)::(.unk::((.sl 2 0 s.ns4 0)::(.unk::(.unk::((eL tP p.Na2)::((i p.is8)::((i s.is9)::(ra 15 []))))))))))),[⟨0,1,[[(eL tP p.s8)]],true,false,0⟩,⟨0,3,[[(i p.F6),(i p.F7),(i p.F8)]],true,false,0⟩,⟨73,4,s.eh2,true,false,0⟩]⟩
noncomputable def Ob7 (p:G6) (s:o3):St:=(sel (Nat.beq s.ph 1) (Gb9 p s) (Gb8 p s))
noncomputable def G7 {α:Type} (k:o3→α) (e:Nat→α) (z:α) (p:G6) (s:o3):α:=let t1:=(oa6 (gL tP p.Na2 s.is9.toNat) (⟨p.F6,p.F7,p.F8⟩:V3));(sl (decide (s.is9 < p.is8)) (sl (inB s.is9 (List.length p.Na2)) (sl (oa7 (gL tP p.Na2 s.is9.toNat) (⟨p.F6,p.F7,p.F8⟩:V3)) (sl (t1==0) (k ⟨1,(W (s.is9+1)),1,[[(i (gL tP p.Na2 s.is9.toNat).n.x),(i (gL tP p.Na2 s.is9.toNat).n.y),(i (gL tP p.Na2 s.is9.toNat).n.z),(i (gL tP p.Na2 s.is9.toNat).b)]]⟩) (k ⟨0,(W (s.is9+1)),0,[]⟩)) z) z) (e 1))
noncomputable def G8 {α:Type} (k:o3→α) (e:Nat→α) (z:α) (p:G6) (s:o3):α:=let t1:=(oa6 (gL tP p.Na2 s.is9.toNat) (⟨p.F6,p.F7,p.F8⟩:V3));(sl (decide (s.is9 < p.is8)) (sl (inB s.is9 (List.length p.Na2)) (sl (oa7 (gL tP p.Na2 s.is9.toNat) (⟨p.F6,p.F7,p.F8⟩:V3)) (sl (t1==0) (sl (Nat.beq s.ns4 (len s.eh2)&&Nat.ble ((s.ns4+1)*32) room) (k ⟨1,(W (s.is9+1)),(s.ns4+1),(app s.eh2 [[(i (gL tP p.Na2 s.is9.toNat).n.x),(i (gL tP p.Na2 s.is9.toNat).n.y),(i (gL tP p.Na2 s.is9.toNat).n.z),(i (gL tP p.Na2 s.is9.toNat).b)]])⟩) z) (k ⟨1,(W (s.is9+1)),s.ns4,s.eh2⟩)) z) z) (e 2))
noncomputable def ma3 (p:G6) (s:o3):Stp o3:=(sel (Nat.beq s.ph 1) (G8 .next .exit .fail p s) (G7 .next .exit .fail p s))
noncomputable def Ga4:Lo G6 o3:=⟨En kb8,1,cf1,[1,1,0,1,4,4],[2,4,7,8,9],.p,[⟨((.s (.o .unk))::((.s (.o .unk))::((.s (.o (.ptr 1 0 0 0)))::((.s (.o .unk))::((.s (.o .nil))::((.s (.o .unk))::((.s (.o .unk))::((.s (.c 4 (nL tP)))::((.s (.o (.int .i64)))::((.s (.o (.int .i64)))::(ru2 15 []))))))))))),[⟨0,1,true,(some [[(.c 4 (nL tP))]])⟩,⟨0,3,true,(some [[(.o (.int .i64)),(.o (.int .i64)),(.o (.int .i64))]])⟩],fun a H=>(⟨(rL tP (slT a 7)),(toI (slT a 8)),(rL tP (slT (rwT (elT H 0) 0) 0)),(toI (slT (rwT (elT H 1) 0) 0)),(toI (slT (rwT (elT H 1) 0) 1)),(toI (slT (rwT (elT H 1) 0) 2))⟩,⟨0,(toI (slT a 9)),0,[]⟩)⟩,⟨((.s (.o .unk))::((.s (.o .unk))::((.s (.o (.ptr 1 0 0 0)))::((.s (.o .unk))::((.s (.o (.sl 2 0 (some 0) none)))::((.s (.o .unk))::((.s (.o .unk))::((.s (.c 4 (nL tP)))::((.s (.o (.int .i64)))::((.s (.o (.int .i64)))::(ru2 15 []))))))))))),[⟨0,1,true,(some [[(.c 4 (nL tP))]])⟩,⟨0,3,true,(some [[(.o (.int .i64)),(.o (.int .i64)),(.o (.int .i64))]])⟩,⟨73,4,true,none⟩],fun a H=>(⟨(rL tP (slT a 7)),(toI (slT a 8)),(rL tP (slT (rwT (elT H 0) 0) 0)),(toI (slT (rwT (elT H 1) 0) 0)),(toI (slT (rwT (elT H 1) 0) 1)),(toI (slT (rwT (elT H 1) 0) 2))⟩,⟨1,(toI (slT a 9)),(slN (slT a 4)),(elT H 2)⟩)⟩],ma3,[(some 0,fun p s=>⟨(.unk::(.unk::((.ptr 1 0 0 0)::(.unk::((.v (.slice none 0 0))::(.unk::(.unk::((eL tP p.Na2)::((i p.is8)::((i s.is9)::((b (decide (s.is9 < p.is8)))::(ra 14 [])))))))))))),[⟨0,1,[[(eL tP p.s8)]],true,false,0⟩,⟨0,3,[[(i p.F6),(i p.F7),(i p.F8)]],true,false,0⟩]⟩),(some 0,fun p s=>⟨(.unk::(.unk::((.ptr 1 0 0 0)::(.unk::((.sl 2 0 s.ns4 0)::(.unk::(.unk::((eL tP p.Na2)::((i p.is8)::((i s.is9)::((b (decide (s.is9 < p.is8)))::(ra 14 [])))))))))))),[⟨0,1,[[(eL tP p.s8)]],true,false,0⟩,⟨0,3,[[(i p.F6),(i p.F7),(i p.F8)]],true,false,0⟩,⟨73,4,s.eh2,true,false,0⟩]⟩)],Ob7⟩
theorem Ob8:Ga4.Ok:=Lo.ok [] (by kernel_rfl) .nil rfl (.cons (fun a H=>by kernel_rfl) (.cons (fun a H=>by kernel_rfl) .nil)) fun p s=>(.sel (Nat.beq s.ph 1) (.of @G8 (fun F _ _ _ _ _=>by unfold G8;(repeat' apply k8 (f:=F))<;>rfl) (by kernel_rfl)) (.of @G7 (fun F _ _ _ _ _=>by unfold G7;(repeat' apply k8 (f:=F))<;>rfl) (by kernel_rfl)))
structure ya5 where
 alt:Nat
 bs0:Bool
 s8:List Pln
noncomputable def da5 {α:Type} (kk:ya5→α) (x:ya4):α:=let t1:=(lp (ma3 (⟨(rt tP x.s8),(↑(List.length x.s8):Int),(rt tP x.s8),x.fa6,x.fa7,x.fa8⟩:G6)) (⟨0,0,0,[]⟩:o3));let t2:=(sa5 []);let t3:=(sa5 (slR tP t1.2.eh2 0 t1.2.ns4));(sl ((cnE tP x.s8)&&((cnE tP x.s8)&&true)) (sl (Nat.beq t1.1 1) (sl (sa6 []) (kk ⟨1,(!t2),(rt tP x.s8)⟩) (kk ⟨0,false,[]⟩)) (sl (Nat.beq t1.1 2) (sl (okS tP t1.2.eh2 0 t1.2.ns4) (sl (sa6 (slR tP t1.2.eh2 0 t1.2.ns4)) (kk ⟨1,(!t3),(rt tP x.s8)⟩) (kk ⟨0,false,[]⟩)) (kk ⟨0,false,[]⟩)) (kk ⟨0,false,[]⟩))) (kk ⟨0,false,[]⟩))
noncomputable def T5 (x:ya4):ya5:=da5 (fun r=>r) x
noncomputable def Ka8 (x:ya4) (r:ya5):DT (b7×List c7):=(.ite (Nat.beq r.alt 1) (.ret ((b r.bs0),[⟨0,1,[[(eL tP r.s8)]],true,false,0⟩])) .fail)
theorem oc6 {α β:Type} (F:α→β) (kk:ya5→α) (x:ya4):F (da5 kk x)=da5 (fun r=>F (kk r)) x:=by unfold da5;(repeat' apply k8 (f:=F))<;>rfl
noncomputable def Pa8:Sum:=mb4 ⟨[(.agg [(.o (.int .i64)),(.o (.int .i64)),(.o (.int .i64))]),(.s (.o (.ptr 0 0 0 0)))],[⟨0,1,true,(some [[(.c 4 (nL tP))]])⟩],fun a H=>(⟨(toI (slT (cellsOf (slT a 0)) 0)),(toI (slT (cellsOf (slT a 0)) 1)),(toI (slT (cellsOf (slT a 0)) 2)),(rL tP (slT (rwT (elT H 0) 0) 0))⟩,())⟩ (fun x=>Ka8 x (T5 x))
theorem kb9:g9 prog G 89 Pa8:=X4 (enc:=fun x=>⟨[(.agg [(i x.fa6),(i x.fa7),(i x.fa8)]),(.ptr 0 0 0 0)],[⟨0,1,[[(eL tP x.s8)]],true,false,0⟩]⟩) (fun a H=>by kernel_rfl) (bd b89 Wb3) fun x=>xa9 (.s .p (.s .p (.s (.s .p (.b (.u Ga4.ls))) .p))) [Ga4.pr] (by kernel_rfl) (.cons Ob8 .nil) (Eq.trans (b:=da5 (fun r=>(Ka8 x r).run) x) (by kernel_rfl) (oc6 (fun r=>(Ka8 x r).run) (fun r=>r) x).symm)
structure Y7 where
 ns0:Nat
 eh0:List (List b7)
 s9:List Pln
noncomputable def Ba8:List (Nat×Sum):=[(89,Pa8)]
theorem ib5:j9 prog G Ba8:=⟨kb9,trivial⟩
structure J3 where
 ns0:Nat
 is7:Int
 eh0:List (List b7)
structure q7 where
 is8:Int
 s9:List Pln
noncomputable def fb7 (p:J3) (s:q7):St:=⟨((.sl 0 0 p.ns0 0)::((.fn 89 [(.ptr 1 0 0 0)])::(ra 5 ((i p.is7)::((i s.is8)::(ra 10 [])))))),[⟨27,3,p.eh0,true,false,0⟩,⟨0,1,[[(eL tP s.s9)]],true,false,0⟩]⟩
noncomputable def E3 {α:Type} (k:q7→α) (e:Nat→α) (z:α) (p:J3) (s:q7):α:=let t1:=(T5 ⟨(rdR tV p.eh0 (0+s.is8.toNat)).x,(rdR tV p.eh0 (0+s.is8.toNat)).y,(rdR tV p.eh0 (0+s.is8.toNat)).z,(rt tP s.s9)⟩);(sl (decide (s.is8 < p.is7)) (sl (inB s.is8 p.ns0) (sl (ldR tV p.eh0 (0+s.is8.toNat)) (sl ((cnE tP s.s9)&&true) (sl (Nat.beq t1.alt 1) (sl t1.bs0 (e 1) (k ⟨(W (s.is8+1)),t1.s8⟩)) z) z) z) z) (e 2))
noncomputable def G9 (p:J3) (s:q7):Stp q7:=E3 .next .exit .fail p s
noncomputable def ga6:Lo J3 q7:=⟨En Ba8,2,Fd0,[1,0,1,4,4],[0,1,7,8],.p,[⟨((.s (.o (.sl 0 0 (some 0) none)))::((.fn 89 [(.o (.ptr 1 0 0 0))])::(ru2 5 ((.s (.o (.int .i64)))::((.s (.o (.int .i64)))::(ru2 10 [])))))),[⟨27,3,true,none⟩,⟨0,1,true,(some [[(.c 4 (nL tP))]])⟩],fun a H=>(⟨(slN (slT a 0)),(toI (slT a 7)),(elT H 0)⟩,⟨(toI (slT a 8)),(rL tP (slT (rwT (elT H 1) 0) 0))⟩)⟩],G9,[(none,fun p s=>let t1:=(T5 ⟨(rdR tV p.eh0 (0+s.is8.toNat)).x,(rdR tV p.eh0 (0+s.is8.toNat)).y,(rdR tV p.eh0 (0+s.is8.toNat)).z,(rt tP s.s9)⟩);⟨[(i s.is8)],[⟨27,3,p.eh0,true,false,0⟩,⟨0,1,[[(eL tP t1.s8)]],true,false,0⟩]⟩),(some 0,fun p s=>⟨((.sl 0 0 p.ns0 0)::((.fn 89 [(.ptr 1 0 0 0)])::(ra 5 ((i p.is7)::((i s.is8)::((b (decide (s.is8 < p.is7)))::(ra 9 []))))))),[⟨27,3,p.eh0,true,false,0⟩,⟨0,1,[[(eL tP s.s9)]],true,false,0⟩]⟩)],fb7⟩
theorem fb8:ga6.Ok:=Lo.ok [] (by kernel_rfl) .nil rfl (.cons (fun a H=>by kernel_rfl) .nil) fun p s=>(.of @E3 (fun F _ _ _ _ _=>by unfold E3;(repeat' apply k8 (f:=F))<;>rfl) (by kernel_rfl))
structure Y8 where
 alt:Nat
 is0:Int
 s9:List Pln
noncomputable def E9 {α:Type} (kk:Y8→α) (x:Y7):α:=let t1:=(lp (G9 (⟨x.ns0,(↑x.ns0:Int),x.eh0⟩:J3)) (⟨0,(rt tP x.s9)⟩:q7));let t2:=(T5 ⟨(rdR tV x.eh0 (0+t1.2.is8.toNat)).x,(rdR tV x.eh0 (0+t1.2.is8.toNat)).y,(rdR tV x.eh0 (0+t1.2.is8.toNat)).z,(rt tP t1.2.s9)⟩);(sl ((cnE tP x.s9)&&true) (sl (Nat.beq t1.1 1) (kk ⟨1,t1.2.is8,t2.s8⟩) (sl (Nat.beq t1.1 2) (kk ⟨1,(-1),t1.2.s9⟩) (kk ⟨0,0,[]⟩))) (kk ⟨0,0,[]⟩))
noncomputable def Y9 (x:Y7):Y8:=E9 (fun r=>r) x
noncomputable def ka9 (x:Y7) (r:Y8):DT (b7×List c7):=(.ite (Nat.beq r.alt 1) (.ret ((i r.is0),[⟨27,3,x.eh0,true,false,0⟩,⟨0,1,[[(eL tP r.s9)]],true,false,0⟩])) .fail)
theorem rb6 {α β:Type} (F:α→β) (kk:Y8→α) (x:Y7):F (E9 kk x)=E9 (fun r=>F (kk r)) x:=by unfold E9;(repeat' apply k8 (f:=F))<;>rfl
noncomputable def Ha4:Sum:=mb4 ⟨[(.s (.o (.sl 0 0 (some 0) none))),(.fn 89 [(.o (.ptr 1 0 0 0))])],[⟨27,3,true,none⟩,⟨0,1,true,(some [[(.c 4 (nL tP))]])⟩],fun a H=>(⟨(slN (slT a 0)),(elT H 0),(rL tP (slT (rwT (elT H 1) 0) 0))⟩,())⟩ (fun x=>ka9 x (Y9 x))
theorem ob3:g9 prog G 144 Ha4:=X4 (enc:=fun x=>⟨[(.sl 0 0 x.ns0 0),(.fn 89 [(.ptr 1 0 0 0)])],[⟨27,3,x.eh0,true,false,0⟩,⟨0,1,[[(eL tP x.s9)]],true,false,0⟩]⟩) (fun a H=>by kernel_rfl) (bd Fe4 ib5) fun x=>xa9 (.s .p (.s (.s .p (.b (.u ga6.ls))) .p)) [ga6.pr] (by kernel_rfl) (.cons fb8 .nil) (Eq.trans (b:=E9 (fun r=>(ka9 x r).run) x) (by kernel_rfl) (rb6 (fun r=>(ka9 x r).run) (fun r=>r) x).symm)
structure Z0 where
 ns0:Nat
 eh0:List (List b7)
 s9:List Pln
noncomputable def Ba9:List (Nat×Sum):=[(144,Ha4),(89,Pa8)]
theorem ib6:j9 prog G Ba9:=⟨ob3,kb9,trivial⟩
structure J4 where
 ns0:Nat
structure u8 where
 is5:Int
 is6:Int
 eh0:List (List b7)
 s9:List Pln
noncomputable def fb9 (p:J4) (s:u8):St:=⟨((.sl 0 0 p.ns0 0)::((.fn 89 [(.ptr 1 0 0 0)])::(ra 3 ((i s.is5)::((i s.is6)::(ra 35 [])))))),[⟨27,3,s.eh0,true,false,0⟩,⟨0,1,[[(eL tP s.s9)]],true,false,0⟩]⟩
noncomputable def E4 {α:Type} (k:u8→α) (e:Nat→α) (z:α) (p:J4) (s:u8):α:=let t1:=(T5 ⟨(rdR tV s.eh0 (0+s.is6.toNat)).x,(rdR tV s.eh0 (0+s.is6.toNat)).y,(rdR tV s.eh0 (0+s.is6.toNat)).z,(rt tP s.s9)⟩);(sl (decide (s.is6 < (↑p.ns0:Int))) (sl (inB s.is6 p.ns0) (sl (ldR tV s.eh0 (0+s.is6.toNat)) (sl ((cnE tP s.s9)&&true) (sl (Nat.beq t1.alt 1) (sl (!t1.bs0) (sl (inB s.is5 p.ns0) (sl ((Nat.blt (0+s.is5.toNat) (len s.eh0))&&(Nat.ble (0+3) (len (e8 s.eh0 (0+s.is5.toNat))))) (k ⟨(W (s.is5+1)),(W (s.is6+1)),(setAt s.eh0 (0+s.is5.toNat) (S4 (e8 s.eh0 (0+s.is5.toNat)) 0 [(i (rdR tV s.eh0 (0+s.is6.toNat)).x),(i (rdR tV s.eh0 (0+s.is6.toNat)).y),(i (rdR tV s.eh0 (0+s.is6.toNat)).z)])),t1.s8⟩) z) z) (k ⟨s.is5,(W (s.is6+1)),s.eh0,t1.s8⟩)) z) z) z) z) (e 1))
noncomputable def B7 (p:J4) (s:u8):Stp u8:=E4 .next .exit .fail p s
noncomputable def ga7:Lo J4 u8:=⟨En Ba9,2,cf2,[1,1,1,0,1,4,4],[0,1,5,6],.p,[⟨((.s (.o (.sl 0 0 (some 0) none)))::((.fn 89 [(.o (.ptr 1 0 0 0))])::(ru2 3 ((.s (.o (.int .i64)))::((.s (.o (.int .i64)))::(ru2 35 [])))))),[⟨27,3,true,none⟩,⟨0,1,true,(some [[(.c 4 (nL tP))]])⟩],fun a H=>(⟨(slN (slT a 0))⟩,⟨(toI (slT a 5)),(toI (slT a 6)),(elT H 0),(rL tP (slT (rwT (elT H 1) 0) 0))⟩)⟩],B7,[(some 0,fun p s=>⟨((.sl 0 0 p.ns0 0)::((.fn 89 [(.ptr 1 0 0 0)])::(ra 3 ((i s.is5)::((i s.is6)::(ra 9 ((i s.is6)::((.sl 0 0 p.ns0 0)::((i (↑p.ns0:Int))::((b (decide (s.is6 < (↑p.ns0:Int))))::(ra 22 []))))))))))),[⟨27,3,s.eh0,true,false,0⟩,⟨0,1,[[(eL tP s.s9)]],true,false,0⟩]⟩)],fb9⟩
theorem gb0:ga7.Ok:=Lo.ok [] (by kernel_rfl) .nil rfl (.cons (fun a H=>by kernel_rfl) .nil) fun p s=>(.of @E4 (fun F _ _ _ _ _=>by unfold E4;(repeat' apply k8 (f:=F))<;>rfl) (by kernel_rfl))
structure Z1 where
 alt:Nat
 ns0:Nat
 eh0:List (List b7)
 s9:List Pln
noncomputable def F4 {α:Type} (kk:Z1→α) (x:Z0):α:=let t1:=(Y9 ⟨x.ns0,x.eh0,(rt tP x.s9)⟩);let t2:=(lp (B7 (⟨x.ns0⟩:J4)) (⟨t1.is0,(W (t1.is0+1)),x.eh0,(rt tP t1.s9)⟩:u8));(sl ((cnE tP x.s9)&&true) (sl (Nat.beq t1.alt 1) (sl (t1.is0==(-1)) (kk ⟨1,x.ns0,x.eh0,t1.s9⟩) (sl ((cnE tP t1.s9)&&true) (sl (Nat.beq t2.1 1) (sl (inB t2.2.is5 (x.ns0+1)) (sl (inB t2.2.is5 (x.ns0+1)) (kk ⟨1,(t2.2.is5.toNat - 0),(app (I1 t2.2.eh0 (0+t2.2.is5.toNat)) (app (List.replicate (x.ns0 - t2.2.is5.toNat) [(i 0),(i 0),(i 0)]) (d9 t2.2.eh0 ((0+t2.2.is5.toNat)+(x.ns0 - t2.2.is5.toNat))))),t2.2.s9⟩) (kk ⟨0,0,[],[]⟩)) (kk ⟨0,0,[],[]⟩)) (kk ⟨0,0,[],[]⟩)) (kk ⟨0,0,[],[]⟩))) (kk ⟨0,0,[],[]⟩)) (kk ⟨0,0,[],[]⟩))
noncomputable def Z2 (x:Z0):Z1:=F4 (fun r=>r) x
noncomputable def la2 (x:Z0) (r:Z1):DT (b7×List c7):=(.ite (Nat.beq r.alt 1) (.ret ((.sl 0 0 r.ns0 0),[⟨27,3,r.eh0,true,false,0⟩,⟨0,1,[[(eL tP r.s9)]],true,false,0⟩])) .fail)
theorem rb7 {α β:Type} (F:α→β) (kk:Z1→α) (x:Z0):F (F4 kk x)=F4 (fun r=>F (kk r)) x:=by unfold F4;(repeat' apply k8 (f:=F))<;>rfl
noncomputable def Ha5:Sum:=mb4 ⟨[(.s (.o (.sl 0 0 (some 0) none))),(.fn 89 [(.o (.ptr 1 0 0 0))])],[⟨27,3,true,none⟩,⟨0,1,true,(some [[(.c 4 (nL tP))]])⟩],fun a H=>(⟨(slN (slT a 0)),(elT H 0),(rL tP (slT (rwT (elT H 1) 0) 0))⟩,())⟩ (fun x=>la2 x (Z2 x))
theorem ob4:g9 prog G 91 Ha5:=X4 (enc:=fun x=>⟨[(.sl 0 0 x.ns0 0),(.fn 89 [(.ptr 1 0 0 0)])],[⟨27,3,x.eh0,true,false,0⟩,⟨0,1,[[(eL tP x.s9)]],true,false,0⟩]⟩) (fun a H=>by kernel_rfl) (bd b91 ib6) fun x=>xa9 (.s .p (.s .p (.s .p (.s (.s .p (.b (.u ga7.ls))) .p)))) [ga7.pr] (by kernel_rfl) (.cons gb0 .nil) (Eq.trans (b:=F4 (fun r=>(la2 x r).run) x) (by kernel_rfl) (rb7 (fun r=>(la2 x r).run) (fun r=>r) x).symm)
noncomputable def ec3:List (Nat×Sum):=[(145,Ga3),(146,ta6),(148,wa4)]
theorem Wb4:j9 prog G ec3:=⟨Xa8,Ka7,Na6,trivial⟩
structure ya6 where
 alt:Nat
 ns0:Nat
 eh0:List (List b7)
noncomputable def da6 {α:Type} (kk:ya6→α) (x:V3×List V3):α:=let t1:=(fa0 (hC tV (fun k=>(tV).row (gL tV (x.1::x.2) k)),tC tV (List.length x.2) (fun k=>(tV).row (gL tV (x.1::x.2) k))));let t2:=(M9 ⟨t1.ns0,(app (bL tV (yb8 (slR tV t1.eh0 0 t1.ns0))) (d9 t1.eh0 t1.ns0))⟩);(sl (okL tV (List.length x.2+1) (fun k=>(tV).row (gL tV (x.1::x.2) k))) (sl (Nat.beq t1.alt 1) (sl (Bool.and (Nat.ble t1.ns0 room) (Bool.and (Nat.ble t1.ns0 (len t1.eh0)) (okS tV t1.eh0 0 t1.ns0))) (sl (Nat.beq t2.alt 1) (kk ⟨1,t2.ns0,t2.eh0⟩) (kk ⟨0,0,[]⟩)) (kk ⟨0,0,[]⟩)) (kk ⟨0,0,[]⟩)) (kk ⟨0,0,[]⟩))
noncomputable def ya7 (x:V3×List V3):ya6:=da6 (fun r=>r) x
noncomputable def Ka9 (r:ya6):DT (b7×List c7):=(.ite (Nat.beq r.alt 1) (.ret ((.sl 0 0 r.ns0 0),[⟨27,3,r.eh0,true,false,0⟩])) .fail)
theorem oc7 {α β:Type} (F:α→β) (kk:ya6→α) (x:V3×List V3):F (da6 kk x)=da6 (fun r=>F (kk r)) x:=by unfold da6;(repeat' apply k8 (f:=F))<;>rfl
noncomputable def na3:Sum:=V6 (Cd2 tV) (fun x=>Ka9 (ya7 x))
theorem ua0:g9 prog G 92 na3:=vb1 (bd b92 Wb4) fun x=>A6 (Eq.trans (b:=da6 (fun r=>(Ka9 r).run) x) (by kernel_rfl) (oc7 (fun r=>(Ka9 r).run) (fun r=>r) x).symm)
noncomputable def Bc1:List (Nat×Sum):=[(64,ec1),(92,na3),(91,Ha5)]
theorem oc8:j9 prog G Bc1:=⟨dd3,ua0,ob4,trivial⟩
noncomputable def wa6 (x:V3×List V3):Option (b7×List c7):=let t1:=(wb9 (hC tV (fun k=>(tV).row (gL tV (x.1::x.2) k)),tC tV (List.length x.2) (fun k=>(tV).row (gL tV (x.1::x.2) k))));let t2:=(ya7 (hC tV (fun k=>(tV).row (gL tV (x.1::x.2) k)),tC tV (List.length x.2) (fun k=>(tV).row (gL tV (x.1::x.2) k))));let t3:=(Z2 ⟨t2.ns0,t2.eh0,(rt tP t1.1)⟩);(sl (okL tV (List.length x.2+1) (fun k=>(tV).row (gL tV (x.1::x.2) k))) (sl (xb0 (hC tV (fun k=>(tV).row (gL tV (x.1::x.2) k)),tC tV (List.length x.2) (fun k=>(tV).row (gL tV (x.1::x.2) k)))) (sl (t1.2 != 0) (some ((.tup [(.v (.slice none 0 0)),(i t1.2)]),[])) (sl (okL tV (List.length x.2+1) (fun k=>(tV).row (gL tV (x.1::x.2) k))) (sl (Nat.beq t2.alt 1) (sl ((cnE tP t1.1)&&true) (sl (Nat.beq t3.alt 1) (some ((.tup [(.sl 0 0 t3.ns0 0),(i 0)]),[⟨27,3,t3.eh0,true,false,0⟩])) none) none) none) none)) none) none)
noncomputable def Hb0 (x:V3×List V3):List V3×Int:=M4 (two (r1L tV) r1I) (wa6 x)
noncomputable def Hb1 (x:V3×List V3):Bool:=okO (two (r1L tV) r1I) (wa6 x)
noncomputable def Rc4:Sum:=V6 (Cd2 tV) (fun x=>.guard (Hb1 x) (.ret ((two (r1L tV) r1I).enc (Hb0 x),[])))
theorem Bc2:g9 prog G 35 Rc4:=Ta2 (bd b35 oc8) (two (r1L tV) r1I) (o:=wa6) fun x=>A6 (by kernel_rfl)
end Go.Ev.Ce
end
namespace Go.Ev.L
open Go Go.Ev
noncomputable def Ve3:Cod Unit where
 enc _:=.v (.slice none 0 0)
 dec x:=match x with
  | .v (.slice none 0 0)=>some ()
  | _=>none
 grd _:=true
 ok x a hx _:=by
  split at hx
  ·exact .refl _
  ·cases hx
noncomputable def cE0:Cod (Addr×Nat) where
 enc z:=.v (.slice (some z.1) 0 z.2)
 dec x:=match x with
  | .v (.slice (some a) 0 c)=>some (a,c)
  | _=>none
 grd _:=true
 ok x a hx _:=by
  split at hx
  ·cases hx;exact .refl _
  ·cases hx
section
variable {α:Type} {t:Ty α} {P:Program} {G:Nat→List Value} {f:FuncId}
theorem ud0 {β:Type} {c:Cod β} {k k':β→DT (b7×List c7)} (h:g9 P G f (V6 c k)) (hk:∀ a r,(k' a).run=some r→(k a).run=some r):g9 P G f (V6 c k'):=h.le fun args blks r hr=>by
 unfold V6 at hr ⊢
 split at hr
 ·obtain⟨a,h1,hr⟩:=ha7 hr
  obtain⟨g,hr⟩:=DT.run_guard_some hr
  simp only[h1,onO,g]
  exact hk a r hr
 ·cases hr
theorem Ve4 {k:List α→DT (b7×List c7)} (hA:g9 P G f (V6 (Cd2 t) fun z=>k (z.1::z.2))) (hN:g9 P G f (V6 Ve3 fun _=>k [])) (hE:g9 P G f (V6 cE0 fun _=>k [])):g9 P G f (V6 (oa4 t) k):=by
 intro args blks r out he W ρ F w args' hH hlen hargs hG
 unfold V6 at he
 split at he
 ·rename_i x
  obtain⟨a,h1,he⟩:=ha7 he
  obtain⟨g1,hk⟩:=DT.run_guard_some he
  have nilCase:∀ v',args'[0]?=some v'→v'=.slice none 0 0→a=[]→cb2 P f∧Calls P f args'.toArray w fun e w'=>∃ r',e=.returned r'∧L9 W ρ [] F w r out r' w':=fun v' hv e ha=>by
   subst ha
   refine hN [.v (.slice none 0 0)] [] r out ?_ W ρ F w args' hH hlen (fun i x' y' hx hy=>?_) hG
   ·exact hk
   ·match i with
    | 0=>cases hx;rw[hv] at hy;cases hy;rw[e];exact .val (.cell (.v _))
    | i+1=>cases hx
  have emptyCase:∀ v' ad c,args'[0]?=some v'→v'=.slice (some ad) 0 c→a=[]→cb2 P f∧Calls P f args'.toArray w fun e w'=>∃ r',e=.returned r'∧L9 W ρ [] F w r out r' w':=fun v' ad c hv e ha=>by
   subst ha
   refine hE [.v (.slice (some ad) 0 c)] [] r out ?_ W ρ F w args' hH hlen (fun i x' y' hx hy=>?_) hG
   ·exact hk
   ·match i with
    | 0=>cases hx;rw[hv] at hy;cases hy;rw[e];exact .val (.cell (.v _))
    | i+1=>cases hx
  obtain⟨v',hv⟩:∃ v',args'[0]?=some v':=by
   cases args' with
   | nil=>simp at hlen
   | cons v' r'=>exact⟨v',rfl⟩
  cases x with
  | tree e n get =>
   have hb:Nat.beq e t.es=true∧a=lsL t n get:=by
    have h1:(Bool.rec none (some (lsL t n get)) (Nat.beq e t.es):Option (List α))=some a:=h1
    cases hb:Nat.beq e t.es with
    | false=>rw[hb] at h1;cases h1
    | true =>
     rw[hb] at h1
     have h1:some (lsL t n get)=some a:=h1
     injection h1 with h1
     exact⟨rfl,h1.symm⟩
   cases n with
   | zero =>
    have ha:a=[]:=hb.2
    have hm:=pa5 (hargs 0 _ v' rfl hv)
    cases hm with
    | tree _ _ _ ad cap cs hs hcap hes hF hw hr=>exact emptyCase _ ad cap hv rfl ha
    | nil=>exact nilCase _ hv rfl ha
   | succ m =>
    have ha:a=hC t get::tC t m get:=hb.2.trans (Cd1 t m get)
    subst ha
    refine hA [.tree e (m+1) get] [] r out ?_ W ρ F w args' hH hlen hargs hG
    have hc:(Cd2 t).dec (.tree e (m+1) get)=some (hC t get,tC t m get):=by
     show (Bool.rec none (some (hC t get,tC t m get)) (Nat.beq e t.es):Option (α×List α))=_
     rw[hb.1]
    have hg:(Cd2 t).grd (.tree e (m+1) get)=true:=g1
    simp only[V6,hc,onO,hg]
    exact hk
  | v q =>
   have hq:=ea1 (hargs 0 _ v' rfl hv)
   unfold oa4 at h1
   simp only at h1
   split at h1
   ·rename_i heq;cases heq
   ·rename_i heq
    injection heq with heq
    injection h1 with h1
    exact nilCase v' hv (hq.trans heq) h1.symm
   ·rename_i ad c heq
    injection heq with heq
    injection h1 with h1
    exact emptyCase v' _ _ hv (hq.trans heq) h1.symm
   ·cases h1
  | _=>cases h1
 ·cases he
end
end Go.Ev.L
section
namespace Go.Ev.Ce
open Go Go.Ev Go.Ev.L Go.Proofs
set_option maxRecDepth 100000
noncomputable def Rc5:List (Nat×Sum):=[(118,wb7),(92,na3),(119,va8)]
theorem Bc3:j9 prog G Rc5:=⟨Rb3,ua0,Da7,trivial⟩
noncomputable def Ca0 (x:Unit):Option (b7×List c7):=let t1:=(Ka1 []);(sl (Ka2 []) (sl (t1 != 0) (some ((.tup [(.v (.slice none 0 0)),(i t1)]),[])) none) none)
noncomputable def Ra8 (x:Unit):List Pln×Int:=M4 (two (r1L tP) r1I) (Ca0 x)
noncomputable def Ra9 (x:Unit):Bool:=okO (two (r1L tP) r1I) (Ca0 x)
noncomputable def Rb6:Sum:=V6 Ve3 (fun x=>.guard (Ra9 x) (.ret ((two (r1L tP) r1I).enc (Ra8 x),[])))
theorem Rc6:g9 prog G 64 Rb6:=Ta2 (bd b64 Bc3) (two (r1L tP) r1I) (o:=Ca0) fun x=>Fd1 .p [] (by kernel_rfl) .nil (by kernel_rfl)
noncomputable def oc9:List (Nat×Sum):=[(64,Rb6),(92,na3)]
theorem ec4:j9 prog G oc9:=⟨Rc6,ua0,trivial⟩
noncomputable def qa8 (x:Unit):Option (b7×List c7):=let t1:=(Ra8 ());(sl (Ra9 ()) (sl (t1.2 != 0) (some ((.tup [(.v (.slice none 0 0)),(i t1.2)]),[])) none) none)
noncomputable def Ea5 (x:Unit):List V3×Int:=M4 (two (r1L tV) r1I) (qa8 x)
noncomputable def Ea6 (x:Unit):Bool:=okO (two (r1L tV) r1I) (qa8 x)
noncomputable def zb1:Sum:=V6 Ve3 (fun x=>.guard (Ea6 x) (.ret ((two (r1L tV) r1I).enc (Ea5 x),[])))
theorem rb8:g9 prog G 35 zb1:=Ta2 (bd b35 ec4) (two (r1L tV) r1I) (o:=qa8) fun x=>A6 (by kernel_rfl)
noncomputable def Rc7:List (Nat×Sum):=[(119,va8)]
theorem Bc4:j9 prog G Rc7:=⟨Da7,trivial⟩
noncomputable def ob5 (x:Addr×Nat):Option (b7×List c7):=none
noncomputable def Rb7 (x:Addr×Nat):List Pln×Int:=M4 (two (r1L tP) r1I) (ob5 x)
noncomputable def Rb8 (x:Addr×Nat):Bool:=okO (two (r1L tP) r1I) (ob5 x)
noncomputable def Rb9:Sum:=V6 cE0 (fun x=>.guard (Rb8 x) (.ret ((two (r1L tP) r1I).enc (Rb7 x),[])))
theorem Rc8:g9 prog G 64 Rb9:=Ta2 (bd b64 Bc4) (two (r1L tP) r1I) (o:=ob5) fun x=>Fd1 .p [] (by kernel_rfl) .nil (by kernel_rfl)
noncomputable def pc0:List (Nat×Sum):=[(64,Rb9),(92,na3)]
theorem ec5:j9 prog G pc0:=⟨Rc8,ua0,trivial⟩
noncomputable def Xa0 (x:Addr×Nat):Option (b7×List c7):=let t1:=(Rb7 x);(sl (Rb8 x) (sl (t1.2 != 0) (some ((.tup [(.v (.slice none 0 0)),(i t1.2)]),[])) none) none)
noncomputable def Bc5 (x:Addr×Nat):List V3×Int:=M4 (two (r1L tV) r1I) (Xa0 x)
noncomputable def Bc6 (x:Addr×Nat):Bool:=okO (two (r1L tV) r1I) (Xa0 x)
noncomputable def Bc7:Sum:=V6 cE0 (fun x=>.guard (Bc6 x) (.ret ((two (r1L tV) r1I).enc (Bc5 x),[])))
theorem pc1:g9 prog G 35 Bc7:=Ta2 (bd b35 ec5) (two (r1L tV) r1I) (o:=Xa0) fun x=>A6 (by kernel_rfl)
end Go.Ev.Ce
end
section
namespace Go.Ev.Ce
open Go Go.Ev Go.Ev.L Go.Proofs
set_option maxRecDepth 100000
noncomputable def gb1:List (Nat×Sum):=[]
theorem Ob9:j9 prog G gb1:=trivial
structure ba2 where
 d6:Int
 xb7:Int
 xb8:Int
structure A7 where
 U2:Int
noncomputable def Hb2 (p:ba2) (s:A7):St:=⟨(ra 14 ((.sl 0 0 3 0)::((i 3)::((i s.U2)::(ra 10 []))))),[⟨3,1,[[(i p.d6)],[(i p.xb7)],[(i p.xb8)]],true,false,0⟩]⟩
noncomputable def R9 {α:Type} (k:A7→α) (e:Nat→α) (z:α) (p:ba2) (s:A7):α:=(sl (decide (s.U2 < 3)) (sl (inB s.U2 3) (sl (((Nat.blt (0+s.U2.toNat) (len [[(i p.d6)],[(i p.xb7)],[(i p.xb8)]]))&&(Nat.ble (0+1) (len (e8 [[(i p.d6)],[(i p.xb7)],[(i p.xb8)]] (0+s.U2.toNat)))))&&(K6 [(CK.int .i64)] (d9 (e8 [[(i p.d6)],[(i p.xb7)],[(i p.xb8)]] (0+s.U2.toNat)) 0))) (sl (decide ((toI (hdA (d9 (e8 [[(i p.d6)],[(i p.xb7)],[(i p.xb8)]] (0+s.U2.toNat)) 0))) < 0)) (e 1) (sl (decide ((toI (hdA (d9 (e8 [[(i p.d6)],[(i p.xb7)],[(i p.xb8)]] (0+s.U2.toNat)) 0))) > 12)) (e 1) (k ⟨(W (s.U2+1))⟩))) z) z) (e 2))
noncomputable def H4 (p:ba2) (s:A7):Stp A7:=R9 .next .exit .fail p s
noncomputable def za7:Lo ba2 A7:=⟨En gb1,0,Oe3,[1,0,1,4,4],[14,15,16],.p,[⟨(ru2 14 ((.s (.o (.sl 0 0 (some 0) (some 3))))::((.s (.o (.lit .i64 3)))::((.s (.o (.int .i64)))::(ru2 10 []))))),[⟨3,1,true,(some [[(.o (.int .i64))],[(.o (.int .i64))],[(.o (.int .i64))]])⟩],fun a H=>(⟨(toI (slT (rwT (elT H 0) 0) 0)),(toI (slT (rwT (elT H 0) 1) 0)),(toI (slT (rwT (elT H 0) 2) 0))⟩,⟨(toI (slT a 16))⟩)⟩],H4,[(none,fun p s=>⟨[(b false)],[]⟩),(some 0,fun p s=>⟨(ra 14 ((.sl 0 0 3 0)::((i 3)::((i s.U2)::((b (decide (s.U2 < 3)))::(ra 9 [])))))),[⟨3,1,[[(i p.d6)],[(i p.xb7)],[(i p.xb8)]],true,false,0⟩]⟩)],Hb2⟩
theorem Hb3:za7.Ok:=Lo.ok [] (by kernel_rfl) .nil rfl (.cons (fun a H=>by kernel_rfl) .nil) fun p s=>(.of @R9 (fun F _ _ _ _ _=>by unfold R9;(repeat' apply k8 (f:=F))<;>rfl) (by kernel_rfl))
noncomputable def ia9 (x:V3):Option (b7×List c7):=let t1:=(lp (H4 (⟨x.x,x.y,x.z⟩:ba2)) (⟨0⟩:A7));(sl (Nat.beq t1.1 1) (some ((b false),[])) (sl (Nat.beq t1.1 2) (some ((b true),[])) none))
noncomputable def ja0 (x:V3):Bool:=M4 (one r1B) (ia9 x)
noncomputable def ja1 (x:V3):Bool:=okO (one r1B) (ia9 x)
noncomputable def La0:Sum:=V6 (K9 tV) (fun x=>.guard (ja1 x) (.ret ((one r1B).enc (ja0 x),[])))
theorem gb2:g9 prog G 129 La0:=Ta2 (bd nf3 Ob9) (one r1B) (o:=ia9) fun x=>xa9 (.s .p (.s (.s .p (.b (.u za7.ls))) .p)) [za7.pr] (by kernel_rfl) (.cons Hb3 .nil) (by kernel_rfl)
noncomputable def Rc9:List (Nat×Sum):=[(183,Oa4)]
theorem Bc8:j9 prog G Rc9:=⟨kb2,trivial⟩
noncomputable def Ca1 (x:V3) (y:V3):Int:=let t1:=(S6 x.x);let t2:=(S6 x.y);let t3:=(S6 x.z);(W ((W ((W (t1*y.x))+(W (t2*y.y))))+(W (t3*y.z))))
noncomputable def Sb0:Sum:=ga1 (K9 tV) (K9 tV) (fun x y=>.ret ((one r1I).enc (Ca1 x y),[]))
theorem Sc0:g9 prog G 131 Sb0:=Da0 (bd nf5 Bc8) fun x y=>A6 (by kernel_rfl)
noncomputable def dd4:List (Nat×Sum):=[(140,mb6),(138,Ia7)]
theorem Sc1:j9 prog G dd4:=⟨Fb2,Va3,trivial⟩
noncomputable def La1 (x:Pln) (y:Int):Option (b7×List c7):=let t1:=(Aa5 x);let t2:=(L0 4194304 [y]);let t3:=(L0 2097152 [(W (x.b+y))]);(sl (Aa6 x) (sl (!t1) (some ((.tup [(.agg [(i 0),(i 0),(i 0),(i 0)]),(b false)]),[])) (sl (L1 4194304 [y]) (sl (!t2) (some ((.tup [(.agg [(i 0),(i 0),(i 0),(i 0)]),(b false)]),[])) (sl (L1 2097152 [(W (x.b+y))]) (sl (!t3) (some ((.tup [(.agg [(i 0),(i 0),(i 0),(i 0)]),(b false)]),[])) (some ((.tup [(.agg [(i x.n.x),(i x.n.y),(i x.n.z),(i (W (x.b+y)))]),(b true)]),[]))) none)) none)) none)
noncomputable def pa2 (x:Pln) (y:Int):Pln×Bool:=M4 (two r1P r1B) (La1 x y)
noncomputable def pa3 (x:Pln) (y:Int):Bool:=okO (two r1P r1B) (La1 x y)
noncomputable def xb1:Sum:=ga1 (K9 tP) cI (fun x y=>.guard (pa3 x y) (.ret ((two r1P r1B).enc (pa2 x y),[])))
theorem Sb1:g9 prog G 130 xb1:=Oa2 (bd nf4 Sc1) (two r1P r1B) (o:=La1) fun x y=>A6 (by kernel_rfl)
noncomputable def pc2:List (Nat×Sum):=[(131,Sb0)]
theorem ec6:j9 prog G pc2:=⟨Sc0,trivial⟩
noncomputable def qa9 (x:V3) (y:Pln):Int:=let t1:=(Ca1 y.n x);t1
noncomputable def Xa1:Sum:=ga1 (K9 tV) (K9 tP) (fun x y=>.ret ((one r1I).enc (qa9 x y),[]))
theorem rb9:g9 prog G 75 Xa1:=Da0 (bd b75 ec6) fun x y=>A6 (by kernel_rfl)
noncomputable def Bc9:List (Nat×Sum):=[(75,Xa1)]
theorem pc3:j9 prog G Bc9:=⟨rb9,trivial⟩
noncomputable def La2 (x:V3) (y:Pln):Int:=let t1:=(qa9 x y);(W (0 - t1))
noncomputable def Hb4:Sum:=ga1 (K9 tV) (K9 tP) (fun x y=>.ret ((one r1I).enc (La2 x y),[]))
theorem Cc0:g9 prog G 77 Hb4:=Da0 (bd b77 pc3) fun x y=>A6 (by kernel_rfl)
structure Sa0 where
 fa6:Int
 fa7:Int
 fa8:Int
 Ua6:List Pln
 Na3:Int
 Na4:Int
 Na5:Int
noncomputable def Hb5:List (Nat×Sum):=[(129,La0),(75,Xa1),(130,xb1)]
theorem Cc1:j9 prog G Hb5:=⟨gb2,rb9,Sb1,trivial⟩
structure Q8 where
 Na3:Int
 Na4:Int
 Na5:Int
 aa7:List Pln
 o9:Int
structure p5 where
 ph:Nat
 ma0:Int
 ns8:Nat
 eh0:List (List b7)
noncomputable def ec7 (p:Q8) (s:p5):St:=⟨(.unk::(.unk::((.fn 100075 [(i p.Na3),(i p.Na4),(i p.Na5)])::(ra 5 ((.v (.slice none 0 0))::(ra 7 ((eL tP p.aa7)::((i p.o9)::((i s.ma0)::(ra 19 [])))))))))),[]⟩
noncomputable def ec8 (p:Q8) (s:p5):St:=⟨(.unk::(.unk::((.fn 100075 [(i p.Na3),(i p.Na4),(i p.Na5)])::(ra 5 ((.sl 0 0 s.ns8 0)::(ra 7 ((eL tP p.aa7)::((i p.o9)::((i s.ma0)::(ra 19 [])))))))))),[⟨73,4,s.eh0,true,false,0⟩]⟩
noncomputable def pc4 (p:Q8) (s:p5):St:=(sel (Nat.beq s.ph 1) (ec8 p s) (ec7 p s))
noncomputable def P2 {α:Type} (k:p5→α) (e:Nat→α) (z:α) (p:Q8) (s:p5):α:=let t1:=(qa9 (⟨p.Na3,p.Na4,p.Na5⟩:V3) (gL tP p.aa7 s.ma0.toNat));let t2:=(pa2 (gL tP p.aa7 s.ma0.toNat) t1);(sl (decide (s.ma0 < p.o9)) (sl (inB s.ma0 (List.length p.aa7)) (sl (pa3 (gL tP p.aa7 s.ma0.toNat) t1) (sl (!t2.2) (e 1) (k ⟨1,(W (s.ma0+1)),1,[[(i t2.1.n.x),(i t2.1.n.y),(i t2.1.n.z),(i t2.1.b)]]⟩)) z) z) (e 2))
noncomputable def P4 {α:Type} (k:p5→α) (e:Nat→α) (z:α) (p:Q8) (s:p5):α:=let t1:=(qa9 (⟨p.Na3,p.Na4,p.Na5⟩:V3) (gL tP p.aa7 s.ma0.toNat));let t2:=(pa2 (gL tP p.aa7 s.ma0.toNat) t1);(sl (decide (s.ma0 < p.o9)) (sl (inB s.ma0 (List.length p.aa7)) (sl (pa3 (gL tP p.aa7 s.ma0.toNat) t1) (sl (!t2.2) (e 1) (sl (Nat.beq s.ns8 (len s.eh0)&&Nat.ble ((s.ns8+1)*32) room) (k ⟨1,(W (s.ma0+1)),(s.ns8+1),(app s.eh0 [[(i t2.1.n.x),(i t2.1.n.y),(i t2.1.n.z),(i t2.1.b)]])⟩) z)) z) z) (e 3))
noncomputable def ya8 (p:Q8) (s:p5):Stp p5:=(sel (Nat.beq s.ph 1) (P4 .next .exit .fail p s) (P2 .next .exit .fail p s))
noncomputable def Xa2:Lo Q8 p5:=⟨En Hb5,0,Te8,[1,1,1,0,1,4,4],[2,8,16,17,18],.p,[⟨((.s (.o .unk))::((.s (.o .unk))::((.fn 100075 [(.o (.int .i64)),(.o (.int .i64)),(.o (.int .i64))])::(ru2 5 ((.s (.o .nil))::(ru2 7 ((.s (.c 4 (nL tP)))::((.s (.o (.int .i64)))::((.s (.o (.int .i64)))::(ru2 19 [])))))))))),[],fun a H=>(⟨(toI (slT (cellsOf (slT a 2)) 0)),(toI (slT (cellsOf (slT a 2)) 1)),(toI (slT (cellsOf (slT a 2)) 2)),(rL tP (slT a 16)),(toI (slT a 17))⟩,⟨0,(toI (slT a 18)),0,[]⟩)⟩,⟨((.s (.o .unk))::((.s (.o .unk))::((.fn 100075 [(.o (.int .i64)),(.o (.int .i64)),(.o (.int .i64))])::(ru2 5 ((.s (.o (.sl 0 0 (some 0) none)))::(ru2 7 ((.s (.c 4 (nL tP)))::((.s (.o (.int .i64)))::((.s (.o (.int .i64)))::(ru2 19 [])))))))))),[⟨73,4,true,none⟩],fun a H=>(⟨(toI (slT (cellsOf (slT a 2)) 0)),(toI (slT (cellsOf (slT a 2)) 1)),(toI (slT (cellsOf (slT a 2)) 2)),(rL tP (slT a 16)),(toI (slT a 17))⟩,⟨1,(toI (slT a 18)),(slN (slT a 8)),(elT H 0)⟩)⟩],ya8,[(none,fun p s=>⟨[(.tup [(.v (.slice none 0 0)),(b false)])],[]⟩),(some 0,fun p s=>⟨(.unk::(.unk::((.fn 100075 [(i p.Na3),(i p.Na4),(i p.Na5)])::(ra 5 ((.v (.slice none 0 0))::(ra 7 ((eL tP p.aa7)::((i p.o9)::((i s.ma0)::((b (decide (s.ma0 < p.o9)))::(ra 18 []))))))))))),[]⟩),(some 0,fun p s=>⟨(.unk::(.unk::((.fn 100075 [(i p.Na3),(i p.Na4),(i p.Na5)])::(ra 5 ((.sl 0 0 s.ns8 0)::(ra 7 ((eL tP p.aa7)::((i p.o9)::((i s.ma0)::((b (decide (s.ma0 < p.o9)))::(ra 18 []))))))))))),[⟨73,4,s.eh0,true,false,0⟩]⟩)],pc4⟩
theorem pc5:Xa2.Ok:=Lo.ok [] (by kernel_rfl) .nil rfl (.cons (fun a H=>by kernel_rfl) (.cons (fun a H=>by kernel_rfl) .nil)) fun p s=>(.sel (Nat.beq s.ph 1) (.of @P4 (fun F _ _ _ _ _=>by unfold P4;(repeat' apply k8 (f:=F))<;>rfl) (by kernel_rfl)) (.of @P2 (fun F _ _ _ _ _=>by unfold P2;(repeat' apply k8 (f:=F))<;>rfl) (by kernel_rfl)))
structure Sa1 where
 alt:Nat
 bs1:Bool
 ns0:Nat
 eh0:List (List b7)
noncomputable def sa7 {α:Type} (kk:Sa1→α) (x:Sa0):α:=let t1:=(ja0 (⟨x.fa6,x.fa7,x.fa8⟩:V3));let t2:=(lp (ya8 (⟨x.Na3,x.Na4,x.Na5,(rt tP x.Ua6),(↑(List.length x.Ua6):Int)⟩:Q8)) (⟨0,0,0,[]⟩:p5));(sl (ja1 (⟨x.fa6,x.fa7,x.fa8⟩:V3)) (sl (!t1) (kk ⟨1,false,0,[]⟩) (sl ((cnE tP x.Ua6)&&true) (sl (Nat.beq t2.1 1) (kk ⟨1,false,0,[]⟩) (sl (Nat.beq t2.1 2) (kk ⟨1,true,0,[]⟩) (sl (Nat.beq t2.1 3) (kk ⟨2,false,t2.2.ns8,t2.2.eh0⟩) (kk ⟨0,false,0,[]⟩)))) (kk ⟨0,false,0,[]⟩))) (kk ⟨0,false,0,[]⟩))
noncomputable def ob6 (x:Sa0):Sa1:=sa7 (fun r=>r) x
noncomputable def gb3 (x:Sa0) (r:Sa1):DT (b7×List c7):=(.ite (Nat.beq r.alt 1) (.ret ((.tup [(.v (.slice none 0 0)),(b r.bs1)]),[])) (.ite (Nat.beq r.alt 2) (.ret ((.tup [(.sl 0 0 r.ns0 0),(b true)]),[⟨73,4,r.eh0,true,false,0⟩])) .fail))
theorem dd5 {α β:Type} (F:α→β) (kk:Sa1→α) (x:Sa0):F (sa7 kk x)=sa7 (fun r=>F (kk r)) x:=by unfold sa7;(repeat' apply k8 (f:=F))<;>rfl
noncomputable def Sb2:Sum:=mb4 ⟨[(.agg [(.o (.int .i64)),(.o (.int .i64)),(.o (.int .i64))]),(.s (.c 4 (nL tP))),(.fn 100075 [(.o (.int .i64)),(.o (.int .i64)),(.o (.int .i64))])],[],fun a H=>(⟨(toI (slT (cellsOf (slT a 0)) 0)),(toI (slT (cellsOf (slT a 0)) 1)),(toI (slT (cellsOf (slT a 0)) 2)),(rL tP (slT a 1)),(toI (slT (cellsOf (slT a 2)) 0)),(toI (slT (cellsOf (slT a 2)) 1)),(toI (slT (cellsOf (slT a 2)) 2))⟩,())⟩ (fun x=>gb3 x (ob6 x))
theorem Sc2:g9 prog G 74 Sb2:=X4 (enc:=fun x=>⟨[(.agg [(i x.fa6),(i x.fa7),(i x.fa8)]),(eL tP x.Ua6),(.fn 100075 [(i x.Na3),(i x.Na4),(i x.Na5)])],[]⟩) (fun a H=>by kernel_rfl) (bd b74 Cc1) fun x=>xa9 (.s .p (.s .p (.s .p (.s (.s .p (.b (.u Xa2.ls))) .p)))) [Xa2.pr] (by kernel_rfl) (.cons pc5 .nil) (Eq.trans (b:=sa7 (fun r=>(gb3 x r).run) x) (by kernel_rfl) (dd5 (fun r=>(gb3 x r).run) (fun r=>r) x).symm)
noncomputable def Gd8:List (Nat×Sum):=[(74,Sb2)]
theorem ud1:j9 prog G Gd8:=⟨Sc2,trivial⟩
noncomputable def gb4 (x:List Pln) (y:V3):Option (b7×List c7):=let t1:=(ob6 ⟨y.x,y.y,y.z,(rt tP x),y.x,y.y,y.z⟩);(sl ((cnE tP x)&&true) (sl (Nat.beq t1.alt 1) (some ((.tup [(.v (.slice none 0 0)),(b t1.bs1)]),[])) (sl (Nat.beq t1.alt 2) (some ((.tup [(.sl 0 0 t1.ns0 0),(b true)]),[⟨73,4,t1.eh0,true,false,0⟩])) none)) none)
noncomputable def Pa9 (x:List Pln) (y:V3):List Pln×Bool:=M4 (two (r1L tP) r1B) (gb4 x y)
noncomputable def Qa0 (x:List Pln) (y:V3):Bool:=okO (two (r1L tP) r1B) (gb4 x y)
noncomputable def Sc3:Sum:=ga1 (oa4 tP) (K9 tV) (fun x y=>.guard (Qa0 x y) (.ret ((two (r1L tP) r1B).enc (Pa9 x y),[])))
theorem Gd9:g9 prog G 19 Sc3:=Oa2 (bd b19 ud1) (two (r1L tP) r1B) (o:=gb4) fun x y=>A6 (by kernel_rfl)
structure Sa2 where
 fa6:Int
 fa7:Int
 fa8:Int
 Ua6:List Pln
 Na3:Int
 Na4:Int
 Na5:Int
noncomputable def Hb6:List (Nat×Sum):=[(129,La0),(77,Hb4),(130,xb1)]
theorem Cc2:j9 prog G Hb6:=⟨gb2,Cc0,Sb1,trivial⟩
structure Q9 where
 Na3:Int
 Na4:Int
 Na5:Int
 aa7:List Pln
 o9:Int
structure p6 where
 ph:Nat
 ma0:Int
 ns8:Nat
 eh0:List (List b7)
noncomputable def ec9 (p:Q9) (s:p6):St:=⟨(.unk::(.unk::((.fn 100077 [(i p.Na3),(i p.Na4),(i p.Na5)])::(ra 5 ((.v (.slice none 0 0))::(ra 7 ((eL tP p.aa7)::((i p.o9)::((i s.ma0)::(ra 19 [])))))))))),[]⟩
noncomputable def fc0 (p:Q9) (s:p6):St:=⟨(.unk::(.unk::((.fn 100077 [(i p.Na3),(i p.Na4),(i p.Na5)])::(ra 5 ((.sl 0 0 s.ns8 0)::(ra 7 ((eL tP p.aa7)::((i p.o9)::((i s.ma0)::(ra 19 [])))))))))),[⟨73,4,s.eh0,true,false,0⟩]⟩
noncomputable def pc6 (p:Q9) (s:p6):St:=(sel (Nat.beq s.ph 1) (fc0 p s) (ec9 p s))
noncomputable def P5 {α:Type} (k:p6→α) (e:Nat→α) (z:α) (p:Q9) (s:p6):α:=let t1:=(La2 (⟨p.Na3,p.Na4,p.Na5⟩:V3) (gL tP p.aa7 s.ma0.toNat));let t2:=(pa2 (gL tP p.aa7 s.ma0.toNat) t1);(sl (decide (s.ma0 < p.o9)) (sl (inB s.ma0 (List.length p.aa7)) (sl (pa3 (gL tP p.aa7 s.ma0.toNat) t1) (sl (!t2.2) (e 1) (k ⟨1,(W (s.ma0+1)),1,[[(i t2.1.n.x),(i t2.1.n.y),(i t2.1.n.z),(i t2.1.b)]]⟩)) z) z) (e 2))
noncomputable def P6 {α:Type} (k:p6→α) (e:Nat→α) (z:α) (p:Q9) (s:p6):α:=let t1:=(La2 (⟨p.Na3,p.Na4,p.Na5⟩:V3) (gL tP p.aa7 s.ma0.toNat));let t2:=(pa2 (gL tP p.aa7 s.ma0.toNat) t1);(sl (decide (s.ma0 < p.o9)) (sl (inB s.ma0 (List.length p.aa7)) (sl (pa3 (gL tP p.aa7 s.ma0.toNat) t1) (sl (!t2.2) (e 1) (sl (Nat.beq s.ns8 (len s.eh0)&&Nat.ble ((s.ns8+1)*32) room) (k ⟨1,(W (s.ma0+1)),(s.ns8+1),(app s.eh0 [[(i t2.1.n.x),(i t2.1.n.y),(i t2.1.n.z),(i t2.1.b)]])⟩) z)) z) z) (e 3))
noncomputable def ya9 (p:Q9) (s:p6):Stp p6:=(sel (Nat.beq s.ph 1) (P6 .next .exit .fail p s) (P5 .next .exit .fail p s))
noncomputable def Xa3:Lo Q9 p6:=⟨En Hb6,0,Te8,[1,1,1,0,1,4,4],[2,8,16,17,18],.p,[⟨((.s (.o .unk))::((.s (.o .unk))::((.fn 100077 [(.o (.int .i64)),(.o (.int .i64)),(.o (.int .i64))])::(ru2 5 ((.s (.o .nil))::(ru2 7 ((.s (.c 4 (nL tP)))::((.s (.o (.int .i64)))::((.s (.o (.int .i64)))::(ru2 19 [])))))))))),[],fun a H=>(⟨(toI (slT (cellsOf (slT a 2)) 0)),(toI (slT (cellsOf (slT a 2)) 1)),(toI (slT (cellsOf (slT a 2)) 2)),(rL tP (slT a 16)),(toI (slT a 17))⟩,⟨0,(toI (slT a 18)),0,[]⟩)⟩,⟨((.s (.o .unk))::((.s (.o .unk))::((.fn 100077 [(.o (.int .i64)),(.o (.int .i64)),(.o (.int .i64))])::(ru2 5 ((.s (.o (.sl 0 0 (some 0) none)))::(ru2 7 ((.s (.c 4 (nL tP)))::((.s (.o (.int .i64)))::((.s (.o (.int .i64)))::(ru2 19 [])))))))))),[⟨73,4,true,none⟩],fun a H=>(⟨(toI (slT (cellsOf (slT a 2)) 0)),(toI (slT (cellsOf (slT a 2)) 1)),(toI (slT (cellsOf (slT a 2)) 2)),(rL tP (slT a 16)),(toI (slT a 17))⟩,⟨1,(toI (slT a 18)),(slN (slT a 8)),(elT H 0)⟩)⟩],ya9,[(none,fun p s=>⟨[(.tup [(.v (.slice none 0 0)),(b false)])],[]⟩),(some 0,fun p s=>⟨(.unk::(.unk::((.fn 100077 [(i p.Na3),(i p.Na4),(i p.Na5)])::(ra 5 ((.v (.slice none 0 0))::(ra 7 ((eL tP p.aa7)::((i p.o9)::((i s.ma0)::((b (decide (s.ma0 < p.o9)))::(ra 18 []))))))))))),[]⟩),(some 0,fun p s=>⟨(.unk::(.unk::((.fn 100077 [(i p.Na3),(i p.Na4),(i p.Na5)])::(ra 5 ((.sl 0 0 s.ns8 0)::(ra 7 ((eL tP p.aa7)::((i p.o9)::((i s.ma0)::((b (decide (s.ma0 < p.o9)))::(ra 18 []))))))))))),[⟨73,4,s.eh0,true,false,0⟩]⟩)],pc6⟩
theorem pc7:Xa3.Ok:=Lo.ok [] (by kernel_rfl) .nil rfl (.cons (fun a H=>by kernel_rfl) (.cons (fun a H=>by kernel_rfl) .nil)) fun p s=>(.sel (Nat.beq s.ph 1) (.of @P6 (fun F _ _ _ _ _=>by unfold P6;(repeat' apply k8 (f:=F))<;>rfl) (by kernel_rfl)) (.of @P5 (fun F _ _ _ _ _=>by unfold P5;(repeat' apply k8 (f:=F))<;>rfl) (by kernel_rfl)))
structure Sa3 where
 alt:Nat
 bs1:Bool
 ns0:Nat
 eh0:List (List b7)
noncomputable def sa8 {α:Type} (kk:Sa3→α) (x:Sa2):α:=let t1:=(ja0 (⟨x.fa6,x.fa7,x.fa8⟩:V3));let t2:=(lp (ya9 (⟨x.Na3,x.Na4,x.Na5,(rt tP x.Ua6),(↑(List.length x.Ua6):Int)⟩:Q9)) (⟨0,0,0,[]⟩:p6));(sl (ja1 (⟨x.fa6,x.fa7,x.fa8⟩:V3)) (sl (!t1) (kk ⟨1,false,0,[]⟩) (sl ((cnE tP x.Ua6)&&true) (sl (Nat.beq t2.1 1) (kk ⟨1,false,0,[]⟩) (sl (Nat.beq t2.1 2) (kk ⟨1,true,0,[]⟩) (sl (Nat.beq t2.1 3) (kk ⟨2,false,t2.2.ns8,t2.2.eh0⟩) (kk ⟨0,false,0,[]⟩)))) (kk ⟨0,false,0,[]⟩))) (kk ⟨0,false,0,[]⟩))
noncomputable def ob7 (x:Sa2):Sa3:=sa8 (fun r=>r) x
noncomputable def gb5 (x:Sa2) (r:Sa3):DT (b7×List c7):=(.ite (Nat.beq r.alt 1) (.ret ((.tup [(.v (.slice none 0 0)),(b r.bs1)]),[])) (.ite (Nat.beq r.alt 2) (.ret ((.tup [(.sl 0 0 r.ns0 0),(b true)]),[⟨73,4,r.eh0,true,false,0⟩])) .fail))
theorem dd6 {α β:Type} (F:α→β) (kk:Sa3→α) (x:Sa2):F (sa8 kk x)=sa8 (fun r=>F (kk r)) x:=by unfold sa8;(repeat' apply k8 (f:=F))<;>rfl
noncomputable def Sb3:Sum:=mb4 ⟨[(.agg [(.o (.int .i64)),(.o (.int .i64)),(.o (.int .i64))]),(.s (.c 4 (nL tP))),(.fn 100077 [(.o (.int .i64)),(.o (.int .i64)),(.o (.int .i64))])],[],fun a H=>(⟨(toI (slT (cellsOf (slT a 0)) 0)),(toI (slT (cellsOf (slT a 0)) 1)),(toI (slT (cellsOf (slT a 0)) 2)),(rL tP (slT a 1)),(toI (slT (cellsOf (slT a 2)) 0)),(toI (slT (cellsOf (slT a 2)) 1)),(toI (slT (cellsOf (slT a 2)) 2))⟩,())⟩ (fun x=>gb5 x (ob7 x))
theorem Sc4:g9 prog G 74 Sb3:=X4 (enc:=fun x=>⟨[(.agg [(i x.fa6),(i x.fa7),(i x.fa8)]),(eL tP x.Ua6),(.fn 100077 [(i x.Na3),(i x.Na4),(i x.Na5)])],[]⟩) (fun a H=>by kernel_rfl) (bd b74 Cc2) fun x=>xa9 (.s .p (.s .p (.s .p (.s (.s .p (.b (.u Xa3.ls))) .p)))) [Xa3.pr] (by kernel_rfl) (.cons pc7 .nil) (Eq.trans (b:=sa8 (fun r=>(gb5 x r).run) x) (by kernel_rfl) (dd6 (fun r=>(gb5 x r).run) (fun r=>r) x).symm)
noncomputable def dd7:List (Nat×Sum):=[(74,Sb3)]
theorem Sc5:j9 prog G dd7:=⟨Sc4,trivial⟩
noncomputable def La3 (x:List Pln) (y:V3):Option (b7×List c7):=let t1:=(ob7 ⟨y.x,y.y,y.z,(rt tP x),y.x,y.y,y.z⟩);(sl ((cnE tP x)&&true) (sl (Nat.beq t1.alt 1) (some ((.tup [(.v (.slice none 0 0)),(b t1.bs1)]),[])) (sl (Nat.beq t1.alt 2) (some ((.tup [(.sl 0 0 t1.ns0 0),(b true)]),[⟨73,4,t1.eh0,true,false,0⟩])) none)) none)
noncomputable def La4 (x:List Pln) (y:V3):List Pln×Bool:=M4 (two (r1L tP) r1B) (La3 x y)
noncomputable def La5 (x:List Pln) (y:V3):Bool:=okO (two (r1L tP) r1B) (La3 x y)
noncomputable def fc1:Sum:=ga1 (oa4 tP) (K9 tV) (fun x y=>.guard (La5 x y) (.ret ((two (r1L tP) r1B).enc (La4 x y),[])))
theorem dd8:g9 prog G 21 fc1:=Oa2 (bd b21 Sc5) (two (r1L tP) r1B) (o:=La3) fun x y=>A6 (by kernel_rfl)
end Go.Ev.Ce
end
namespace Go.Ev.Ce
open Go Go.Ev Go.Ev.L Go.Proofs
noncomputable def rm (p:Pln) (x:Pt):Int:=W (p.b*x.pw - (p.n.x*x.px+p.n.y*x.py+p.n.z*x.pz))
structure Bd (p:Pln):Prop where
 x1:-4608≤p.n.x
 x2:p.n.x≤4608
 y1:-4608≤p.n.y
 y2:p.n.y≤4608
 z1:-4608≤p.n.z
 z2:p.n.z≤4608
 b1:-2097152≤p.b
 b2:p.b≤2097152
def mv (p q r:Pln):V3 :=
 ⟨(f0 q.n r.n).x*p.b+(f0 r.n p.n).x*q.b+(f0 p.n q.n).x*r.b,
  (f0 q.n r.n).y*p.b+(f0 r.n p.n).y*q.b+(f0 p.n q.n).y*r.b,
  (f0 q.n r.n).z*p.b+(f0 r.n p.n).z*q.b+(f0 p.n q.n).z*r.b⟩
def gc (v:V3) (w:Int):Int:=(Nat.gcd (Nat.gcd v.x.natAbs v.y.natAbs) (Nat.gcd v.z.natAbs w.natAbs):Nat)
def mpt (p q r:Pln):Pt×Bool :=
 if mw p q r=0 then (⟨0,0,0,0⟩,false)
 else if mw p q r < 0 then (⟨Int.tdiv (-(mv p q r).x) (gc (mv p q r) (mw p q r)),Int.tdiv (-(mv p q r).y) (gc (mv p q r) (mw p q r)),Int.tdiv (-(mv p q r).z) (gc (mv p q r) (mw p q r)),Int.tdiv (-(mw p q r)) (gc (mv p q r) (mw p q r))⟩,true)
 else (⟨Int.tdiv (mv p q r).x (gc (mv p q r) (mw p q r)),Int.tdiv (mv p q r).y (gc (mv p q r) (mw p q r)),Int.tdiv (mv p q r).z (gc (mv p q r) (mw p q r)),Int.tdiv (mw p q r) (gc (mv p q r) (mw p q r))⟩,true)
def Sm (n:Int) (x:Int):Prop:=-n≤x∧x≤n
theorem Hd0 {a b:V3} (ha:Sm 4608 a.x∧Sm 4608 a.y∧Sm 4608 a.z) (hb:Sm 4608 b.x∧Sm 4608 b.y∧Sm 4608 b.z):Sm 42467328 (f0 a b).x∧Sm 42467328 (f0 a b).y∧Sm 42467328 (f0 a b).z:=by
 obtain⟨⟨a1,a2⟩,⟨a3,a4⟩,a5,a6⟩:=ha
 obtain⟨⟨b1,b2⟩,⟨b3,b4⟩,b5,b6⟩:=hb
 have h1:=mb a3 a4 b5 b6;have h2:=mb a5 a6 b3 b4;have h3:=mb a5 a6 b1 b2;have h4:=mb a1 a2 b5 b6;have h5:=mb a1 a2 b3 b4;have h6:=mb a3 a4 b1 b2
 unfold Sm f0
 simp only
 omega
theorem Bd.n {p:Pln} (h:Bd p):Sm 4608 p.n.x∧Sm 4608 p.n.y∧Sm 4608 p.n.z:=⟨⟨h.x1,h.x2⟩,⟨h.y1,h.y2⟩,h.z1,h.z2⟩
theorem Ge7 (a b:V3):ca5 a b=⟨W (f0 a b).x,W (f0 a b).y,W (f0 a b).z⟩:=by
 unfold ca5 f0
 simp only[Sd4,se3]
theorem Zd3 (a b:V3):ua5 a b=⟨W (f0 a b).x,W (f0 a b).y,W (f0 a b).z⟩:=by
 unfold ua5 f0
 simp only[Sd4,se3]
theorem Hb7 {x:Int} (h:Sm 1000000000000000000 x):W x=x:=ka8 (by have:=h.1;omega) (by have:=h.2;omega)
theorem Sm.mono {n m x:Int} (h:Sm n x) (hn:n≤m):Sm m x:=⟨by have:=h.1;omega,by have:=h.2;omega⟩
theorem ab3 {n x g:Int} (h:Sm n x) (hg:0 < g):Sm n (Int.tdiv x g):=by
 have h1:(Int.tdiv x g).natAbs≤x.natAbs:=by rw[Int.natAbs_tdiv];exact Nat.div_le_self _ _
 have:=h.1;have:=h.2
 constructor<;>omega
end Go.Ev.Ce
namespace Go.Ev.Ce
open Go Go.Ev Go.Ev.L Go.Proofs
noncomputable def inn (l:List Pln) (x:Pt):Bool:=l.all fun p=>!decide (rm p x < 0)
def eqX (x q:Pt):Bool:=q.px==x.px&&(q.py==x.py&&(q.pz==x.pz&&(q.pw==x.pw&&true)))
def rf6 (l:List Pt) (x:Pt):Bool:=l.any (eqX x)
def smb (n x:Int):Bool:=!decide (x < -n)&&!decide (x > n)
theorem lb2 (n x:Int):smb n x=true↔Sm n x:=by unfold smb Sm;simp only[Bool.and_eq_true,Bool.not_eq_true',decide_eq_false_iff_not];omega
theorem Sc6 (n:Int) (l:List Int) (hn:0≤n∧n≤1000000000) (hl:l.length≤1000000000):ua8 n l=some (b (l.all (smb n)),[]):=by
 have hW:W (0 - n)=-n:=by rw[ka8 (by omega) (by omega)];omega
 have h:=Wa1 (step:=ia0 ⟨n,l,(l.length:Int)⟩) (mk:=fun j=>(⟨(j:Int)⟩:I5)) (c:=fun x=>!smb n x) (u:=1) (fin:=2) tI l hl
  (fun j hj=>by
   simp only[ia0,ea3,Int.toNat_natCast,o6 hj (by omega),hW]
   rw[bt (Rc0 hj),bt (f7 hj)]
   unfold smb
   cases decide (gL tI l j < -n)<;>cases decide (gL tI l j > n)<;>rfl)
  (by simp only[ia0,ea3];rw[bf (dc8 (Nat.lt_irrefl _))]) 0 (Nat.zero_le _)
 rw[List.drop_zero] at h
 unfold ua8
 simp only[j8,j7]
 rw[show (⟨0⟩:I5)=⟨((0:Nat):Int)⟩ from rfl,h]
 have e:(l.any fun x=>!smb n x)=!l.all (smb n):=by rw[List.not_all_eq_any_not]
 rw[e]
 cases l.all (smb n)<;>rfl
theorem sb0 (n:Int) (l:List Int) (hn:0≤n∧n≤1000000000) (hl:l.length≤1000000000):L0 n l=l.all (smb n):=by unfold L0;rw[Sc6 n l hn hl];rfl
theorem sb1 (n:Int) (l:List Int) (hn:0≤n∧n≤1000000000) (hl:l.length≤1000000000):L1 n l=true:=by unfold L1;rw[Sc6 n l hn hl];rfl
theorem lb3 {n:Int} (h:Sm 1000000000000000000 n):S6 n=(n.natAbs:Int):=by
 unfold S6
 obtain⟨h1,h2⟩:=h
 rw[ka8 (by omega) (by omega)]
 split<;>omega
theorem fc2 {n:Int} (h:Sm 1000000000000000000 n):ua6 n=some (i (n.natAbs:Int),[]):=by
 unfold ua6
 obtain⟨h1,h2⟩:=h
 rw[ka8 (by omega) (by omega)]
 by_cases h:n < 0
 ·rw[bt (decide_eq_true h)];congr 3;omega
 ·rw[bf (decide_eq_false h)];congr 3;omega
theorem Hb8 {n:Int} (h:Sm 1000000000000000000 n):ma8 n=(n.natAbs:Int):=by unfold ma8;rw[fc2 h];rfl
theorem Hb9 {n:Int} (h:Sm 1000000000000000000 n):ma9 n=true:=by unfold ma9;rw[fc2 h];rfl
def g3 (v:V3):Int:=(Nat.gcd (Nat.gcd v.x.natAbs v.y.natAbs) v.z.natAbs:Nat)
theorem se6 (g n:Nat):eu (g:Int) (n:Int)=(Nat.gcd g n:Nat):=by rw[Ue7 (by omega) (by omega)];rfl
theorem dd9 (P:X5) (g n:Nat) (hn:n≤1000000000000000000):lp (S7 P) ⟨(g:Int),(n:Int)⟩=(1,⟨(Nat.gcd g n:Nat),0⟩):=by
 have:=vc5 (step:=S7 P) (mk:=fun g n=>(⟨g,n⟩:K0)) (fun g n h=>by
  have h0:n≠0:=by omega
  simp[S7,ba0,Ub7,h,h0]) (fun g=>by simp[S7,ba0,Ub7]) (g:Int) (n:Int) (by omega) (by omega) (by omega)
 rw[this,se6]
theorem Sc7 (l:List Int) (hl:l.length≤1000000000) (hb:∀ x∈l,Sm 1000000000000000000 x):pa7 l=some (i (l.foldl (fun g x=>Nat.gcd g x.natAbs) 0:Nat),[]):=by
 have h := Ge5 (step := ea4 ⟨(l.length : Int)⟩) (mk := fun j (a : Nat) => (⟨(a : Int), l, (j : Int)⟩ : D8)) (f := fun g x => Nat.gcd g x.natAbs) (fin := 2) tI l (fun _ _ => True) hl (fun j a hj _ => ⟨by
   have hm:=hb _ (Pa5 tI hj)
   have hne:(gL tI l j==(-9223372036854775808:Int))=false:=by
    have:=hm.1
    rw[beq_eq_false_iff_ne];omega
   have hs:(gL tI l j).natAbs≤1000000000000000000:=by obtain⟨h1,h2⟩:=hm;omega
   simp only[ea4,ba1,Int.toNat_natCast,j8,j7,lb3 hm,dd9 _ _ _ hs,o6 hj (by omega)]
   rw[bt (Rc0 hj),bt (f7 hj),bf hne]
   rfl,trivial⟩) (fun a _=>by simp only[ea4,ba1];rw[bf (dc8 (Nat.lt_irrefl _))]) 0 (Nat.zero_le _) 0 trivial
 have h:=h.1
 rw[List.drop_zero] at h
 unfold pa7
 simp only[j8,j7]
 rw[show (⟨0,l,0⟩:D8)=⟨((0:Nat):Int),l,((0:Nat):Int)⟩ from rfl,h]
 rfl
def okp (p:Pln):Bool:=[p.n.x,p.n.y,p.n.z].all (smb 4608)&&(g3 p.n==1&&[p.b].all (smb 2097152))
theorem Ve5 (p:Pln):Bd p↔[p.n.x,p.n.y,p.n.z].all (smb 4608)=true∧[p.b].all (smb 2097152)=true:=by
 simp only[List.all_cons,List.all_nil,Bool.and_true,Bool.and_eq_true,lb2,Sm]
 exact⟨fun h=>⟨⟨⟨h.x1,h.x2⟩,⟨h.y1,h.y2⟩,h.z1,h.z2⟩,h.b1,h.b2⟩,fun⟨⟨⟨a,b⟩,⟨c,d⟩,e,f⟩,g,h⟩=>⟨a,b,c,d,e,f,g,h⟩⟩
theorem Ib0 {p:Pln} (h:okp p=true):Bd p:=by
 unfold okp at h
 rw[Bool.and_eq_true,Bool.and_eq_true] at h
 exact (Ve5 p).2 ⟨h.1,h.2.2⟩
theorem sm3 {v:V3} (h:[v.x,v.y,v.z].all (smb 4608)=true):Sm 4608 v.x∧Sm 4608 v.y∧Sm 4608 v.z:=by
 simpa only[List.all_cons,List.all_nil,Bool.and_true,Bool.and_eq_true,lb2] using h
theorem Hd1 (p:Pln):Aa4 p=some (b (okp p),[]):=by
 unfold Aa4 okp
 have l3:[p.n.x,p.n.y,p.n.z].length≤1000000000:=by simp
 have l1:[p.b].length≤1000000000:=by simp
 simp only[sb0 4608 _ (by omega) l3,sb1 4608 _ (by omega) l3,sb0 2097152 _ (by omega) l1,sb1 2097152 _ (by omega) l1]
 cases hw:[p.n.x,p.n.y,p.n.z].all (smb 4608) with
 | false=>rfl
 | true =>
  obtain⟨h1,h2,h3⟩:=sm3 hw
  have hd:=Sc7 [p.n.x,p.n.y,p.n.z] l3 (by
   intro x hx
   simp only[List.mem_cons,List.not_mem_nil,or_false] at hx
   rcases hx with rfl | rfl | rfl
   ·exact h1.mono (by omega)
   ·exact h2.mono (by omega)
   ·exact h3.mono (by omega))
  have hg:([p.n.x,p.n.y,p.n.z].foldl (fun g x=>Nat.gcd g x.natAbs) 0:Nat)=Nat.gcd (Nat.gcd p.n.x.natAbs p.n.y.natAbs) p.n.z.natAbs:=by
   simp only[List.foldl_cons,List.foldl_nil,Nat.gcd_zero_left]
  have hp:Z5 [p.n.x,p.n.y,p.n.z]=g3 p.n:=by unfold Z5;rw[hd,hg];rfl
  have hgd:Z6 [p.n.x,p.n.y,p.n.z]=true:=by unfold Z6;rw[hd];rfl
  rw[hp,hgd]
  cases g3 p.n==1<;>rfl
theorem Zd4 (p:Pln):Aa5 p=okp p:=by unfold Aa5;rw[Hd1 p];rfl
theorem Zd5 (p:Pln):Aa6 p=true:=by unfold Aa6;rw[Hd1 p];rfl
theorem pc8 (P:ha9) (g n:Nat) (hn:n≤1000000000000000000):lp (ca4 P) ⟨(g:Int),(n:Int)⟩=(1,⟨(Nat.gcd g n:Nat),0⟩):=by
 have:=vc5 (step:=ca4 P) (mk:=fun g n=>(⟨g,n⟩:N7)) (fun g n h=>by
  have h0:n≠0:=by omega
  simp[ca4,ua7,Ub7,h,h0]) (fun g=>by simp[ca4,ua7,Ub7]) (g:Int) (n:Int) (by omega) (by omega) (by omega)
 rw[this,se6]
theorem ud2 {v : V3} (h1 : Sm 1000000000000000000 v.x) (h2 : Sm 1000000000000000000 v.y) (h3 : Sm 1000000000000000000 v.z) :
  db3 v=if g3 v=0 then some (.tup [.agg (tV.row ⟨0,0,0⟩),i 0],[]) else some (.tup [.agg (tV.row ⟨W (Int.tdiv v.x (g3 v)),W (Int.tdiv v.y (g3 v)),W (Int.tdiv v.z (g3 v))⟩),i (g3 v)],[]):=by
 have ne:∀ {x:Int},Sm 1000000000000000000 x→(x==(-9223372036854775808:Int))=false:=fun {x} h=>by
  have:=h.1
  rw[beq_eq_false_iff_ne];omega
 have bd:∀ {x:Int},Sm 1000000000000000000 x→x.natAbs≤1000000000000000000:=fun {x} h=>by obtain⟨h1,h2⟩:=h;omega
 have l1:=pc8 ⟨0,v.x,v.y,v.z,v.x,v.y,v.z⟩ 0 v.x.natAbs (bd h1)
 rw[Nat.gcd_zero_left] at l1
 have l2:=pc8 ⟨1,v.x,v.y,v.z,v.x,v.y,v.z⟩ v.x.natAbs v.y.natAbs (bd h2)
 have l3:=pc8 ⟨2,v.x,v.y,v.z,v.x,v.y,v.z⟩ (Nat.gcd v.x.natAbs v.y.natAbs) v.z.natAbs (bd h3)
 unfold db3
 simp only[Hb8 h1,Hb8 h2,Hb8 h3,Hb9 h1,Hb9 h2,Hb9 h3]
 rw[show (⟨0,(v.x.natAbs:Int)⟩:N7)=⟨((0:Nat):Int),(v.x.natAbs:Int)⟩ from rfl]
 simp only[l1,l2,l3,ne h1,ne h2,ne h3]
 rw[show ((Nat.gcd (Nat.gcd v.x.natAbs v.y.natAbs) v.z.natAbs:Nat):Int)=g3 v from rfl]
 by_cases h:g3 v=0
 ·rw[if_pos h,show (g3 v==0)=true from by rw[h];rfl];rfl
 ·rw[if_neg h,show (g3 v==0)=false from by rw[beq_eq_false_iff_ne];exact h];rfl
theorem Sc8 {v:V3} (h1:Sm 1000000000000000000 v.x) (h2:Sm 1000000000000000000 v.y) (h3:Sm 1000000000000000000 v.z):(Fa8 v).2=g3 v:=by
 unfold Fa8
 rw[ud2 h1 h2 h3]
 split
 ·rename_i h;rw[h];rfl
 ·rfl
theorem Ve6 {v:V3} (h1:Sm 1000000000000000000 v.x) (h2:Sm 1000000000000000000 v.y) (h3:Sm 1000000000000000000 v.z) (h:g3 v≠0):Fa8 v=(⟨W (Int.tdiv v.x (g3 v)),W (Int.tdiv v.y (g3 v)),W (Int.tdiv v.z (g3 v))⟩,g3 v):=by
 unfold Fa8
 rw[ud2 h1 h2 h3,if_neg h]
 rfl
theorem se7 {v:V3} (h1:Sm 1000000000000000000 v.x) (h2:Sm 1000000000000000000 v.y) (h3:Sm 1000000000000000000 v.z):db4 v=true:=by
 unfold db4
 rw[ud2 h1 h2 h3]
 split<;>rfl
theorem ld2 (p:Pln):Ta3 p=some (b (okp p),[]):=by
 unfold Ta3 okp
 cases hw:[p.n.x,p.n.y,p.n.z].all (smb 4608) with
 | false =>
  simp only[List.all_cons,List.all_nil,Bool.and_true,smb] at hw
  cases h1:decide (p.n.x < -4608)<;>cases h2:decide (p.n.x > 4608)<;>cases h3:decide (p.n.y < -4608)<;>cases h4:decide (p.n.y > 4608)<;>cases h5:decide (p.n.z < -4608)<;>cases h6:decide (p.n.z > 4608)<;>simp only[h1,h2,h3,h4,h5,h6] at hw ⊢<;>first | rfl | cases hw
 | true =>
  obtain⟨h1,h2,h3⟩:=sm3 hw
  rw[bf (decide_eq_false (by have:=h1.1;omega)),bf (decide_eq_false (by have:=h1.2;omega)),bf (decide_eq_false (by have:=h2.1;omega)),bf (decide_eq_false (by have:=h2.2;omega)),bf (decide_eq_false (by have:=h3.1;omega)),bf (decide_eq_false (by have:=h3.2;omega))]
  have k1:=h1.mono (m:=1000000000000000000) (by omega)
  have k2:=h2.mono (m:=1000000000000000000) (by omega)
  have k3:=h3.mono (m:=1000000000000000000) (by omega)
  rw[bt (se7 k1 k2 k3),Sc8 k1 k2 k3]
  cases g3 p.n==1 with
  | false=>rfl
  | true =>
   simp only[List.all_cons,List.all_nil,Bool.and_true,smb,Bool.true_and]
   rw[q8]
   by_cases ha:p.b < -2097152
   ·rw[bf (decide_eq_false (by omega)),show decide (p.b < -2097152)=true from decide_eq_true ha];rfl
   ·rw[bt (decide_eq_true (by omega)),show decide (p.b < -2097152)=false from decide_eq_false ha]
    congr 3
    by_cases hc:p.b≤2097152
    ·rw[decide_eq_true hc,decide_eq_false (by omega)];rfl
    ·rw[decide_eq_false hc,decide_eq_true (by omega)];rfl
theorem se8 (p:Pln):kb0 p=okp p:=by unfold kb0;rw[ld2 p];rfl
theorem Hd2 (p:Pln):kb1 p=true:=by unfold kb1;rw[ld2 p];rfl
def chk (l:List Pln):Int:=if (l.length:Int) > 48 then 2 else if l.all okp then 0 else 12
theorem se9 {l:List Pln}:chk l=0↔l.length≤48∧∀ p∈l,okp p=true:=by
 unfold chk
 by_cases hn:(l.length:Int) > 48
 ·rw[if_pos hn]
  exact⟨fun h=>absurd h (by decide),fun h=>by omega⟩
 ·rw[if_neg hn]
  cases h:l.all okp with
  | true=>exact⟨fun _=>⟨by omega,List.all_eq_true.1 h⟩,fun _=>rfl⟩
  | false=>exact⟨fun h=>absurd h (by decide),fun h'=>by rw[List.all_eq_true.2 h'.2] at h;cases h⟩
end Go.Ev.Ce
namespace Go.Ev.Ce
open Go Go.Ev Go.Ev.L Go.Proofs
theorem btD {p:Prop} {inst:Decidable p} (h:p) {α:Type} (t e:α):sl (@decide p inst) t e=t:=bt (decide_eq_true h) t e
theorem bfD {p:Prop} {inst:Decidable p} (h:¬ p) {α:Type} (t e:α):sl (@decide p inst) t e=e:=bf (decide_eq_false h) t e
theorem i8 {j n:Nat} (h:j < n):(j:Int) < (n:Int):=Int.ofNat_lt.2 h
theorem i7 {j n:Nat} (h:¬ j < n):¬ (j:Int) < (n:Int):=fun h'=>h (Int.ofNat_lt.1 h')
noncomputable def ff8 (r:List Pln) (p q:Pln) (out:List Pt) (s:Pln):List Pt :=
 if (mpt p q s).2&&(!rf6 out (mpt p q s).1&&inn r (mpt p q s).1) then out++[(mpt p q s).1] else out
noncomputable def rf7 (r:List Pln) (p q:Pln) (l:List Pln) (out:List Pt):List Pt:=l.foldl (ff8 r p q) out
noncomputable def ff9 (r:List Pln) (p:Pln):List Pln→List Pt→List Pt
 | [],out=>out
 | q::l,out=>ff9 r p l (rf7 r p q l out)
noncomputable def gf0 (r:List Pln):List Pln→List Pt→List Pt
 | [],out=>out
 | p::l,out=>gf0 r l (ff9 r p l out)
noncomputable def cor (r:List Pln):List Pt:=gf0 r r []
noncomputable def ph (out:List Pt):Nat:=match out with
 | []=>0
 | _::_=>1
theorem Hc2 {α:Type} (t:Ty α) (l:List α) (n k:Nat):gL t (l.drop n) k=gL t l (n+k):=by simp[gL,List.getD_eq_getElem?_getD,List.getElem?_drop]
theorem Qa1 {ρ:Type} (R:RR ρ) {x:b7×List c7} {r:ρ} (h:R.rd x=some r):M4 R (some x)=r:=by
 show Option.rec (motive:=fun _=>ρ) R.d (fun x=>x) (R.rd x)=r
 rw[h]
theorem gb6 {ρ:Type} (R:RR ρ) {x:b7×List c7} {r:ρ} (h:R.rd x=some r):okO R (some x)=true:=by
 show Option.rec (motive:=fun _=>Bool) false (fun _=>true) (R.rd x)=true
 rw[h]
@[reducible] noncomputable def flK:List (Nat×CK):=[(0,(.int .i64)),(1,(.int .i64)),(2,(.int .i64)),(3,(.int .i64))]
structure C2 (P:qb4) (r:List Pln) (p q:Pln) (lo:Nat):Prop where
 ns:P.tf1=(r.drop lo).length
 gs:P.tf2=fun k=>tP.row (gL tP r (lo+k))
 is:P.tf3=((r.drop lo).length:Int)
 p1:(⟨⟨P.F6,P.F7,P.F8⟩,P.Na1⟩:Pln)=p
 q1:(⟨⟨P.Ma7,P.Ma8,P.Ma9⟩,P.Ne1⟩:Pln)=q
 r1:P.ke1=r
theorem Ve7 (s:Pln):((Nat.ble 4 (len (tP.row s)))&&(K6 [(CK.int .i64),(CK.int .i64),(CK.int .i64),(CK.int .i64)] (tP.row s)))=true:=rfl
structure C1 (P:qb5) (r:List Pln) (p:Pln) (a:Nat):Prop where
 i3:P.is3=(a:Int)
 ns:P.if4=(r.drop (a+1)).length
 gs:P.if5=fun k=>tP.row (gL tP r (a+1+k))
 is:P.Ze3=((r.drop (a+1)).length:Int)
 p1:(⟨⟨P.F6,P.F7,P.F8⟩,P.Na1⟩:Pln)=p
end Go.Ev.Ce
namespace Go.Ev.Ce
open Go Go.Ev Go.Ev.L Go.Proofs
noncomputable def slP (l:List Pln):b7×List c7:=(.sl 0 0 l.length 0,[⟨73,4,bL tP l,true,false,0⟩])
theorem Ve8 (l:List Pln):(one (r1L tP)).rd (slP l)=some l:=by
 show Bool.rec (motive:=fun _=>Option (List Pln)) none (some (slR tP (bL tP l) 0 l.length)) (Bool.and true (okS tP (bL tP l) 0 l.length))=_
 rw[cb7,mb3]
 rfl
theorem Zd6 {α:Type} (t:Ty α) (l:List α):(one (r1L t)).rd (eL t l,[])=some l:=by
 show Bool.rec (motive:=fun _=>Option (List α)) none (some (rt t l)) (Bool.and (Nat.beq t.es t.es) (okE t l))=_
 rw[j8,N6,Nat.beq_refl]
 rfl
noncomputable def ws:List Pln:=[⟨⟨1,0,0⟩,24⟩,⟨⟨-1,0,0⟩,24⟩,⟨⟨0,1,0⟩,24⟩,⟨⟨0,-1,0⟩,24⟩,⟨⟨0,0,1⟩,24⟩,⟨⟨0,0,-1⟩,24⟩]
noncomputable def Cc3 (t:Nat) (d:List Pln):List (List b7):=app (bL tP d) (List.replicate (t - d.length) rf1)
noncomputable def pos (X:List Pt) (p:Pln):Bool:=X.any fun x=>decide (rm p x > 0)
noncomputable def rf8 (r:List Pln):Bool:=r.all (pos (cor r))
end Go.Ev.Ce
namespace Go.Ev.Ce
open Go Go.Ev Go.Ev.L Go.Proofs
structure Okx (x:Pt):Prop where
 w1:0 < x.pw
 w2:x.pw≤600000000000
 c1:Sm 300000000000000 x.px
 c2:Sm 300000000000000 x.py
 c3:Sm 300000000000000 x.pz
theorem te0 {x y:Int} (hy:0 < y):Int.tmod x y+y*Int.tdiv x y=x∧-y < Int.tmod x y∧Int.tmod x y < y:=by
 refine⟨Int.tmod_add_mul_tdiv x y,?_,Int.tmod_lt_of_pos x hy⟩
 have:=Int.lt_tmod_of_pos x hy
 omega
theorem te1 (x:Int) {y:Int} (hy:0 < y) (hy2:y≤4000000000000000000):qb2 x y=some (i (x % y),[]):=by
 have hz:(y==0)=false:=by rw[beq_eq_false_iff_ne];omega
 obtain⟨h1,h2,h3⟩:=te0 (x:=x) hy
 unfold qb2
 rw[bfD (by omega),bf hz,bf hz,ka8 (by omega) (by omega),Int.tmod_eq_emod_of_nonneg (by omega)]
 congr 3
 rw[Int.add_emod_right]
 conv=>rhs;rw[← h1]
 rw[Int.add_mul_emod_self_left]
theorem Pe6 (x:Int) {y:Int} (hy:0 < y) (hy2:y≤4000000000000000000):bb3 x y=x % y:=by unfold bb3;rw[te1 x hy hy2];rfl
theorem Pe7 (x:Int) {y:Int} (hy:0 < y) (hy2:y≤4000000000000000000):qb3 x y=true:=by unfold qb3;rw[te1 x hy hy2];rfl
theorem Sm.neg {n x:Int} (h:Sm n x):Sm n (-x):=⟨by have:=h.2;omega,by have:=h.1;omega⟩
theorem te2 (x:Pln):(x.n.x==x.n.x&&(x.n.y==x.n.y&&(x.n.z==x.n.z&&(x.b==x.b&&true))))=true:=by simp
theorem Zd7 (l:List Pln) (hl:l.length≤1000000000):db7 l l=some (b true,[]):=by
 have h:=Wa1 (step:=Ba1 ⟨l,l⟩) (mk:=fun j=>(⟨(j:Int)⟩:ba9)) (c:=fun _=>false) (u:=1) (fin:=2) tP l hl
  (fun j hj=>by
   simp only[Ba1,va5,Int.toNat_natCast,o6 hj (by omega),te2]
   rw[btD (i8 hj),bt (f7 hj),bt (f7 hj)]
   rfl)
  (by simp only[Ba1,va5];rw[bfD (i7 (Nat.lt_irrefl _))]) 0 (Nat.zero_le _)
 rw[List.drop_zero,show (l.any fun _=>false)=false by simp] at h
 unfold db7
 simp only[j8,j7]
 rw[show (⟨0⟩:ba9)=⟨((0:Nat):Int)⟩ from rfl,h,bf (by simp)]
 rfl
theorem te3 (l:List Pln) (hl:l.length≤1000000000):db8 l l=true:=by unfold db8;rw[Zd7 l hl];rfl
theorem te4 (l:List Pln) (hl:l.length≤1000000000):db9 l l=true:=by unfold db9;rw[Zd7 l hl];rfl
end Go.Ev.Ce
namespace Go.Ev.Ce
open Go Go.Ev Go.Ev.L Go.Proofs
def Nx {σ:Type} (x:Stp σ) (E:Nat→Prop) (N:σ→Prop):Prop:=(∃ t,x=.exit t∧E t)∨∃ s,x=.next s∧N s
theorem Nx.sl {σ:Type} {c:Bool} {t e:Stp σ} {E:Nat→Prop} {N:σ→Prop} (h1:c=true→Nx t E N) (h2:c=false→Nx e E N):Nx (sl c t e) E N:=by cases c;exact h2 rfl;exact h1 rfl
theorem Nx.ex {σ:Type} {t:Nat} {E:Nat→Prop} {N:σ→Prop} (h:E t):Nx (.exit t) E N:=.inl ⟨t,rfl,h⟩
theorem Nx.nx {σ:Type} {s:σ} {E:Nat→Prop} {N:σ→Prop} (h:N s):Nx (.next s) E N:=.inr ⟨s,rfl,h⟩
theorem F5 {σ τ : Type} {step : σ → Stp σ} {mk : Nat → τ → σ} (n : Nat) (I : Nat → τ → Prop) (E : Nat → σ → Prop) (hn : n ≤ 1000000000)
  (h:∀ j a,j < n→I j a→Nx (step (mk j a)) (fun t=>E t (mk j a)) (fun s=>∃ a',s=mk (j+1) a'∧I (j+1) a'))
  (hf:∀ j a,n≤j→I j a→∃ t,step (mk j a)=.exit t∧E t (mk j a)) (j0:Nat) (a:τ) (hi:I j0 a):∃ t s,lp step (mk j0 a)=(t,s)∧E t s:=by
 have key:=nc1 (step:=step) (I:=fun m s=>∃ j a,m=n - j∧s=mk j a∧I j a) (Q:=E) (fun m s ⟨j,a,hm,hs,ha⟩=>by
  subst hs
  by_cases hlt:j < n
  ·rcases h j a hlt ha with h1 | ⟨s',h1,a',h2,h3⟩
   ·exact .inl h1
   ·subst h2
    exact .inr ⟨_,n - (j+1),by omega,h1,j+1,a',rfl,rfl,h3⟩
  ·exact .inl (hf j a (by omega) ha)) (n - j0) (mk j0 a) (by omega) ⟨j0,a,rfl,rfl,hi⟩
 exact⟨_,_,rfl,key⟩
def Rd {ρ:Type} (R:RR ρ) (o:Option (b7×List c7)) (P:ρ→Prop):Prop:=∃ x r,o=some x∧R.rd x=some r∧P r
theorem Rd.p {ρ:Type} {R:RR ρ} {o:Option (b7×List c7)} {P:ρ→Prop} (h:Rd R o P):P (M4 R o):=by
 obtain⟨x,r,h1,h2,h3⟩:=h
 rw[h1,Qa1 R h2]
 exact h3
theorem Rd.g {ρ:Type} {R:RR ρ} {o:Option (b7×List c7)} {P:ρ→Prop} (h:Rd R o P):okO R o=true:=by
 obtain⟨x,r,h1,h2,h3⟩:=h
 rw[h1]
 exact gb6 R h2
theorem Rd.sl {ρ:Type} {R:RR ρ} {c:Bool} {t e:Option (b7×List c7)} {P:ρ→Prop} (h1:c=true→Rd R t P) (h2:c=false→Rd R e P):Rd R (sl c t e) P:=by cases c;exact h2 rfl;exact h1 rfl
theorem ab4 (n : Int) (l : List Int) (j : Int) (h1 : 0 ≤ j) (h2 : j ≤ 1000000) (hn : 0 < n) (hn2 : n ≤ 1000000) :
  ∃ v j',p4 ⟨n,l,j⟩=⟨1,v,j'⟩∧0≤v∧v < n∧j≤j'∧j'≤j+1:=by
 unfold p4 ha0
 simp only
 by_cases h:j≥(l.length:Int)
 ·rw[btD h]
  exact⟨0,j,rfl,by omega,hn,by omega,by omega⟩
 ·rw[bfD h]
  have hW:W (W (j+1) - 1)=j:=by rw[Sd4,ka8 (by omega) (by omega)];omega
  have hW2:W (j+1)=j+1:=ka8 (by omega) (by omega)
  have hin:inB j l.length=true:=by rw[Ge4];exact decide_eq_true (by omega)
  rw[hW,hW2,hin,Pe7 _ hn (by omega),Pe6 _ hn (by omega)]
  exact⟨_,_,rfl,Int.emod_nonneg _ (by omega),Int.emod_lt_of_pos _ hn,by omega,by omega⟩
theorem Ve9 (m : Int) (l : List Int) (j : Int) (h1 : 0 ≤ j) (h2 : j ≤ 900000) (hm : 0 ≤ m) (hm2 : m ≤ 100000) :
  ∃ a b c j',qb7 ⟨m,l,j⟩=⟨1,a,b,c,l,j'⟩∧Sm m a∧Sm m b∧Sm m c∧j≤j'∧j'≤j+3:=by
 unfold qb7 bb4
 simp only[j8,j7]
 have hW:W (W (2*m)+1)=2*m+1:=by rw[Gb5,ka8 (by omega) (by omega)]
 rw[hW]
 obtain⟨v1,j1,e1,a1,b1,c1,d1⟩:=ab4 (2*m+1) l j h1 (by omega) (by omega) (by omega)
 rw[e1]
 obtain⟨v2,j2,e2,a2,b2,c2,d2⟩:=ab4 (2*m+1) l j1 (by omega) (by omega) (by omega) (by omega)
 simp only
 rw[e2]
 obtain⟨v3,j3,e3,a3,b3,c3,d3⟩:=ab4 (2*m+1) l j2 (by omega) (by omega) (by omega) (by omega)
 simp only
 rw[e3]
 refine⟨v1 - m,v2 - m,v3 - m,j3,?_,⟨by omega,by omega⟩,⟨by omega,by omega⟩,⟨by omega,by omega⟩,by omega,by omega⟩
 simp only
 rw[ka8 (n:=v1 - m) (by omega) (by omega),ka8 (n:=v2 - m) (by omega) (by omega),ka8 (n:=v3 - m) (by omega) (by omega)]
 rfl
def inV (v:V3):Bool:=smb 24 v.x&&(smb 24 v.y&&smb 24 v.z)
theorem xb2 (v:V3):inV v=true↔Sm 24 v.x∧Sm 24 v.y∧Sm 24 v.z:=by unfold inV;rw[Bool.and_eq_true,Bool.and_eq_true,lb2,lb2,lb2]
theorem te5 (v:V3):Fb5 v=some (b (inV v),[]):=by
 unfold Fb5 inV smb
 cases h1:decide (v.x < -24)<;>cases h2:decide (v.x > 24)<;>cases h3:decide (v.y < -24)<;>cases h4:decide (v.y > 24)<;>cases h5:decide (v.z < -24)<;>cases h6:decide (v.z > 24)<;>rfl
theorem Zd8 (v:V3):Ta5 v=inV v:=by unfold Ta5;rw[te5];rfl
theorem Hd3 (v:V3):Ta6 v=true:=by unfold Ta6;rw[te5];rfl
def sub (a b:V3):V3:=⟨a.x - b.x,a.y - b.y,a.z - b.z⟩
theorem Zd9 {a b:V3} (ha:inV a=true) (hb:inV b=true):ya1 a b=sub a b∧Sm 48 (sub a b).x∧Sm 48 (sub a b).y∧Sm 48 (sub a b).z:=by
 rw[xb2] at ha hb
 obtain⟨⟨a1,a2⟩,⟨a3,a4⟩,a5,a6⟩:=ha
 obtain⟨⟨b1,b2⟩,⟨b3,b4⟩,b5,b6⟩:=hb
 unfold ya1 sub
 rw[ka8 (by omega) (by omega),ka8 (by omega) (by omega),ka8 (by omega) (by omega)]
 exact⟨rfl,⟨by show _≤a.x - b.x;omega,by show a.x - b.x≤_;omega⟩,⟨by show _≤a.y - b.y;omega,by show a.y - b.y≤_;omega⟩,⟨by show _≤a.z - b.z;omega,by show a.z - b.z≤_;omega⟩⟩
theorem ob8 {a b c : V3} (ha : inV a = true) (hb : inV b = true) (hc : inV c = true) :
  ua5 (ya1 b a) (ya1 c a)=f0 (sub b a) (sub c a)∧Sm 4608 (f0 (sub b a) (sub c a)).x∧Sm 4608 (f0 (sub b a) (sub c a)).y∧Sm 4608 (f0 (sub b a) (sub c a)).z:=by
 obtain⟨e1,⟨u1,u2⟩,⟨u3,u4⟩,u5,u6⟩:=Zd9 hb ha
 obtain⟨e2,⟨v1,v2⟩,⟨v3,v4⟩,v5,v6⟩:=Zd9 hc ha
 rw[e1,e2,Zd3]
 generalize sub b a=p at *
 generalize sub c a=q at *
 have h1:=mb u3 u4 v5 v6;have h2:=mb u5 u6 v3 v4;have h3:=mb u5 u6 v1 v2;have h4:=mb u1 u2 v5 v6;have h5:=mb u1 u2 v3 v4;have h6:=mb u3 u4 v1 v2
 have k:Sm 4608 (f0 p q).x∧Sm 4608 (f0 p q).y∧Sm 4608 (f0 p q).z:=by unfold Sm f0;simp only;omega
 obtain⟨k1,k2,k3⟩:=k
 rw[Hb7 (k1.mono (by omega)),Hb7 (k2.mono (by omega)),Hb7 (k3.mono (by omega))]
 exact⟨rfl,k1,k2,k3⟩
def D7 (a b c:V3):Pln×Bool :=
 if inV a&&(inV b&&inV c) then
  if g3 (f0 (sub b a) (sub c a))=0 then (⟨⟨0,0,0⟩,0⟩,false)
  else (⟨⟨Int.tdiv (f0 (sub b a) (sub c a)).x (g3 (f0 (sub b a) (sub c a))),Int.tdiv (f0 (sub b a) (sub c a)).y (g3 (f0 (sub b a) (sub c a))),Int.tdiv (f0 (sub b a) (sub c a)).z (g3 (f0 (sub b a) (sub c a)))⟩,
   dot ⟨Int.tdiv (f0 (sub b a) (sub c a)).x (g3 (f0 (sub b a) (sub c a))),Int.tdiv (f0 (sub b a) (sub c a)).y (g3 (f0 (sub b a) (sub c a))),Int.tdiv (f0 (sub b a) (sub c a)).z (g3 (f0 (sub b a) (sub c a)))⟩ a⟩,true)
 else (⟨⟨0,0,0⟩,0⟩,false)
theorem Mb7 (v:V3):0≤g3 v:=by unfold g3;omega
theorem Sc9 (a c d:V3):Aa8 a c d=some (.tup [.agg (tP.row (D7 a c d).1),b (D7 a c d).2],[]):=by
 unfold Aa8 D7
 simp only[Zd8,Hd3]
 cases ha:inV a with
 | false=>rfl
 | true =>
  cases hc:inV c with
  | false=>rfl
  | true =>
   cases hd:inV d with
   | false=>rfl
   | true =>
    obtain⟨e,k1,k2,k3⟩:=ob8 ha hc hd
    rw[e]
    generalize f0 (sub c a) (sub d a)=n at *
    have m1:=k1.mono (m:=1000000000000000000) (by omega)
    have m2:=k2.mono (m:=1000000000000000000) (by omega)
    have m3:=k3.mono (m:=1000000000000000000) (by omega)
    rw[se7 m1 m2 m3,Sc8 m1 m2 m3]
    by_cases h0:g3 n=0
    ·rw[show (g3 n==0)=true from by rw[h0];rfl]
     simp only[Bool.and_self,if_true,h0]
     rfl
    ·have hp:=Mb7 n
     have q1:=ab3 (g:=g3 n) k1 (by omega)
     have q2:=ab3 (g:=g3 n) k2 (by omega)
     have q3:=ab3 (g:=g3 n) k3 (by omega)
     rw[show (g3 n==0)=false from by rw[beq_eq_false_iff_ne];exact h0,Ve6 m1 m2 m3 h0]
     simp only[Bool.and_self,if_true,h0,if_false]
     rw[Hb7 (q1.mono (by omega)),Hb7 (q2.mono (by omega)),Hb7 (q3.mono (by omega))]
     have hdot:da2 ⟨Int.tdiv n.x (g3 n),Int.tdiv n.y (g3 n),Int.tdiv n.z (g3 n)⟩ a=dot ⟨Int.tdiv n.x (g3 n),Int.tdiv n.y (g3 n),Int.tdiv n.z (g3 n)⟩ a:=by
      unfold da2
      simp only[Gb5,nc0]
      obtain⟨⟨a1,a2⟩,⟨a3,a4⟩,a5,a6⟩:=(xb2 a).1 ha
      have r1:=mb q1.1 q1.2 a1 a2;have r2:=mb q2.1 q2.2 a3 a4;have r3:=mb q3.1 q3.2 a5 a6
      rw[ka8 (by omega) (by omega)]
      rfl
     rw[hdot]
     rfl
theorem pc9 (a b c:V3):sa0 a b c=D7 a b c:=by unfold sa0;rw[Sc9];rfl
theorem Mb8 (a b c:V3):sa1 a b c=true:=by unfold sa1;rw[Sc9];rfl
theorem Ge8 (p:Pln) (v:V3):Rd (one r1I) (Fa9 p v) (fun _=>True):=by
 unfold Fa9
 simp only[Hd2,Hd3,q8]
 exact Rd.sl (fun _=>⟨_,_,rfl,rfl,trivial⟩) fun _=>Rd.sl (fun _=>⟨_,_,rfl,rfl,trivial⟩) fun _=>Rd.sl (fun _=>⟨_,_,rfl,rfl,trivial⟩) fun _=>Rd.sl (fun _=>⟨_,_,rfl,rfl,trivial⟩) fun _=>⟨_,_,rfl,rfl,trivial⟩
theorem qc0 (p:Pln) (v:V3):Pa0 p v=true:=(Ge8 p v).g
theorem gf1 (P:oa5) (hl:P.c8.length≤1000000000):∃ t s,lp (A1 P) ⟨0⟩=(t,s)∧(t=1∨t=2∨t=3):=by
 obtain⟨l,x1,x2,x3,x4,x5,x6,x7,x8⟩:=P
 refine F5 (step:=A1 ⟨l,x1,x2,x3,x4,x5,x6,x7,x8⟩) (mk:=fun j (_:Unit)=>(⟨(j:Int)⟩:ba5)) l.length (fun _ _=>True) (fun t _=>t=1∨t=2∨t=3) hl (fun j a hj _=>?_) (fun j a hj _=>?_) 0 () trivial
 ·simp only[A1,V7,qc0,Int.toNat_natCast,o6 hj (show l.length≤4611686018427387904 from Nat.le_trans hl (by omega))]
  rw[btD (i8 hj),bt (f7 hj),q8]
  exact Nx.sl (fun _=>Nx.sl (fun _=>.ex (by simp)) fun _=>.nx ⟨(),rfl,trivial⟩) fun _=>.ex (by simp)
 ·simp only[A1,V7]
  rw[bfD (by omega)]
  exact⟨_,rfl,by simp⟩
theorem gf2 (l:List V3) (hl:l.length≤1000000000) (a c:Nat) (ha:a < l.length) (hc:c < a):∃ t s,lp (N2 ⟨(a:Int),(c:Int)⟩) ⟨l,0⟩=(t,s)∧((t=1∨t=2)∧s.c8=l):=by
 refine F5 (step:=N2 ⟨(a:Int),(c:Int)⟩) (mk:=fun j (_:Unit)=>(⟨l,(j:Int)⟩:ba6)) c (fun _ _=>True) (fun t s=>(t=1∨t=2)∧s.c8=l) (by omega) (fun j x hj _=>?_) (fun j x hj _=>?_) 0 () trivial
 ·simp only[N2,ea5,Mb8,Int.toNat_natCast,j8,j7,o6 hj (show c≤4611686018427387904 by omega)]
  rw[btD (i8 hj),bt (f7 ha),bt (f7 (show c < l.length by omega)),bt (f7 (show j < l.length by omega)),q8]
  generalize hP:oa5.mk _ _ _ _ _ _ _ _ _=P3
  obtain⟨t,s,h1,h2⟩:=gf1 P3 (by subst hP;exact hl)
  rw[h1]
  rcases h2 with rfl | rfl | rfl
  ·exact .ex (by simp)
  ·exact .nx ⟨(),rfl,trivial⟩
  ·exact .nx ⟨(),rfl,trivial⟩
 ·simp only[N2,ea5]
  rw[bfD (by omega)]
  exact⟨_,rfl,by simp⟩
theorem gf3 (l:List V3) (hl:l.length≤1000000000) (a:Nat) (ha:a < l.length):∃ t s,lp (N4 ⟨(a:Int)⟩) ⟨l,0⟩=(t,s)∧((t=1∨t=2)∧s.c8=l):=by
 refine F5 (step:=N4 ⟨(a:Int)⟩) (mk:=fun j (_:Unit)=>(⟨l,(j:Int)⟩:ba7)) a (fun _ _=>True) (fun t s=>(t=1∨t=2)∧s.c8=l) (by omega) (fun j x hj _=>?_) (fun j x hj _=>?_) 0 () trivial
 ·simp only[N4,ea6,j8,j7,o6 hj (show a≤4611686018427387904 by omega)]
  obtain⟨t,s,h1,h2,h3⟩:=gf2 l hl a j ha hj
  rw[btD (i8 hj),h1]
  rcases h2 with rfl | rfl
  ·exact .ex (by simp)
  ·exact .nx ⟨(),by rw[h3],trivial⟩
 ·simp only[N4,ea6]
  rw[bfD (by omega)]
  exact⟨_,rfl,by simp⟩
theorem jb3 (l:List V3) (hl:l.length≤1000000000):Rd (one r1B) (Ga0 l) (fun _=>True):=by
 have key:∃ t s,lp (N5 ⟨⟩) ⟨l,0⟩=(t,s)∧(t=1∨t=2):=by
  refine F5 (step:=N5 ⟨⟩) (mk:=fun j (_:Unit)=>(⟨l,(j:Int)⟩:ba8)) l.length (fun _ _=>True) (fun t s=>(t=1∨t=2)) hl (fun j x hj _=>?_) (fun j x hj _=>?_) 0 () trivial
  ·simp only[N5,ea7,j8,j7,o6 hj (show l.length≤4611686018427387904 by omega)]
   obtain⟨t,s,h1,h2,h3⟩:=gf3 l hl j hj
   rw[btD (i8 hj),h1]
   rcases h2 with rfl | rfl
   ·exact .ex (by simp)
   ·exact .nx ⟨(),by rw[h3],trivial⟩
  ·simp only[N5,ea7]
   rw[bfD (by omega)]
   exact⟨_,rfl,by simp⟩
 obtain⟨t,s,h1,h2⟩:=key
 unfold Ga0
 simp only[j8,j7]
 rw[h1]
 rcases h2 with rfl | rfl<;>exact⟨_,_,rfl,rfl,trivial⟩
theorem Sd5 (l:List V3) (hl:l.length≤1000000000):Pa1 l=true:=(jb3 l hl).g
theorem Sd6 (l:List V3) (hl:l.length≤1000000000):Rd (one r1I) (va2 l) (fun _=>True):=by
 have h:=Wa1 (step:=V8 ⟨l⟩) (mk:=fun j=>(⟨(j:Int)⟩:L2)) (c:=fun v=>!inV v) (u:=1) (fin:=2) tV l hl
  (fun j hj=>by
   simp only[V8,Z7,Int.toNat_natCast,Zd8,Hd3,o6 hj (show l.length≤4611686018427387904 by omega)]
   rw[btD (i8 hj),bt (f7 hj),q8])
  (by simp only[V8,Z7];rw[bfD (i7 (Nat.lt_irrefl _))]) 0 (Nat.zero_le _)
 unfold va2
 simp only[j8,j7,N6,Sd5 l hl]
 rw[show (⟨0⟩:L2)=⟨((0:Nat):Int)⟩ from rfl,h]
 refine Rd.sl (fun _=>⟨_,_,rfl,rfl,trivial⟩) fun _=>?_
 rw[List.drop_zero]
 cases l.any fun v=>!inV v with
 | true=>exact⟨_,_,rfl,rfl,trivial⟩
 | false =>
  show Rd (one r1I) (sl (Ga1 l) (some (i 11,[])) (some (i 0,[]))) (fun _=>True)
  exact Rd.sl (fun _=>⟨_,_,rfl,rfl,trivial⟩) fun _=>⟨_,_,rfl,rfl,trivial⟩
theorem ld3 (l:List V3) (hl:l.length≤1000000000):Fb9 l=true:=(Sd6 l hl).g
theorem te6 (p:Pln) (l:List V3) (hl:l.length≤1000000000):Rd (one r1B) (va3 p l) (fun _=>True):=by
 have h:=Wa1 (step:=V9 ⟨l,p.n.x,p.n.y,p.n.z,p.b⟩) (mk:=fun j=>(⟨(j:Int)⟩:L3)) (c:=fun v=>decide (va1 p v > 0)) (u:=1) (fin:=2) tV l hl
  (fun j hj=>by
   simp only[V9,Z8,Int.toNat_natCast,qc0,o6 hj (show l.length≤4611686018427387904 by omega)]
   rw[btD (i8 hj),bt (f7 hj),q8])
  (by simp only[V9,Z8];rw[bfD (i7 (Nat.lt_irrefl _))]) 0 (Nat.zero_le _)
 unfold va3
 simp only[j8,j7]
 rw[show (⟨0⟩:L3)=⟨((0:Nat):Int)⟩ from rfl,h]
 split<;>exact⟨_,_,rfl,rfl,trivial⟩
theorem Ge9 (p:Pln) (l:List V3) (hl:l.length≤1000000000):ia3 p l=true:=(te6 p l hl).g
theorem We0 (p q:Pln):Rd (one r1I) (ka1 p q) (fun _=>True):=by
 have key:∃ t s,lp (D5 ⟨p.n.x,p.n.y,p.n.z,p.b,q.n.x,q.n.y,q.n.z,q.b⟩) ⟨0⟩=(t,s)∧(t=1∨t=2∨t=3):=by
  refine F5 (step:=D5 ⟨p.n.x,p.n.y,p.n.z,p.b,q.n.x,q.n.y,q.n.z,q.b⟩) (mk:=fun j (_:Unit)=>(⟨(j:Int)⟩:M0)) 4 (fun _ _=>True) (fun t s=>(t=1∨t=2∨t=3)) (by omega) (fun j x hj _=>?_) (fun j x hj _=>?_) 0 () trivial
  ·have hn:=o6 hj (show 4≤4611686018427387904 by omega)
   simp only[D5,N8,Int.toNat_natCast,hn]
   have hlt:(j:Int) < 4:=by omega
   have hin:=f7 hj
   have g:∀ x1 x2 x3 x4:Int,((Nat.ble ((0+(j*1))+1) 4)&&(K6 [(CK.int .i64)] (d9 [(i x1),(i x2),(i x3),(i x4)] (0+(j*1)))))=true:=by
    intro x1 x2 x3 x4
    match j,hj with
    | 0,_=>rfl
    | 1,_=>rfl
    | 2,_=>rfl
    | 3,_=>rfl
   rw[btD hlt]
   simp only[hin,g,q8]
   exact Nx.sl (fun _=>.ex (by simp)) fun _=>Nx.sl (fun _=>.ex (by simp)) fun _=>.nx ⟨(),rfl,trivial⟩
  ·simp only[D5,N8]
   rw[bfD (by omega)]
   exact⟨_,rfl,by simp⟩
 obtain⟨t,s,h1,h2⟩:=key
 unfold ka1
 simp only
 rw[h1]
 rcases h2 with rfl | rfl | rfl<;>exact⟨_,_,rfl,rfl,trivial⟩
theorem te7 (p q:Pln):nb0 p q=true:=(We0 p q).g
theorem Tc0 (l:List Pln) (n:Nat) (h:n≤l.length):r6 (fun k=>(fun k=>tP.row (gL tP l k)) (0+k)) (List.range (n - 0))=bL tP (l.take n):=by
 rw[← Db7,o1,o1,List.length_take,Nat.min_eq_left h,Nat.sub_zero]
 apply List.map_congr_left
 intro k hk
 rw[List.mem_range] at hk
 show tP.row (gL tP l (0+k))=tP.row (gL tP (l.take n) k)
 congr 1
 simp[gL,List.getD_eq_getElem?_getD,List.getElem?_take,hk]
theorem Tc1 (l:List Pln) (n:Nat):r6 (fun k=>(fun k=>tP.row (gL tP l k)) (n+k)) (List.range (l.length - n))=bL tP (l.drop n):=by
 rw[← Db7,o1,o1,List.length_drop]
 apply List.map_congr_left
 intro k hk
 show tP.row (gL tP l (n+k))=tP.row (gL tP (l.drop n) k)
 rw[Hc2]
theorem Hd4 (l:List Pln) (x1 x2 x3 x4:Int):app (bL tP l) [[i x1,i x2,i x3,i x4]]=bL tP (l++[⟨⟨x1,x2,x3⟩,x4⟩]):=Fa5 tP l [⟨⟨x1,x2,x3⟩,x4⟩]
def Ab0 (x:List Pln) (y:Pln) (n:Nat):List Pln:=x.take n++(y::x.drop n)
theorem te8 {l:List Pln} {n:Nat} {r:List (List b7)} {P:List Pln→Prop} (hn:n=l.length) (hr:r=bL tP l) (h:P l):Rd (one (r1L tP)) (some (.sl 0 0 n 0,[⟨73,4,r,true,false,0⟩])) P:=by
 subst hn hr
 exact⟨_,l,rfl,Ve8 l,h⟩
theorem We1 (x:List Pln) (y:Pln) (hx:x.length≤1000000):Rd (one (r1L tP)) (Pa2 x y) (fun r=>r≠[]∧r.length≤x.length+1∧∀ p∈r,p=y∨p∈x):=by
 have h:=Ka6 (step:=U5 ⟨x,y.n.x,y.n.y,y.n.z,y.b⟩) (mk:=fun j=>(⟨(j:Int)⟩:W0)) (c:=fun p=>!decide (ka2 p y < 0)) (u:=1) (fin:=2) tP x (by omega)
  (fun j hj=>by
   simp only[U5,ka3,Int.toNat_natCast,te7,o6 hj (show x.length≤4611686018427387904 by omega)]
   rw[btD (i8 hj),bt (f7 hj),q8]
   cases decide (ka2 (gL tP x j) y < 0)<;>rfl)
  (by simp only[U5,ka3];rw[bfD (i7 (Nat.lt_irrefl _))]) 0 (Nat.zero_le _)
 rw[List.drop_zero] at h
 have key:∃ t n,lp (U5 ⟨x,y.n.x,y.n.y,y.n.z,y.b⟩) ⟨0⟩=(t,⟨((n:Nat):Int)⟩)∧(t=1∨t=2)∧n≤x.length:=by
  rw[show (⟨0⟩:W0)=⟨((0:Nat):Int)⟩ from rfl,h]
  split
  ·exact⟨1,_,rfl,.inl rfl,by rw[Nat.zero_add];exact List.findIdx_le_length⟩
  ·exact⟨2,_,rfl,.inr rfl,Nat.le_refl _⟩
 obtain⟨t,n,h1,h2,h3⟩:=key
 have hlo:inB (n:Int) (x.length+1)=true:=f7 (by omega)
 have hd:(bL tP (x.take n)).length=n:=by rw[← l0,ga2,List.length_take];omega
 have hmem:∀ p∈Ab0 x y n,p=y∨p∈x:=fun p hp=>by
  unfold Ab0 at hp
  rcases List.mem_append.1 hp with hp | hp
  ·exact .inr (List.mem_of_mem_take hp)
  ·rcases List.mem_cons.1 hp with hp | hp
   ·exact .inl hp
   ·exact .inr (List.mem_of_mem_drop hp)
 have hne:Ab0 x y n≠[]:=by unfold Ab0;simp
 have hlen:(Ab0 x y n).length=x.length+1:=by unfold Ab0;simp only[List.length_append,List.length_cons,List.length_take,List.length_drop];omega
 have lt:len (bL tP (x.take n))=n:=by rw[l0];exact hd
 have ld:len (bL tP (x.drop n))=x.length - n:=by rw[ga2,List.length_drop]
 have b1:(Nat.beq 1 1&&Nat.ble ((1+(x.length - n))*32) room)=true:=by rw[ab1 (by omega)];rfl
 have b2:(Nat.beq 0 0&&Nat.ble ((0+n)*32) room)=true:=by rw[ab1 (by omega)];rfl
 have e0:app [] (bL tP (x.take n))=bL tP (x.take n):=rfl
 have b3:(Nat.beq (0+n) n&&Nat.ble (((0+n)+1)*32) room)=true:=by rw[ab1 (by omega),Nat.zero_add,Nat.beq_refl];rfl
 have l3:len (bL tP (x.take n++[y]))=n+1:=by rw[ga2,List.length_append,List.length_take];simp only[List.length_singleton];omega
 have b4:(Nat.beq ((0+n)+1) (n+1)&&Nat.ble ((((0+n)+1)+(x.length - n))*32) room)=true:=by rw[ab1 (by omega),Nat.zero_add,Nat.beq_refl];rfl
 have z0:∀ {k:Nat},Nat.beq k 0=true→k=0:=fun {k} h=>Nat.eq_of_beq_eq_true h
 have fin:∀ m r,m=x.length+1→r=bL tP (Ab0 x y n)→Rd (one (r1L tP)) (some (.sl 0 0 m 0,[⟨73,4,r,true,false,0⟩])) (fun r=>r≠[]∧r.length≤x.length+1∧∀ p∈r,p=y∨p∈x) :=
  fun m r hm hr=>te8 (by rw[hlen];exact hm) hr ⟨hne,by omega,hmem⟩
 have tail : Rd (one (r1L tP)) (sl (Nat.beq n 0) (sl (Nat.beq (x.length - n) 0) (some ((.sl 0 0 1 0), [⟨73, 4, [[(i y.n.x), (i y.n.y), (i y.n.z), (i y.b)]], true, false, 0⟩]))
   (some ((.sl 0 0 (1+(x.length - n)) 0),[⟨73,4,(app [[(i y.n.x),(i y.n.y),(i y.n.z),(i y.b)]] (bL tP (x.drop n))),true,false,0⟩])))
   (sl (Nat.beq (x.length - n) 0) (some ((.sl 0 0 ((0+n)+1) 0),[⟨73,4,bL tP (x.take n++[y]),true,false,0⟩]))
    (some ((.sl 0 0 (((0+n)+1)+(x.length - n)) 0),[⟨73,4,(app (bL tP (x.take n++[y])) (bL tP (x.drop n))),true,false,0⟩])))) (fun r=>r≠[]∧r.length≤x.length+1∧∀ p∈r,p=y∨p∈x):=by
  refine Rd.sl (fun q1=>Rd.sl (fun q2=>?_) (fun q2=>?_)) (fun q1=>Rd.sl (fun q2=>?_) (fun q2=>?_))
  ·have:=z0 q1;have:=z0 q2
   refine fin _ _ (by omega) ?_
   have:x=[]:=List.eq_nil_of_length_eq_zero (by omega)
   subst this
   rw[show n=0 by omega];rfl
  ·have:=z0 q1;subst this
   exact fin _ _ (by omega) rfl
  ·have:=z0 q2
   refine fin _ _ (by omega) ?_
   unfold Ab0
   rw[show x.drop n=[] from List.drop_eq_nil_of_le (by omega)]
  ·refine fin _ _ (by omega) ?_
   rw[Fa5]
   unfold Ab0
   rw[List.append_assoc];rfl
 have same:∀ p:Pln,(p.n.x==y.n.x&&(p.n.y==y.n.y&&(p.n.z==y.n.z&&(p.b==y.b&&true))))=true→n < x.length→Rd (one (r1L tP)) (some (eL tP x,[])) (fun r=>r≠[]∧r.length≤x.length+1∧∀ p∈r,p=y∨p∈x):=fun p _ hn =>
  ⟨_,x,rfl,Zd6 tP x,List.ne_nil_of_length_pos (by omega),Nat.le_succ _,fun p hp=>Or.inr hp⟩
 unfold Pa2
 simp only[j8,j7]
 rw[h1]
 simp only[Int.toNat_natCast,Tc0 x n h3,Tc1,lt,ld,b1,b2,e0,b3,Hd4,l3,b4,hlo,q8]
 have main : Rd (one (r1L tP)) (sl (decide ((n : Int) < (x.length : Int))) (sl (inB (n : Int) x.length) (sl (((gL tP x n).n.x == y.n.x) && (((gL tP x n).n.y == y.n.y) && (((gL tP x n).n.z == y.n.z) && (((gL tP x n).b == y.b) && true)))) (some (eL tP x, []))
   (sl (Nat.beq n 0) (sl (Nat.beq (x.length - n) 0) (some ((.sl 0 0 1 0),[⟨73,4,[[(i y.n.x),(i y.n.y),(i y.n.z),(i y.b)]],true,false,0⟩]))
   (some ((.sl 0 0 (1+(x.length - n)) 0),[⟨73,4,(app [[(i y.n.x),(i y.n.y),(i y.n.z),(i y.b)]] (bL tP (x.drop n))),true,false,0⟩])))
   (sl (Nat.beq (x.length - n) 0) (some ((.sl 0 0 ((0+n)+1) 0),[⟨73,4,bL tP (x.take n++[y]),true,false,0⟩]))
    (some ((.sl 0 0 (((0+n)+1)+(x.length - n)) 0),[⟨73,4,(app (bL tP (x.take n++[y])) (bL tP (x.drop n))),true,false,0⟩]))))) none)
   (sl (Nat.beq n 0) (sl (Nat.beq (x.length - n) 0) (some ((.sl 0 0 1 0),[⟨73,4,[[(i y.n.x),(i y.n.y),(i y.n.z),(i y.b)]],true,false,0⟩]))
   (some ((.sl 0 0 (1+(x.length - n)) 0),[⟨73,4,(app [[(i y.n.x),(i y.n.y),(i y.n.z),(i y.b)]] (bL tP (x.drop n))),true,false,0⟩])))
   (sl (Nat.beq (x.length - n) 0) (some ((.sl 0 0 ((0+n)+1) 0),[⟨73,4,bL tP (x.take n++[y]),true,false,0⟩]))
    (some ((.sl 0 0 (((0+n)+1)+(x.length - n)) 0),[⟨73,4,(app (bL tP (x.take n++[y])) (bL tP (x.drop n))),true,false,0⟩]))))) (fun r=>r≠[]∧r.length≤x.length+1∧∀ p∈r,p=y∨p∈x):=by
  by_cases hn:n < x.length
  ·rw[btD (i8 hn),bt (f7 hn)]
   exact Rd.sl (fun q=>same _ q hn) fun _=>tail
  ·rw[bfD (i7 hn)]
   exact tail
 rcases h2 with rfl | rfl
 ·exact main
 ·exact main
end Go.Ev.Ce
