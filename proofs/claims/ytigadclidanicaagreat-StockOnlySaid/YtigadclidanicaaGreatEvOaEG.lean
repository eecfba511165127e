/- Own work. -/
import Derived.Test.YtigadclidanicaaGreatEvOaD5
set_option linter.all false
noncomputable section
def Qia:=@List.length_append
def Qib:=@List.drop_zero
def Qic:=@Nat.zero_add
def Qid:=@List.drop_eq_getElem_cons
def Qie:=@List.getD_eq_getElem?_getD
def Qif:=@List.length_take
def Qig:=@Nat.lt_irrefl
def Qih:=@Nat.zero_le
def Qii:=@List.mem_cons_of_mem
def Qij:=@List.length_drop
def Qik:=@List.getElem_mem
def Qil:=@Nat.le_refl
def Qim:=@Bool.and_eq_true
def Qin:=@List.not_all_eq_any_not
def Qio:=@List.getElem?_eq_getElem
def Qip:=@List.take_succ_eq_append_getElem
def Qiq:=@Bool.and_true
def Qir:=@List.drop_eq_nil_of_le
def Qis:=@List.take_append_of_le_length
def Qit:=@Eq.trans
def Qiu:=@Nat.gcd_pos_of_pos_right
def Qiv:=@List.append_assoc
def Qiw:=@List.findIdx_lt_length_of_exists
def Qix:=@List.filter_cons
def Qiy:=@List.length_replicate
def Qiz:=@Nat.beq_refl
def Qiaa:=@List.mem_append
def Qiab:=@List.length_set
def Qiac:=@List.append_nil
def Qiad:=@List.eq_nil_of_length_eq_zero
def Qiae:=@Bool.not_false
def Qiaf:=@Bool.false_eq_true
def Qiag:=@List.mem_cons_self
def Qiah:=@List.filter_append
def Qiai:=@Nat.gcd_zero_left
def Qiaj:=@Bool.not_eq_true'
def Qiak:=@Int.ofNat_lt
def Qial:=@Nat.gcd_le_right
def Qiam:=@List.not_mem_nil
def Qian:=@Bool.not_eq_true
def Qiao:=@List.any_eq_true
def Qiap:=@List.all_eq_true
def Qiaq:=@List.take_of_length_le
def Qiar:=@List.drop_drop
def Qias:=@List.getElem_set_self
def Qiat:=@Nat.blt_eq
def Qiau:=@Nat.ble_eq
def Qiav:=@List.mem_cons
namespace Go.Ev.Ce
open Go Go.Ev Go.Ev.L Go.Proofs
set_option maxRecDepth 100000
def hd8:List (Nat×Sum):=[]
theorem Zd8:i9 prog G hd8:=trivial
structure kb6 where
 (g7 ba9:PLq)
structure sa1 where
 is5:Int
def Fc8(p:kb6)(s:sa1):St:=⟨eL tP p.g7::eL tP p.ba9::ra 3 (i s.is5::ra 20 []),[]⟩
def Ra9{α:Type}(k:sa1->α)(e:Nat->α)(z:α)(p:kb6)(s:sa1):α:=let y1:=(gL tP p.ba9 s.is5.toNat);let y0:=(gL tP p.g7 s.is5.toNat);(sl (decide (s.is5<(↑(List.length p.g7):Int))) (sl (inB s.is5 (List.length p.g7)) (sl (inB s.is5 (List.length p.ba9)) (sl (!((y0.n.x==y1.n.x)&&((y0.n.y==y1.n.y)&&((y0.n.z==y1.n.z)&&((y0.b==y1.b)&&true))))) (e 1) (k ⟨W (s.is5+1)⟩)) z) z) (e 2))
def ab8(p:kb6)(s:sa1):Stp sa1:=Ra9 .next .exit .fail p s
def ec1:Lo kb6 sa1:=⟨En hd8,0,Xf8,[1,1,0,1,4,4],[0,1,5],.p,[⟨sLq tP::sLq tP::ru2 3 (sIq::ru2 20 []),[],λa H=>(⟨aLq tP a 0,aLq tP a 1⟩,⟨aIq a 5⟩)⟩],ab8,[(none,λp s=>⟨[b false],[]⟩),(some 0,λp s=>upq (Fc8 p s) [(11,i s.is5),(12,eL tP p.g7),(13,i (↑(List.length p.g7):Int)),(14,b (decide (s.is5<(↑(List.length p.g7):Int))))])],Fc8⟩
theorem Id1:ec1.Ok:=Lo.ok [] (by kernel_rfl) .nil rfl (.cons (λa H=>by kernel_rfl) .nil) λp s=>(.of @Ra9 (λF _ _ _ _ _=>by unfold Ra9;(repeat' apply j6 (f:=F))<;>rfl) (by kernel_rfl))
def Jb6(x:PLq)(y:PLq):ROq:=let t1:=(lp (ab8 (⟨rt tP x,rt tP y⟩:kb6)) (⟨0⟩:sa1));(sl ((↑(List.length x):Int) != (↑(List.length y):Int)) (some (b false,[])) (sl ((cnE tP x)&&((cnE tP y)&&true)) (sl (Nat.beq t1.1 1) (some (b false,[])) (sl (Nat.beq t1.1 2) (some (b true,[])) none)) none))
def ec2(x:PLq)(y:PLq):Bool:=ba8 (one r1B) (Jb6 x y)
def ec3(x:PLq)(y:PLq):Bool:=okO (one r1B) (Jb6 x y)
def zd4:Sum:=Aa5 (ta2 tP) (ta2 tP) (λx y=>.guard (ec3 x y) (.ret ((one r1B).enc (ec2 x y),[])))
theorem oe4:g9 prog G 59 zd4:=Sb2 (bd b59 Zd8) (one r1B) (o:=Jb6) λx y=>Ia8 (.s .p (.s .p (.s (.s .p (.b (.u ec1.ls))) .p))) [ec1.pr] (by kernel_rfl) (.cons Id1 .nil) (by kernel_rfl)
structure If5 where
 is6:Int
structure If6 where
 ns5:Nat
 eh0:List (List c7)
def lc8:List (Nat×Sum):=[]
theorem ec4:i9 prog G lc8:=trivial
structure ya8 where
 (alt ns0:Nat)
 eh0:List (List c7)
def aa4{α:Type}(kk:ya8->α)(x:Pln×PLq):α:=let y0:=(List.range (List.length x.2+1));(sl (Nat.beq 0 0&&Nat.ble ((0+(len (o7 (λk=>(tP).row (gL tP (x.1::x.2) k)) y0)))*32) room) (kk ⟨1,(0+(len (o7 (λk=>(tP).row (gL tP (x.1::x.2) k)) y0))),(app [] (o7 (λk=>(tP).row (gL tP (x.1::x.2) k)) y0))⟩) (kk ⟨0,0,[]⟩))
def ya9(x:Pln×PLq):ya8:=aa4 (λr=>r) x
def Na4(r:ya8):DT (c7×List c8):=(.ite (Nat.beq r.alt 1) (.ret (.sl 0 0 r.ns0 0,[⟨66,4,r.eh0,true,false,0⟩])) .fail)
theorem sc6{α β:Type}(F:α->β)(kk:ya8->α)(x:Pln×PLq):F (aa4 kk x)=aa4 (λr=>F (kk r)) x:=by unfold aa4;(repeat' apply j6 (f:=F))<;>rfl
def vb2:Sum:=ga4 (bf6 tP) (λx=>Na4 (ya9 x))
theorem lc9:g9 prog G 75 vb2:=ib1 (bd b75 ec4) λx=>B7 (Qit (b:=aa4 (λr=>(Na4 r).run) x) (by kernel_rfl) (sc6 (λr=>(Na4 r).run) (λr=>r) x).symm)
def Zd9:List (Nat×Sum):=[(39,Ra5),(106,sb3),(75,vb2),(107,wa3),(109,Ea5),(111,Ha1)]
theorem Id2:i9 prog G Zd9:=⟨Va6,Jb1,lc9,Ra8,ab7,fb0,trivial⟩
def vb3(x:Pln×PLq):ROq:=let y0:=(rt tP (x.1::x.2));let t1:=(ya5 y0);let t2:=(Ma2 y0);let t3:=(ya9 (hC tP (λk=>(tP).row (gL tP (x.1::x.2) k)),tC tP (List.length x.2) (λk=>(tP).row (gL tP (x.1::x.2) k))));let t4:=(N2 ⟨t3.ns0,t3.eh0,rt tX t2⟩);let t5:=(da5 ⟨t4.ns0,app (bL tP (fb1 (slR tP t4.eh0 0 t4.ns0))) (j7 t4.eh0 t4.ns0)⟩);(sl (okE tP (x.1::x.2)) (sl (ya6 y0) (sl (!t1) (some (.v (.slice none 0 0),[])) (sl (okE tP (x.1::x.2)) (sl (Ma3 y0) (sl (okL tP (List.length x.2+1) (λk=>(tP).row (gL tP (x.1::x.2) k))) (sl (Nat.beq t3.alt 1) (sl ((cnE tX t2)&&true) (sl (Nat.beq t4.alt 1) (sl (Bool.and (Nat.ble t4.ns0 room) (Bool.and (Nat.ble t4.ns0 (len t4.eh0)) (okS tP t4.eh0 0 t4.ns0))) (sl (Nat.beq t5.alt 1) (some (.sl 0 0 t5.ns0 0,[⟨66,4,t5.eh0,true,false,0⟩])) none) none) none) none) none) none) none) none)) none) none)
def hd9(x:Pln×PLq):PLq:=ba8 (one (r1L tP)) (vb3 x)
def id3(x:Pln×PLq):Bool:=okO (one (r1L tP)) (vb3 x)
def oe5:Sum:=ga4 (bf6 tP) (λx=>.guard (id3 x) (.ret ((one (r1L tP)).enc (hd9 x),[])))
theorem ae0:g9 prog G 87 oe5:=db8 (bd b87 Id2) (one (r1L tP)) (o:=vb3) λx=>B7 (by kernel_rfl)
structure If7 where
 g7:PLq
 (B0 l6 B1 s7:Int)
structure If8 where
 is5:Int
def ae1:List (Nat×Sum):=[]
theorem Id3:i9 prog G ae1:=trivial
def sc7(x:V3)(y:V3):V3:=(⟨W (x.x-y.x),W (x.y-y.y),W (x.z-y.z)⟩:V3)
def id4:Sum:=Aa5 (Da1 tV) (Da1 tV) (λx y=>.ret ((one r1V).enc (sc7 x y),[]))
theorem ae2:g9 prog G 154 id4:=Oa1 (bd ng0 Id3) λx y=>B7 (by kernel_rfl)
def Id4:List (Nat×Sum):=[(154,id4)]
theorem zd5:i9 prog G Id4:=⟨ae2,trivial⟩
def kb7(x:Pln):Pln:=let t1:=(sc7 (⟨0,0,0⟩:V3) x.n);(⟨t1,W (0-x.b)⟩:Pln)
def Sc0:Sum:=ga4 (Da1 tP) (λx=>.ret ((one r1P).enc (kb7 x),[]))
theorem Id5:g9 prog G 134 Sc0:=ib1 (bd lg9 zd5) λx=>B7 (by kernel_rfl)
end Go.Ev.Ce
namespace Go.Ev.L
open Go Go.Ev
theorem gf7(n:Int):W n=(n+9223372036854775808) % 18446744073709551616-9223372036854775808:=IntKind.wrap_i64 n
theorem Ka7{n:Int}(h1:-9223372036854775808<=n)(h2:n<=9223372036854775807):W n=n:=by rw[gf7];omega
theorem Je0(n:Int):∃k,W n=n+18446744073709551616*k:=⟨-((n+9223372036854775808) / 18446744073709551616),by rw[gf7];omega⟩
theorem Ac5(n k:Int):W (n+18446744073709551616*k)=W n:=by rw[gf7,gf7];omega
theorem sc8(a b:Int):W (W a+b)=W (a+b):=by
 obtain⟨k,hk⟩:=Je0 a;rw[hk,show a+18446744073709551616*k+b=a+b+18446744073709551616*k by omega,Ac5]
theorem ad7(a b:Int):W (a+W b)=W (a+b):=by rw[Int.add_comm,sc8,Int.add_comm]
theorem zd6(a b:Int):W (W a-b)=W (a-b):=by
 obtain⟨k,hk⟩:=Je0 a;rw[hk,show a+18446744073709551616*k-b=a-b+18446744073709551616*k by omega,Ac5]
theorem ae3(a b:Int):W (a-W b)=W (a-b):=by
 obtain⟨k,hk⟩:=Je0 b;rw[hk,show a-(b+18446744073709551616*k)=a-b+18446744073709551616*(-k) by omega,Ac5]
theorem Ce8(a b:Int):W (W a*b)=W (a*b):=by
 obtain⟨k,hk⟩:=Je0 a;rw[hk,show (a+18446744073709551616*k)*b=a*b+18446744073709551616*(k*b) by grind,Ac5]
theorem gf8(a b:Int):W (a*W b)=W (a*b):=by rw[Int.mul_comm,Ce8,Int.mul_comm]
theorem u7{j n:Nat}(h:j<n)(hn:n<=4611686018427387904):W ((j:Int)+1)=((j+1:Nat):Int):=by
 rw[Ka7 (by omega) (by omega)];omega
theorem sc9{j n:Nat}(h:j<n):decide ((j:Int)<(n:Int))=true:=decide_eq_true (by omega)
theorem ec5{j n:Nat}(h:¬ j<n):decide ((j:Int)<(n:Int))=false:=decide_eq_false (by omega)
theorem g8{j n:Nat}(h:j<n):inB (j:Int) n=true:=by
 show Nat.blt j n=true;rw[Qiat];exact h
theorem yf2(m:Int)(n:Nat):inB m n=decide (0<=m/\m<n):=by
 unfold inB;cases m with
 |ofNat k =>
  rw[Bool.eq_iff_iff,decide_eq_true_eq];show Nat.blt k n=true↔_;rw[Qiat];constructor
  ·intro h;exact⟨Int.natCast_nonneg k,Qiak.2 h⟩
  ·intro h;exact Qiak.1 h.2
 |negSucc k=>exact (decide_eq_false (λh=>by omega)).symm
theorem bt{c:Bool}(h:c=true){α:Type}(t e:α):sl c t e=t:=by rw[h];rfl
theorem bf{c:Bool}(h:c=false){α:Type}(t e:α):sl c t e=e:=by rw[h];rfl
theorem ec6{n:Nat}(h:n<=1000000000000):Nat.ble (n*32) room=true:=by
 rw[Qiau];unfold room;omega
theorem gf9{σ:Type}{step:σ->Stp σ}{I:Nat->σ->Prop}{Q:Nat->σ->Prop}(h:∀m s,I m s->(∃t,step s=.exit t/\Q t s)\/∃s' m',m=m'+1/\step s=.next s'/\I m' s') :
  ∀(m n:Nat) (s:σ),m<=n->I m s->Q (lp0 step n s).1 (lp0 step n s).2
 |m,n,s,hn,hi=>by
  rcases h m s hi with⟨t,h1,h2⟩|⟨s',m',rfl,h1,h2⟩
  ·rw[ud3 h1];exact h2
  ·cases n with
   |zero=>omega
   |succ n =>
    rw[je4 h1];exact gf9 h m' n s' (by omega) h2
theorem tc0{σ:Type}{step:σ->Stp σ}{I:Nat->σ->Prop}{Q:Nat->σ->Prop}(h:∀m s,I m s->(∃t,step s=.exit t/\Q t s)\/∃s' m',m=m'+1/\step s=.next s'/\I m' s')
  (m:Nat) (s:σ) (hm:m<=18446744073709551615) (hi:I m s):Q (lp step s).1 (lp step s).2:=by
 rw[bf1];exact gf9 h m rounds s (by unfold rounds;omega) hi
section
variable{σ τ α:Type}{step:σ->Stp σ}
theorem qd1{mk:Nat->τ->σ}{f:τ->α->τ}{fin:Nat}(t:Ty α)(l:List α)(I:Nat->τ->Prop)(hl:l.length<=1000000000)
  (h:∀j a,j<l.length->I j a->step (mk j a)=.next (mk (j+1) (f a (gL t l j)))/\I (j+1) (f a (gL t l j)))
  (hf:∀a,I l.length a->step (mk l.length a)=.exit fin) (j0:Nat) (hj:j0<=l.length) (a:τ) (hi:I j0 a) :
  lp step (mk j0 a)=(fin,mk l.length ((l.drop j0).foldl f a))/\I l.length ((l.drop j0).foldl f a):=by
 have key:=tc0 (step:=step) (I:=λm s=>∃j b,m=l.length-j/\j<=l.length/\s=mk j b/\I j b/\(l.drop j).foldl f b=(l.drop j0).foldl f a)
  (Q:=λu s=>u=fin/\s=mk l.length ((l.drop j0).foldl f a)/\I l.length ((l.drop j0).foldl f a)) (λm s ⟨j,b,hm,hj,hs,hb,he⟩=>by
   subst hs;by_cases hlt:j<l.length
   ·obtain⟨h1,h2⟩:=h j b hlt hb;refine .inr ⟨_,l.length-(j+1),by omega,h1,j+1,_,rfl,by omega,rfl,h2,?_⟩
    rw[<- he,Qid hlt,List.foldl_cons];simp[gL,Qie,Qio hlt]
   ·have:j=l.length:=by omega
    subst this;have he:b=(l.drop j0).foldl f a:=by rw[<- he];simp
    subst he;exact .inl ⟨fin,hf _ hb,rfl,rfl,hb⟩) (l.length-j0) (mk j0 a) (by omega) ⟨j0,a,rfl,hj,rfl,hi,rfl⟩
 exact⟨by rw[<- key.2.1,<- key.1],key.2.2⟩
theorem Jc9{mk:Nat->σ}{c:α->Bool}{u fin:Nat}(t:Ty α)(l:List α)(hl:l.length<=1000000000)
  (h:∀j,j<l.length->step (mk j)=sl (c (gL t l j)) (.exit u) (.next (mk (j+1)))) (hf:step (mk l.length)=.exit fin) (j0:Nat) (hj:j0<=l.length) :
  (lp step (mk j0)).1=if (l.drop j0).any c then u else fin :=
 tc0 (step:=step) (I:=λm s=>∃j,m=l.length-j/\j<=l.length/\s=mk j/\(l.drop j).any c=(l.drop j0).any c)
  (Q:=λv _=>v=if (l.drop j0).any c then u else fin) (λm s ⟨j,hm,hj,hs,he⟩=>by
   subst hs;by_cases hlt:j<l.length
   ·have h1:=h j hlt;have e:gL t l j=l[j]:=by simp[gL,Qie,Qio hlt]
    have e2:(l.drop j).any c=(c l[j]||(l.drop (j+1)).any c):=by rw[Qid hlt,List.any_cons]
    rw[e] at h1;cases hc:c l[j] with
    |true =>
     rw[hc] at h1;refine .inl ⟨u,h1,?_⟩;rw[<- he,e2,hc];rfl
    |false =>
     rw[hc] at h1;refine .inr ⟨_,l.length-(j+1),by omega,h1,j+1,rfl,by omega,rfl,?_⟩
     rw[<- he,e2,hc];rfl
   ·have:j=l.length:=by omega
    subst this;refine .inl ⟨fin,hf,?_⟩;rw[<- he];simp) (l.length-j0) (mk j0) (by omega) ⟨j0,rfl,hj,rfl,rfl⟩
theorem sb5{mk:Nat->σ}{c:α->Bool}{u fin:Nat}(t:Ty α)(l:List α)(hl:l.length<=1000000000)
  (h:∀j,j<l.length->step (mk j)=sl (c (gL t l j)) (.exit u) (.next (mk (j+1)))) (hf:step (mk l.length)=.exit fin) (j0:Nat) (hj:j0<=l.length) :
  lp step (mk j0)=if (l.drop j0).any c then (u,mk (j0+(l.drop j0).findIdx c)) else (fin,mk l.length):=by
 have key:=tc0 (step:=step) (I:=λm s=>∃j,m=l.length-j/\j<=l.length/\j0<=j/\s=mk j/\(l.drop j).any c=(l.drop j0).any c/\j+(l.drop j).findIdx c=j0+(l.drop j0).findIdx c)
  (Q:=λv s=>(v,s)=if (l.drop j0).any c then (u,mk (j0+(l.drop j0).findIdx c)) else (fin,mk l.length)) (λm s ⟨j,hm,hj,hj0,hs,he,hi⟩=>by
   subst hs;by_cases hlt:j<l.length
   ·have h1:=h j hlt;have e:gL t l j=l[j]:=by simp[gL,Qie,Qio hlt]
    have e2:(l.drop j).any c=(c l[j]||(l.drop (j+1)).any c):=by rw[Qid hlt,List.any_cons]
    have e3:(l.drop j).findIdx c=if c l[j] then 0 else (l.drop (j+1)).findIdx c+1:=by rw[Qid hlt,List.findIdx_cons];cases c l[j]<;>rfl
    rw[e] at h1;cases hc:c l[j] with
    |true =>
     rw[hc] at h1;refine .inl ⟨u,h1,?_⟩;rw[<- he,e2,hc,<- hi,e3,hc];rfl
    |false =>
     rw[hc] at h1;refine .inr ⟨_,l.length-(j+1),by omega,h1,j+1,rfl,by omega,by omega,rfl,?_,?_⟩
     ·rw[<- he,e2,hc];rfl
     ·rw[<- hi,e3,hc];simp only[Qiaf,if_false];omega
   ·have:j=l.length:=by omega
    subst this;refine .inl ⟨fin,hf,?_⟩;rw[<- he];simp) (l.length-j0) (mk j0) (by omega) ⟨j0,rfl,hj,Qil _,rfl,rfl,rfl⟩
 exact key
end
theorem N7{α:Type}(t:Ty α){l:List α}{j:Nat}(h:j<l.length):gL t l j∈l:=by
 simp[gL,Qie,Qio h]
theorem Ya0{α:Type}(t:Ty α){l:List α}{j:Nat}(h:j<l.length):gL t l j=l[j]:=by
 simp[gL,Qie,Qio h]
def euF:Nat->Int->Int->Int
 |0,g,_=>g
 |k+1,g,n=>if n=0 then g else euF k n (Int.tmod g n)
def eu(g n:Int):Int:=euF (n.natAbs+1) g n
theorem ob3{g n:Int}(h:n≠0):(Int.tmod g n).natAbs<n.natAbs:=by
 rw[Int.natAbs_tmod];exact Nat.mod_lt _ (by omega)
theorem oe6:∀(k m:Nat) {g n:Int},n.natAbs<k->n.natAbs<m->euF k g n=euF m g n
 |0,_,_,_,h,_=>by omega
 |_+1,0,_,_,_,h=>by omega
 |k+1,m+1,g,n,h1,h2=>by
  unfold euF;by_cases h:n=0
  ·rw[if_pos h,if_pos h]
  ·rw[if_neg h,if_neg h]
   have:=ob3 (g:=g) h
   exact oe6 k m (by omega) (by omega)
theorem Ac6(g:Int):eu g 0=g:=by simp[eu,euF]
theorem qd2{g n:Int}(h:n≠0):eu g n=eu n (Int.tmod g n):=by
 have:=ob3 (g:=g) h
 unfold eu
 conv=>lhs;unfold euF
 rw[if_neg h];exact oe6 _ _ (by omega) (by omega)
theorem Pf3:∀(k:Nat) (g n:Int),n.natAbs<=k->(eu g n).natAbs=Int.gcd g n:=by
 intro k
 induction k with
 |zero =>
  intro g n h
  have:n=0:=by omega
  subst this;rw[Ac6];simp
 |succ k ih =>
  intro g n h;by_cases h0:n=0
  ·subst h0;rw[Ac6];simp
  ·have:=ob3 (g:=g) h0
   rw[qd2 h0,ih n (Int.tmod g n) (by omega)]
   unfold Int.gcd;rw[Int.natAbs_tmod,Nat.gcd_comm g.natAbs,Nat.gcd_comm n.natAbs,<- Nat.gcd_rec]
theorem hf3(g n:Int):(eu g n).natAbs=Int.gcd g n:=Pf3 _ g n (Qil _)
theorem Ue3:∀(k:Nat) (g n:Int),n.natAbs<=k->0<=g->0<=n->0<=eu g n:=by
 intro k
 induction k with
 |zero =>
  intro g n h hg _
  have:n=0:=by omega
  subst this;rw[Ac6];exact hg
 |succ k ih =>
  intro g n h hg hn;by_cases h0:n=0
  ·subst h0;rw[Ac6];exact hg
  ·have:=ob3 (g:=g) h0
   rw[qd2 h0];exact ih n _ (by omega) hn (Int.tmod_nonneg _ hg)
theorem hf4{g n:Int}(hg:0<=g)(hn:0<=n):eu g n=(Int.gcd g n:Int):=by
 have h1:=Ue3 _ g n (Qil _) hg hn;have h2:=hf3 g n;omega
section
variable{σ:Type}{step:σ->Stp σ}{mk:Int->Int->σ}
theorem Je1(h:∀g n,n≠0->step (mk g n)=.next (mk n (Int.tmod g n)))(h0:∀g,step (mk g 0)=.exit 1)(g n:Int)(hn:n.natAbs<=9223372036854775808):lp step (mk g n)=(1,mk (eu g n) 0):=by
 have:=tc0 (step:=step) (I:=λm s=>∃a c,s=mk a c/\c.natAbs<=m/\eu a c=eu g n) (Q:=λu s=>(u,s)=(1,mk (eu g n) 0)) (λm s ⟨a,c,hs,hm,he⟩=>by
  subst hs;by_cases hc:c=0
  ·subst hc;rw[Ac6] at he;subst he;exact .inl ⟨1,h0 _,rfl⟩
  ·have ht:=ob3 (g:=a) hc;exact .inr ⟨_,m-1,by omega,h a c hc,c,_,rfl,by omega,by rw[<- he,qd2 hc]⟩) n.natAbs (mk g n) (by omega) ⟨g,n,rfl,Qil _,rfl⟩
 exact this
theorem id5(h:∀g n,0<n->step (mk g n)=.next (mk n (Int.tmod g n)))(h0:∀g,step (mk g 0)=.exit 1)(g n:Int)(hg:0<=g)(h1:0<=n)(hn:n<=9223372036854775808):lp step (mk g n)=(1,mk (eu g n) 0):=by
 have:=tc0 (step:=step) (I:=λm s=>∃a c,s=mk a c/\c.natAbs<=m/\0<=a/\0<=c/\eu a c=eu g n) (Q:=λu s=>(u,s)=(1,mk (eu g n) 0)) (λm s ⟨a,c,hs,hm,ha,hc0,he⟩=>by
  subst hs;by_cases hc:c=0
  ·subst hc;rw[Ac6] at he;subst he;exact .inl ⟨1,h0 _,rfl⟩
  ·have ht:=ob3 (g:=a) hc;exact .inr ⟨_,m-1,by omega,h a c (by omega),c,_,rfl,by omega,hc0,Int.tmod_nonneg _ ha,by rw[<- he,qd2 hc]⟩) n.natAbs (mk g n) (by omega) ⟨g,n,rfl,Qil _,hg,h1,rfl⟩
 exact this
end
theorem mb{a c A C:Int}(h1:-A<=a)(h2:a<=A)(h3:-C<=c)(h4:c<=C):-(A*C)<=a*c/\a*c<=A*C:=by
 have hA:a.natAbs<=A.natAbs:=by omega
 have hC:c.natAbs<=C.natAbs:=by omega
 have h5:=Nat.mul_le_mul hA hC;rw[<- Int.natAbs_mul,<- Int.natAbs_mul] at h5;have h6:0<=A*C:=Int.mul_nonneg (by omega) (by omega)
 omega
end Go.Ev.L
namespace Go.Ev.Ce
open Go Go.Ev Go.Ev.L Go.Proofs
theorem Ue4(P:Va4)(g n:Int)(hn:n.natAbs<=9223372036854775808):lp (Za9 P) ⟨g,n⟩=(1,⟨eu g n,0⟩) :=
 Je1 (mk:=λg n=>(⟨g,n⟩:xa9)) (λg n h=>by simp[Za9,Qa4,Gb9,h]) (λg=>by simp[Za9,Qa4,Gb9]) g n hn
theorem Ue5(l:List Int)(hl:l.length<=1000000000)(hb:∀x∈l,x.natAbs<=9223372036854775808):lp (La9 ⟨(l.length:Int)⟩) ⟨0,l,0⟩=(1,⟨l.foldl eu 0,l,l.length⟩):=by
 have := qd1 (step := La9 ⟨(l.length : Int)⟩) (mk := fun j a => (⟨a, l, (j : Int)⟩ : ya0)) (f := eu) (fin := 1) tI l (fun _ _ => True) hl (fun j a hj _ => ⟨by
   simp only[La9,Qa5,Int.toNat_natCast,i6,l4,Ue4 _ _ _ (hb _ (N7 tI hj)),u7 hj (by omega)]
   rw[bt (sc9 hj),bt (g8 hj)]
   rfl,trivial⟩) (λa _=>by simp[La9,Qa5,Gb9]) 0 (Qih _) 0 trivial
 simpa using this.1
theorem Sc1:∀(l:List Int) (g:Int),(l.foldl eu g).natAbs=l.foldl (λa x=>Nat.gcd a x.natAbs) g.natAbs
 |[],_=>rfl
 |x::l,g=>by rw[List.foldl_cons,Sc1 l,List.foldl_cons,hf3];rfl
theorem Pf4(l:List Int)(hl:l.length<=1000000000)(hb:∀x∈l,x.natAbs<=9223372036854775807)(h0:(l.foldl eu 0).natAbs<=9223372036854775807):Ib3 l=some (i ((l.foldl eu 0).natAbs:Int),[]):=by
 unfold Ib3;simp only[i6,l4,Ue5 l hl (λx hx=>Nat.le_succ_of_le (hb x hx))]
 generalize l.foldl eu 0=e at *
 have:W (0-e)=-e:=by rw[Ka7 (by omega) (by omega)];omega
 rw[this];show some (i (if -e>e then -e else e),[])=_
 congr 3
 split<;>omega
theorem Pd8(x y:Int)(hx:0<=x)(hy:0<=y)(hb:y<=9223372036854775807):ib6 x y=some (i (Int.gcd x y:Int),[]):=by
 unfold ib6
 have:=Je1 (step:=Ia9 ⟨⟩) (mk:=λg n=>(⟨g,n⟩:ma2)) (λg n h=>by simp[Ia9,Da2,Gb9,h]) (λg=>by simp[Ia9,Da2,Gb9]) x y (by omega)
 simp only[this,hf4 hx hy];rfl
theorem zd7(x y:Int)(hx:0<=x)(hy:0<=y)(hb:y<=9223372036854775807):ca3 x y=(Int.gcd x y:Int):=by unfold ca3;rw[Pd8 x y hx hy hb];rfl
theorem zd8(x y:Int)(hx:0<=x)(hy:0<=y)(hb:y<=9223372036854775807):ca4 x y=true:=by unfold ca4;rw[Pd8 x y hx hy hb];rfl
def rm(p:Pln)(x:Pt):Int:=W (p.b*x.pw-(p.n.x*x.px+p.n.y*x.py+p.n.z*x.pz))
theorem ae4(p:Pln)(x:Pt):Fa7 p x=rm p x:=by
 unfold Fa7 eb8 rm;simp only[sc8,ad7,zd6,ae3]
theorem Je2(p:Pln)(x:Pt):Hb2 p x=rm p x:=by
 unfold Hb2 rm;simp only[sc8,ad7,zd6,ae3];congr 1;omega
structure Bd(p:Pln):Prop where
 x1:-4608<=p.n.x
 x2:p.n.x<=4608
 y1:-4608<=p.n.y
 y2:p.n.y<=4608
 z1:-4608<=p.n.z
 z2:p.n.z<=4608
 b1:-2097152<=p.b
 b2:p.b<=2097152
def mv(p q r:Pln):V3 :=
 ⟨(q7 q.n r.n).x*p.b+(q7 r.n p.n).x*q.b+(q7 p.n q.n).x*r.b,
  (q7 q.n r.n).y*p.b+(q7 r.n p.n).y*q.b+(q7 p.n q.n).y*r.b,
  (q7 q.n r.n).z*p.b+(q7 r.n p.n).z*q.b+(q7 p.n q.n).z*r.b⟩
def gc(v:V3)(w:Int):Int:=(Nat.gcd (Nat.gcd v.x.natAbs v.y.natAbs) (Nat.gcd v.z.natAbs w.natAbs):Nat)
def mpt(p q r:Pln):Pt×Bool :=
 if mw p q r=0 then (⟨0,0,0,0⟩,false)
 else if mw p q r<0 then (⟨Int.tdiv (-(mv p q r).x) (gc (mv p q r) (mw p q r)),Int.tdiv (-(mv p q r).y) (gc (mv p q r) (mw p q r)),Int.tdiv (-(mv p q r).z) (gc (mv p q r) (mw p q r)),Int.tdiv (-(mw p q r)) (gc (mv p q r) (mw p q r))⟩,true)
 else (⟨Int.tdiv (mv p q r).x (gc (mv p q r) (mw p q r)),Int.tdiv (mv p q r).y (gc (mv p q r) (mw p q r)),Int.tdiv (mv p q r).z (gc (mv p q r) (mw p q r)),Int.tdiv (mw p q r) (gc (mv p q r) (mw p q r))⟩,true)
def Sm(n:Int)(x:Int):Prop:=-n<=x/\x<=n
theorem Sc2{a b:V3}(ha:Sm 4608 a.x/\Sm 4608 a.y/\Sm 4608 a.z)(hb:Sm 4608 b.x/\Sm 4608 b.y/\Sm 4608 b.z):Sm 42467328 (q7 a b).x/\Sm 42467328 (q7 a b).y/\Sm 42467328 (q7 a b).z:=by
 obtain⟨⟨a1,a2⟩,⟨a3,a4⟩,a5,a6⟩:=ha;obtain⟨⟨b1,b2⟩,⟨b3,b4⟩,b5,b6⟩:=hb;have h1:=mb a3 a4 b5 b6;have h2:=mb a5 a6 b3 b4;have h3:=mb a5 a6 b1 b2;have h4:=mb a1 a2 b5 b6;have h5:=mb a1 a2 b3 b4;have h6:=mb a3 a4 b1 b2;unfold Sm q7
 simp only
 omega
theorem Bd.n{p:Pln}(h:Bd p):Sm 4608 p.n.x/\Sm 4608 p.n.y/\Sm 4608 p.n.z:=⟨⟨h.x1,h.x2⟩,⟨h.y1,h.y2⟩,h.z1,h.z2⟩
theorem hf5{p q r:Pln}(hp:Bd p)(hq:Bd q)(hr:Bd r):Sm 600000000000 (mw p q r):=by
 obtain⟨⟨c1,c2⟩,⟨c3,c4⟩,c5,c6⟩:=Sc2 hq.n hr.n;have h1:=mb hp.x1 hp.x2 c1 c2;have h2:=mb hp.y1 hp.y2 c3 c4;have h3:=mb hp.z1 hp.z2 c5 c6;unfold Sm mw dot;omega
theorem hf6{p q r:Pln}(hp:Bd p)(hq:Bd q)(hr:Bd r):Sm 300000000000000 (mv p q r).x/\Sm 300000000000000 (mv p q r).y/\Sm 300000000000000 (mv p q r).z:=by
 obtain⟨⟨c1,c2⟩,⟨c3,c4⟩,c5,c6⟩:=Sc2 hq.n hr.n;obtain⟨⟨d1,d2⟩,⟨d3,d4⟩,d5,d6⟩:=Sc2 hr.n hp.n;obtain⟨⟨e1,e2⟩,⟨e3,e4⟩,e5,e6⟩:=Sc2 hp.n hq.n;have a1:=mb c1 c2 hp.b1 hp.b2;have a2:=mb c3 c4 hp.b1 hp.b2;have a3:=mb c5 c6 hp.b1 hp.b2;have b1:=mb d1 d2 hq.b1 hq.b2;have b2:=mb d3 d4 hq.b1 hq.b2;have b3:=mb d5 d6 hq.b1 hq.b2;have f1:=mb e1 e2 hr.b1 hr.b2;have f2:=mb e3 e4 hr.b1 hr.b2;have f3:=mb e5 e6 hr.b1 hr.b2;unfold Sm mv
 simp only
 omega
theorem qd3(a b:V3):ca0 a b=⟨W (q7 a b).x,W (q7 a b).y,W (q7 a b).z⟩:=by
 unfold ca0 q7;simp only[zd6,ae3]
theorem qd4(a b:V3):ta0 a b=⟨W (q7 a b).x,W (q7 a b).y,W (q7 a b).z⟩:=by
 unfold ta0 q7;simp only[zd6,ae3]
theorem Pf5(p q r:Pln):dot r.n (q7 p.n q.n)=mw p q r:=by unfold mw dot q7;grind
theorem ng2(a b c d:Nat):[a,b,c,d].foldl Nat.gcd 0=Nat.gcd (Nat.gcd a b) (Nat.gcd c d):=by
 simp only[List.foldl_cons,List.foldl_nil,Qiai];rw[Nat.gcd_assoc]
theorem zd9{v:V3}{w:Int}(h:w≠0):0<gc v w:=by
 unfold gc
 have:0<Nat.gcd v.z.natAbs w.natAbs:=Qiu _ (by omega)
 have:=Qiu (Nat.gcd v.x.natAbs v.y.natAbs) this
 omega
theorem hf7{v:V3}{w:Int}(h:w≠0):gc v w<=w.natAbs:=by
 unfold gc;have h1:Nat.gcd v.z.natAbs w.natAbs<=w.natAbs:=Qial _ (by omega)
 have h2:0<Nat.gcd v.z.natAbs w.natAbs:=Qiu _ (by omega)
 have h3:=Qial (m:=Nat.gcd v.x.natAbs v.y.natAbs) (n:=Nat.gcd v.z.natAbs w.natAbs) h2;omega
theorem mb8{x:Int}(h:Sm 1000000000000000000 x):W x=x:=Ka7 (by have:=h.1;omega) (by have:=h.2;omega)
theorem Sm.mono{n m x:Int}(h:Sm n x)(hn:n<=m):Sm m x:=⟨by have:=h.1;omega,by have:=h.2;omega⟩
theorem ba5{n x g:Int}(h:Sm n x)(hg:0<g):Sm n (Int.tdiv x g):=by
 have h1:(Int.tdiv x g).natAbs<=x.natAbs:=by rw[Int.natAbs_tdiv];exact Nat.div_le_self _ _
 have:=h.1;have:=h.2
 constructor<;>omega
theorem Ce9{p q r:Pln}(hp:Bd p)(hq:Bd q)(hr:Bd r)(h:(mpt p q r).2=true):0<(mpt p q r).1.pw/\Sm 300000000000000 (mpt p q r).1.px/\Sm 300000000000000 (mpt p q r).1.py/\Sm 300000000000000 (mpt p q r).1.pz/\(mpt p q r).1.pw<=600000000000:=by
 have hw:=hf5 hp hq hr;obtain⟨v1,v2,v3⟩:=hf6 hp hq hr;have neg:∀{n x:Int},Sm n x->Sm n (-x):=λh=>⟨by have:=h.2;omega,by have:=h.1;omega⟩
 have pos:∀{x:Int},0<x->x.natAbs=(mw p q r).natAbs->0<Int.tdiv x (gc (mv p q r) (mw p q r)):=λ{x} hx he=>by
  have h0:mw p q r≠0:=by omega
  have h1:=zd9 (v:=mv p q r) h0;have h2:=hf7 (v:=mv p q r) h0;rw[Int.tdiv_eq_ediv_of_nonneg (by omega)]
  exact Int.ediv_pos_of_pos_of_dvd hx (by omega) (by
   rw[<- Int.dvd_natAbs,he];exact Int.natCast_dvd_natCast.2 (Nat.dvd_trans (Nat.gcd_dvd_right _ _) (Nat.gcd_dvd_right _ _)))
 unfold mpt at h ⊢;by_cases h0:mw p q r=0
 ·rw[if_pos h0] at h;cases h
 ·rw[if_neg h0];have hg:=zd9 (v:=mv p q r) h0;by_cases h1:mw p q r<0
  ·rw[if_pos h1];exact⟨pos (by omega) (by omega),ba5 (neg v1) hg,ba5 (neg v2) hg,ba5 (neg v3) hg,(ba5 (neg hw) hg).2⟩
  ·rw[if_neg h1];exact⟨pos (by omega) rfl,ba5 v1 hg,ba5 v2 hg,ba5 v3 hg,(ba5 hw hg).2⟩
theorem Je3{p q r:Pln}(hp:Bd p)(hq:Bd q)(hr:Bd r):tb8 ⟨p,q,r⟩=some (.tup [.agg (tX.row (mpt p q r).1),b (mpt p q r).2],[]):=by
 have hw:=hf5 hp hq hr;obtain⟨v1,v2,v3⟩:=hf6 hp hq hr;have e1:eb8 r.n (ca0 p.n q.n)=mw p q r:=by
  rw[qd3];unfold eb8;simp only[sc8,ad7,gf8];show W (dot r.n (q7 p.n q.n))=_;rw[Pf5,mb8 (hw.mono (by omega))]
 have e2:Fa6 (Fa6 (Fa6 ⟨0,0,0⟩ (xa8 (ca0 q.n r.n) p.b)) (xa8 (ca0 r.n p.n) q.b)) (xa8 (ca0 p.n q.n) r.b)=mv p q r:=by
  rw[qd3,qd3,qd3];unfold Fa6 xa8;simp only[sc8,ad7,Ce8,Int.zero_add];show (⟨W (mv p q r).x,W (mv p q r).y,W (mv p q r).z⟩:V3)=_;rw[mb8 (v1.mono (by omega)),mb8 (v2.mono (by omega)),mb8 (v3.mono (by omega))]
 unfold tb8;simp only[e1,e2];have hb:∀x∈[(mv p q r).x,(mv p q r).y,(mv p q r).z,mw p q r],x.natAbs<=9223372036854775807:=by
  intro x hx;simp only[Qiav,Qiam,or_false] at hx;unfold Sm at *
  rcases hx with rfl|rfl|rfl|rfl<;>omega
 have hf:([(mv p q r).x,(mv p q r).y,(mv p q r).z,mw p q r].foldl eu 0).natAbs=Nat.gcd (Nat.gcd (mv p q r).x.natAbs (mv p q r).y.natAbs) (Nat.gcd (mv p q r).z.natAbs (mw p q r).natAbs):=by
  rw[Sc1,<- ng2];rfl
 unfold mpt;by_cases h0:mw p q r=0
 ·rw[bt (by rw[h0];rfl),if_pos h0]
  rfl
 ·have hz:(mw p q r==0)=false:=by simpa using h0
  rw[bf hz,if_neg h0];have hgp:=zd9 (v:=mv p q r) h0;have hgl:=hf7 (v:=mv p q r) h0;have hge:=Pf4 _ (by simp) hb (by rw[hf];unfold gc at hgl;unfold Sm at hw;omega)
  have hgv:dc4 [(mv p q r).x,(mv p q r).y,(mv p q r).z,mw p q r]=gc (mv p q r) (mw p q r):=by
   unfold dc4;rw[hge,hf];rfl
  have hgg:dc5 [(mv p q r).x,(mv p q r).y,(mv p q r).z,mw p q r]=true:=by
   unfold dc5;rw[hge];rfl
  rw[hgv,bt hgg];generalize hG:gc (mv p q r) (mw p q r)=G at *
  have hGW:W (0-G)=-G:=by unfold Sm at hw;rw[Ka7 (by omega) (by omega)];omega
  have hGn:(-G==0)=false:=by simp;omega
  have hGp:(G==0)=false:=by simp;omega
  by_cases h1:mw p q r<0
  ·rw[bt (decide_eq_true h1),if_pos h1];simp only[hGW];rw[bf hGn,bf hGn,bf hGn,bf hGn];simp only[Int.tdiv_neg,<- Int.neg_tdiv];have neg:∀{n x:Int},Sm n x->Sm n (-x):=λh=>⟨by have:=h.2;omega,by have:=h.1;omega⟩
   rw[mb8 ((ba5 (neg v1) hgp).mono (by omega)),mb8 ((ba5 (neg v2) hgp).mono (by omega)),mb8 ((ba5 (neg v3) hgp).mono (by omega)),mb8 ((ba5 (neg hw) hgp).mono (by omega))]
   rfl
  ·rw[bf (decide_eq_false h1),if_neg h1,bf hGp,bf hGp,bf hGp,bf hGp];rw[mb8 ((ba5 v1 hgp).mono (by omega)),mb8 ((ba5 v2 hgp).mono (by omega)),mb8 ((ba5 v3 hgp).mono (by omega)),mb8 ((ba5 hw hgp).mono (by omega))]
   rfl
theorem Pf6{p q r:Pln}(hp:Bd p)(hq:Bd q)(hr:Bd r):tb9 ⟨p,q,r⟩=mpt p q r:=by unfold tb9;rw[Je3 hp hq hr];rfl
theorem Pf7{p q r:Pln}(hp:Bd p)(hq:Bd q)(hr:Bd r):ub0 ⟨p,q,r⟩=true:=by unfold ub0;rw[Je3 hp hq hr];rfl
theorem oe7{p q r:Pln}(hp:Bd p)(hq:Bd q)(hr:Bd r):Hb4 p q r=some (.tup [.agg (tX.row (mpt p q r).1),b (mpt p q r).2],[]):=by
 have hw:=hf5 hp hq hr;obtain⟨v1,v2,v3⟩:=hf6 hp hq hr;have e1:zc5 p.n (ta0 q.n r.n)=mw p q r:=by
  rw[qd4];unfold zc5;simp only[sc8,ad7,gf8];show W (dot p.n (q7 q.n r.n))=_;rw[show dot p.n (q7 q.n r.n)=mw p q r from rfl,mb8 (hw.mono (by omega))]
 have e2:Fb3 (Fb3 (ca2 (ta0 q.n r.n) p.b) (ca2 (ta0 r.n p.n) q.b)) (ca2 (ta0 p.n q.n) r.b)=mv p q r:=by
  rw[qd4,qd4,qd4];unfold Fb3 ca2;simp only[sc8,ad7,Ce8];show (⟨W (mv p q r).x,W (mv p q r).y,W (mv p q r).z⟩:V3)=_;rw[mb8 (v1.mono (by omega)),mb8 (v2.mono (by omega)),mb8 (v3.mono (by omega))]
 have neg:∀{n x:Int},Sm n x->Sm n (-x):=λh=>⟨by have:=h.2;omega,by have:=h.1;omega⟩
 have e3:ca2 (mv p q r) (-1)=⟨-(mv p q r).x,-(mv p q r).y,-(mv p q r).z⟩:=by
  unfold ca2
  have:∀x:Int,x*-1=-x:=λx=>by omega
  simp only[this];rw[mb8 ((neg v1).mono (by omega)),mb8 ((neg v2).mono (by omega)),mb8 ((neg v3).mono (by omega))]
 have ab:∀{x:Int},Sm 300000000000000 x->(if W (0-x)>x then W (0-x) else x)=(x.natAbs:Int):=λ{x} h=>by
  have:W (0-x)=-x:=by rw[show 0-x=-x by omega];exact mb8 ((neg h).mono (by omega))
  rw[this]
  split<;>omega
 unfold Hb4;simp only[e1,e2,e3];rw[ab v1,ab v2,ab v3,ab (neg v1),ab (neg v2),ab (neg v3)];simp only[Int.natAbs_neg];unfold mpt;by_cases h0:mw p q r=0
 ·rw[bt (by rw[h0];rfl),if_pos h0]
  rfl
 ·have hz:(mw p q r==0)=false:=by simpa using h0
  rw[bf hz,if_neg h0];have hgp:=zd9 (v:=mv p q r) h0;have hgl:=hf7 (v:=mv p q r) h0;have hw0:=hw;unfold Sm at hw0;have q1:((mv p q r).y.natAbs:Int)<=9223372036854775807:=by unfold Sm at v2;omega
  have k1:=zd7 ((mv p q r).x.natAbs:Int) ((mv p q r).y.natAbs:Int) (by omega) (by omega) q1
  have k2:=zd8 ((mv p q r).x.natAbs:Int) ((mv p q r).y.natAbs:Int) (by omega) (by omega) q1
  have c1:Int.gcd ((mv p q r).x.natAbs:Int) ((mv p q r).y.natAbs:Int)=Nat.gcd (mv p q r).x.natAbs (mv p q r).y.natAbs:=by simp[Int.gcd]
  have fin : ∀ w : Int, 0 < w → w.natAbs = (mw p q r).natAbs → ca3 ((mv p q r).z.natAbs : Int) w = (Nat.gcd (mv p q r).z.natAbs (mw p q r).natAbs : Nat) ∧ ca4 ((mv p q r).z.natAbs : Int) w = true ∧
    ca3 (Nat.gcd (mv p q r).x.natAbs (mv p q r).y.natAbs:Nat) (Nat.gcd (mv p q r).z.natAbs (mw p q r).natAbs:Nat)=gc (mv p q r) (mw p q r)/\ca4 (Nat.gcd (mv p q r).x.natAbs (mv p q r).y.natAbs:Nat) (Nat.gcd (mv p q r).z.natAbs (mw p q r).natAbs:Nat)=true:=by
   intro w hw1 hw2;have l1:Nat.gcd (mv p q r).z.natAbs (mw p q r).natAbs<=(mw p q r).natAbs:=Qial _ (by omega)
   refine⟨?_,zd8 _ _ (by omega) (by omega) (by omega),?_,zd8 _ _ (by omega) (by omega) (by omega)⟩
   ·rw[zd7 _ _ (by omega) (by omega) (by omega)]
    have:Int.gcd ((mv p q r).z.natAbs:Int) w=Nat.gcd (mv p q r).z.natAbs (mw p q r).natAbs:=by unfold Int.gcd;rw[hw2];simp
    rw[this]
   ·rw[zd7 _ _ (by omega) (by omega) (by omega)]
    rfl
  by_cases h1:mw p q r<0
  ·rw[bt (decide_eq_true h1),if_pos h1];have hWw:W (0-mw p q r)=-mw p q r:=by rw[Ka7 (by omega) (by omega)];omega
   rw[hWw];obtain⟨f1,f2,f3,f4⟩:=fin (-mw p q r) (by omega) (by omega)
   simp only[k1,k2,c1,f1,f2,f3,f4];generalize gc (mv p q r) (mw p q r)=G at *
   have hGp:(G==0)=false:=by simp;omega
   simp only[hGp];rw[mb8 ((ba5 (neg v1) hgp).mono (by omega)),mb8 ((ba5 (neg v2) hgp).mono (by omega)),mb8 ((ba5 (neg v3) hgp).mono (by omega)),mb8 ((ba5 (neg hw) hgp).mono (by omega))]
   rfl
  ·rw[bf (decide_eq_false h1),if_neg h1];obtain⟨f1,f2,f3,f4⟩:=fin (mw p q r) (by omega) rfl
   simp only[k1,k2,c1,f1,f2,f3,f4];generalize gc (mv p q r) (mw p q r)=G at *
   have hGp:(G==0)=false:=by simp;omega
   simp only[hGp];rw[mb8 ((ba5 v1 hgp).mono (by omega)),mb8 ((ba5 v2 hgp).mono (by omega)),mb8 ((ba5 v3 hgp).mono (by omega)),mb8 ((ba5 hw hgp).mono (by omega))]
   rfl
theorem yf3{p q r:Pln}(hp:Bd p)(hq:Bd q)(hr:Bd r):Hb5 p q r=mpt p q r:=by unfold Hb5;rw[oe7 hp hq hr];rfl
theorem yf4{p q r:Pln}(hp:Bd p)(hq:Bd q)(hr:Bd r):Hb6 p q r=true:=by unfold Hb6;rw[oe7 hp hq hr];rfl
def inn(l:PLq)(x:Pt):Bool:=l.all λp=>!decide (rm p x<0)
theorem Je4(l:PLq)(x:Pt):inn l x=!l.any λp=>decide (rm p x<0):=by unfold inn;rw[List.not_any_eq_all_not]
theorem bg0(p:Pln)(x:Pt):xb7 ⟨p.n.x,p.n.y,p.n.z,p.b,x.px,x.py,x.pz,x.pw⟩=⟨decide (rm p x<0)⟩:=by
 show Ja2.mk (decide (Fa7 p x<0))=_;rw[ae4]
theorem yf5(l:PLq)(x:Pt)(hl:l.length<=1000000000):ha2 ⟨l,x.px,x.py,x.pz,x.pw⟩=⟨1,if l.any (λp=>decide (rm p x<0)) then ((l.findIdx (λp=>decide (rm p x<0)):Nat):Int) else -1⟩:=by
 have h:=sb5 (step:=O1 ⟨l,(l.length:Int),x.px,x.py,x.pz,x.pw⟩) (mk:=λj=>(⟨(j:Int)⟩:q9)) (c:=λp=>decide (rm p x<0)) (u:=1) (fin:=2) tP l hl
  (λj hj=>by
   simp only[O1,L7,Int.toNat_natCast,bg0,u7 hj (by omega)]
   rw[bt (sc9 hj),bt (g8 hj)])
  (by simp only[O1,L7];rw[bf (ec5 (Qig _))]) 0 (Qih _)
 rw[Qib] at h;unfold ha2 M6;simp only[i6,l4];rw[show (⟨0⟩:q9)=⟨((0:Nat):Int)⟩ from rfl,h]
 split
 ·simp only[Qic];rfl
 ·rfl
theorem Pd9(l:PLq)(x:Pt)(hl:l.length<=1000000000):ab0 l x=some (b (inn l x),[]):=by
 unfold ab0 oa4 G9;simp only[i6,l4,yf5 l x hl,Je4];split
 ·rename_i h;rw[h,show decide (((l.findIdx (λp=>decide (rm p x<0)):Nat):Int)>=0)=true from decide_eq_true (by omega)];rfl
 ·rename_i h;rw[Qian] at h;rw[h];rfl
theorem hf8(l:PLq)(x:Pt)(hl:l.length<=1000000000):Ma0 l x=inn l x:=by unfold Ma0;rw[Pd9 l x hl];rfl
theorem hf9(l:PLq)(x:Pt)(hl:l.length<=1000000000):Ma1 l x=true:=by unfold Ma1;rw[Pd9 l x hl];rfl
theorem If9(l:PLq)(x:Pt)(hl:l.length<=1000000000):rc0 l x=some (b (inn l x),[]):=by
 have h:=Jc9 (step:=tb4 ⟨l,x.px,x.py,x.pz,x.pw⟩) (mk:=λj=>(⟨(j:Int)⟩:Ga4)) (c:=λp=>decide (rm p x<0)) (u:=1) (fin:=2) tP l hl
  (λj hj=>by
   simp only[tb4,ib7,Int.toNat_natCast,Je2,u7 hj (by omega)]
   rw[bt (sc9 hj),bt (g8 hj)])
  (by simp only[tb4,ib7];rw[bf (ec5 (Qig _))]) 0 (Qih _)
 rw[Qib] at h;unfold rc0;simp only[i6,l4,Je4];rw[show (⟨0⟩:Ga4)=⟨((0:Nat):Int)⟩ from rfl,h]
 split
 ·rename_i h;rw[h];rfl
 ·rename_i h;rw[Qian] at h;rw[h];rfl
theorem ng3(l:PLq)(x:Pt)(hl:l.length<=1000000000):Wb9 l x=inn l x:=by unfold Wb9;rw[If9 l x hl];rfl
theorem ng4(l:PLq)(x:Pt)(hl:l.length<=1000000000):Xb0 l x=true:=by unfold Xb0;rw[If9 l x hl];rfl
def eqX(x q:Pt):Bool:=q.px==x.px&&(q.py==x.py&&(q.pz==x.pz&&(q.pw==x.pw&&true)))
theorem Je5(x q:Pt):eqX x q=true↔q=x:=by
 unfold eqX;simp only[Qiq,Qim,beq_iff_eq];exact⟨λ⟨h1,h2,h3,h4⟩=>by cases q;cases x;simp_all,λh=>by subst h;exact⟨rfl,rfl,rfl,rfl⟩⟩
def tc1(l:List Pt)(x:Pt):Bool:=l.any (eqX x)
theorem if0(l:List Pt)(x:Pt):tc1 l x=true↔x∈l:=by
 unfold tc1;rw[Qiao];exact⟨λ⟨q,h,e⟩=>(Je5 x q).1 e ▸ h,λh=>⟨x,h,(Je5 x x).2 rfl⟩⟩
theorem oe8(l:List Pt)(x:Pt)(hl:l.length<=1000000000):tb5 l x=some (b (tc1 l x),[]):=by
 have h:=Jc9 (step:=Pa8 ⟨l,x.px,x.py,x.pz,x.pw⟩) (mk:=λj=>(⟨(j:Int)⟩:la1)) (c:=eqX x) (u:=1) (fin:=2) tX l hl
  (λj hj=>by
   simp only[Pa8,Ja0,Int.toNat_natCast,u7 hj (by omega)]
   rw[bt (sc9 hj),bt (g8 hj)]
   rfl)
  (by simp only[Pa8,Ja0];rw[bf (ec5 (Qig _))]) 0 (Qih _)
 rw[Qib] at h;unfold tb5;simp only[i6,l4];rw[show (⟨0⟩:la1)=⟨((0:Nat):Int)⟩ from rfl,h]
 unfold tc1;split
 ·rename_i h;rw[h];rfl
 ·rename_i h;rw[Qian] at h;rw[h];rfl
theorem yf6(l:List Pt)(x:Pt)(hl:l.length<=1000000000):eb6 l x=tc1 l x:=by unfold eb6;rw[oe8 l x hl];rfl
theorem yf7(l:List Pt)(x:Pt)(hl:l.length<=1000000000):eb7 l x=true:=by unfold eb7;rw[oe8 l x hl];rfl
def smb(n x:Int):Bool:=!decide (x < -n)&&!decide (x>n)
theorem qd5(n x:Int):smb n x=true↔Sm n x:=by unfold smb Sm;simp only[Qim,Qiaj,decide_eq_false_iff_not];omega
theorem Ad0(n:Int)(l:List Int)(hn:0<=n/\n<=1000000000)(hl:l.length<=1000000000):Qa7 n l=some (b (l.all (smb n)),[]):=by
 have hW:W (0-n)=-n:=by rw[Ka7 (by omega) (by omega)];omega
 have h:=Jc9 (step:=ya1 ⟨n,l,(l.length:Int)⟩) (mk:=λj=>(⟨(j:Int)⟩:T5)) (c:=λx=>!smb n x) (u:=1) (fin:=2) tI l hl
  (λj hj=>by
   simp only[ya1,ta5,Int.toNat_natCast,u7 hj (by omega),hW]
   rw[bt (sc9 hj),bt (g8 hj)];unfold smb;cases decide (gL tI l j < -n)<;>cases decide (gL tI l j>n)<;>rfl)
  (by simp only[ya1,ta5];rw[bf (ec5 (Qig _))]) 0 (Qih _)
 rw[Qib] at h;unfold Qa7;simp only[i6,l4];rw[show (⟨0⟩:T5)=⟨((0:Nat):Int)⟩ from rfl,h]
 have e:(l.any λx=>!smb n x)=!l.all (smb n):=by rw[Qin]
 rw[e];cases l.all (smb n)<;>rfl
theorem Qd0(n:Int)(l:List Int)(hn:0<=n/\n<=1000000000)(hl:l.length<=1000000000):Qa8 n l=l.all (smb n):=by unfold Qa8;rw[Ad0 n l hn hl];rfl
theorem Qd1(n:Int)(l:List Int)(hn:0<=n/\n<=1000000000)(hl:l.length<=1000000000):Qa9 n l=true:=by unfold Qa9;rw[Ad0 n l hn hl];rfl
theorem oe9{n:Int}(h:Sm 1000000000000000000 n):Va5 n=(n.natAbs:Int):=by
 unfold Va5;obtain⟨h1,h2⟩:=h;rw[Ka7 (by omega) (by omega)]
 split<;>omega
theorem Sc3{n:Int}(h:Sm 1000000000000000000 n):Pa9 n=some (i (n.natAbs:Int),[]):=by
 unfold Pa9;obtain⟨h1,h2⟩:=h;rw[Ka7 (by omega) (by omega)]
 by_cases h:n<0
 ·rw[bt (decide_eq_true h)];congr 3;omega
 ·rw[bf (decide_eq_false h)];congr 3;omega
theorem tc2{n:Int}(h:Sm 1000000000000000000 n):Da3 n=(n.natAbs:Int):=by unfold Da3;rw[Sc3 h];rfl
theorem tc3{n:Int}(h:Sm 1000000000000000000 n):Da4 n=true:=by unfold Da4;rw[Sc3 h];rfl
def g3(v:V3):Int:=(Nat.gcd (Nat.gcd v.x.natAbs v.y.natAbs) v.z.natAbs:Nat)
theorem if1(g n:Nat):eu (g:Int) (n:Int)=(Nat.gcd g n:Nat):=by rw[hf4 (by omega) (by omega)];rfl
theorem Id6(P:na1)(g n:Nat)(hn:n<=1000000000000000000):lp (ja9 P) ⟨(g:Int),(n:Int)⟩=(1,⟨(Nat.gcd g n:Nat),0⟩):=by
 have:=id5 (step:=ja9 P) (mk:=λg n=>(⟨g,n⟩:V8)) (λg n h=>by
  have h0:n≠0:=by omega
  simp[ja9,pa5,Gb9,h,h0]) (λg=>by simp[ja9,pa5,Gb9]) (g:Int) (n:Int) (by omega) (by omega) (by omega)
 rw[this,if1]
theorem De0(l:List Int)(hl:l.length<=1000000000)(hb:∀x∈l,Sm 1000000000000000000 x):Ja6 l=some (i (l.foldl (λg x=>Nat.gcd g x.natAbs) 0:Nat),[]):=by
 have h := qd1 (step := ta6 ⟨(l.length : Int)⟩) (mk := fun j (a : Nat) => (⟨(a : Int), l, (j : Int)⟩ : Q4)) (f := fun g x => Nat.gcd g x.natAbs) (fin := 2) tI l (fun _ _ => True) hl (fun j a hj _ => ⟨by
   have hm:=hb _ (N7 tI hj);have hne:(gL tI l j==(-9223372036854775808:Int))=false:=by
    have:=hm.1
    rw[beq_eq_false_iff_ne];omega
   have hs:(gL tI l j).natAbs<=1000000000000000000:=by obtain⟨h1,h2⟩:=hm;omega
   simp only[ta6,pa6,Int.toNat_natCast,i6,l4,oe9 hm,Id6 _ _ _ hs,u7 hj (by omega)]
   rw[bt (sc9 hj),bt (g8 hj),bf hne]
   rfl,trivial⟩) (λa _=>by simp only[ta6,pa6];rw[bf (ec5 (Qig _))]) 0 (Qih _) 0 trivial
 have h:=h.1;rw[Qib] at h;unfold Ja6;simp only[i6,l4];rw[show (⟨0,l,0⟩:Q4)=⟨((0:Nat):Int),l,((0:Nat):Int)⟩ from rfl,h]
 rfl
def okp(p:Pln):Bool:=[p.n.x,p.n.y,p.n.z].all (smb 4608)&&(g3 p.n==1&&[p.b].all (smb 2097152))
theorem Pf8(p:Pln):Bd p↔[p.n.x,p.n.y,p.n.z].all (smb 4608)=true/\[p.b].all (smb 2097152)=true:=by
 simp only[List.all_cons,List.all_nil,Qiq,Qim,qd5,Sm];exact⟨λh=>⟨⟨⟨h.x1,h.x2⟩,⟨h.y1,h.y2⟩,h.z1,h.z2⟩,h.b1,h.b2⟩,λ⟨⟨⟨a,b⟩,⟨c,d⟩,e,f⟩,g,h⟩=>⟨a,b,c,d,e,f,g,h⟩⟩
theorem ad8{p:Pln}(h:okp p=true):Bd p:=by
 unfold okp at h;rw[Qim,Qim] at h;exact (Pf8 p).2 ⟨h.1,h.2.2⟩
theorem sm3{v:V3}(h:[v.x,v.y,v.z].all (smb 4608)=true):Sm 4608 v.x/\Sm 4608 v.y/\Sm 4608 v.z:=by
 simpa only[List.all_cons,List.all_nil,Qiq,Qim,qd5] using h
theorem pe0(p:Pln):ab2 p=some (b (okp p),[]):=by
 unfold ab2 okp;have l3:[p.n.x,p.n.y,p.n.z].length<=1000000000:=by simp
 have l1:[p.b].length<=1000000000:=by simp
 simp only[Qd0 4608 _ (by omega) l3,Qd1 4608 _ (by omega) l3,Qd0 2097152 _ (by omega) l1,Qd1 2097152 _ (by omega) l1]
 cases hw:[p.n.x,p.n.y,p.n.z].all (smb 4608) with
 |false=>rfl
 |true =>
  obtain⟨h1,h2,h3⟩:=sm3 hw;have hd:=De0 [p.n.x,p.n.y,p.n.z] l3 (by
   intro x hx;simp only[Qiav,Qiam,or_false] at hx
   rcases hx with rfl|rfl|rfl
   ·exact h1.mono (by omega)
   ·exact h2.mono (by omega)
   ·exact h3.mono (by omega))
  have hg:([p.n.x,p.n.y,p.n.z].foldl (λg x=>Nat.gcd g x.natAbs) 0:Nat)=Nat.gcd (Nat.gcd p.n.x.natAbs p.n.y.natAbs) p.n.z.natAbs:=by
   simp only[List.foldl_cons,List.foldl_nil,Qiai]
  have hp:bb9 [p.n.x,p.n.y,p.n.z]=g3 p.n:=by unfold bb9;rw[hd,hg];rfl
  have hgd:cb0 [p.n.x,p.n.y,p.n.z]=true:=by unfold cb0;rw[hd];rfl
  rw[hp,hgd];cases g3 p.n==1<;>rfl
theorem yf8(p:Pln):sb0 p=okp p:=by unfold sb0;rw[pe0 p];rfl
theorem yf9(p:Pln):sb1 p=true:=by unfold sb1;rw[pe0 p];rfl
theorem ad9(P:xa6)(g n:Nat)(hn:n<=1000000000000000000):lp (ta1 P) ⟨(g:Int),(n:Int)⟩=(1,⟨(Nat.gcd g n:Nat),0⟩):=by
 have:=id5 (step:=ta1 P) (mk:=λg n=>(⟨g,n⟩:da1)) (λg n h=>by
  have h0:n≠0:=by omega
  simp[ta1,Qa0,Gb9,h,h0]) (λg=>by simp[ta1,Qa0,Gb9]) (g:Int) (n:Int) (by omega) (by omega) (by omega)
 rw[this,if1]
theorem Je6{v:V3}(h1:Sm 1000000000000000000 v.x)(h2:Sm 1000000000000000000 v.y)(h3:Sm 1000000000000000000 v.z) :
  Hb8 v=if g3 v=0 then some (.tup [.agg (tV.row ⟨0,0,0⟩),i 0],[]) else some (.tup [.agg (tV.row ⟨W (Int.tdiv v.x (g3 v)),W (Int.tdiv v.y (g3 v)),W (Int.tdiv v.z (g3 v))⟩),i (g3 v)],[]):=by
 have ne:∀{x:Int},Sm 1000000000000000000 x->(x==(-9223372036854775808:Int))=false:=λ{x} h=>by
  have:=h.1
  rw[beq_eq_false_iff_ne];omega
 have bd:∀{x:Int},Sm 1000000000000000000 x->x.natAbs<=1000000000000000000:=λ{x} h=>by obtain⟨h1,h2⟩:=h;omega
 have l1:=ad9 ⟨0,v.x,v.y,v.z,v.x,v.y,v.z⟩ 0 v.x.natAbs (bd h1);rw[Qiai] at l1;have l2:=ad9 ⟨1,v.x,v.y,v.z,v.x,v.y,v.z⟩ v.x.natAbs v.y.natAbs (bd h2);have l3:=ad9 ⟨2,v.x,v.y,v.z,v.x,v.y,v.z⟩ (Nat.gcd v.x.natAbs v.y.natAbs) v.z.natAbs (bd h3);unfold Hb8;simp only[tc2 h1,tc2 h2,tc2 h3,tc3 h1,tc3 h2,tc3 h3];rw[show (⟨0,(v.x.natAbs:Int)⟩:da1)=⟨((0:Nat):Int),(v.x.natAbs:Int)⟩ from rfl]
 simp only[l1,l2,l3,ne h1,ne h2,ne h3];rw[show ((Nat.gcd (Nat.gcd v.x.natAbs v.y.natAbs) v.z.natAbs:Nat):Int)=g3 v from rfl]
 by_cases h:g3 v=0
 ·rw[if_pos h,show (g3 v==0)=true from by rw[h];rfl];rfl
 ·rw[if_neg h,show (g3 v==0)=false from by rw[beq_eq_false_iff_ne];exact h];rfl
theorem De1{v:V3}(h1:Sm 1000000000000000000 v.x)(h2:Sm 1000000000000000000 v.y)(h3:Sm 1000000000000000000 v.z):(cc5 v).2=g3 v:=by
 unfold cc5;rw[Je6 h1 h2 h3];split
 ·rename_i h;rw[h];rfl
 ·rfl
theorem Pf9{v:V3}(h1:Sm 1000000000000000000 v.x)(h2:Sm 1000000000000000000 v.y)(h3:Sm 1000000000000000000 v.z):cc6 v=true:=by
 unfold cc6;rw[Je6 h1 h2 h3]
 split<;>rfl
theorem Qd2(p:Pln):tb6 p=some (b (okp p),[]):=by
 unfold tb6 okp;cases hw:[p.n.x,p.n.y,p.n.z].all (smb 4608) with
 |false =>
  simp only[List.all_cons,List.all_nil,Qiq,smb] at hw;cases h1:decide (p.n.x < -4608)<;>cases h2:decide (p.n.x>4608)<;>cases h3:decide (p.n.y < -4608)<;>cases h4:decide (p.n.y>4608)<;>cases h5:decide (p.n.z < -4608)<;>cases h6:decide (p.n.z>4608)<;>simp only[h1,h2,h3,h4,h5,h6] at hw ⊢<;>first | rfl | cases hw
 |true =>
  obtain⟨h1,h2,h3⟩:=sm3 hw;rw[bf (decide_eq_false (by have:=h1.1;omega)),bf (decide_eq_false (by have:=h1.2;omega)),bf (decide_eq_false (by have:=h2.1;omega)),bf (decide_eq_false (by have:=h2.2;omega)),bf (decide_eq_false (by have:=h3.1;omega)),bf (decide_eq_false (by have:=h3.2;omega))]
  have k1:=h1.mono (m:=1000000000000000000) (by omega)
  have k2:=h2.mono (m:=1000000000000000000) (by omega)
  have k3:=h3.mono (m:=1000000000000000000) (by omega)
  rw[bt (Pf9 k1 k2 k3),De1 k1 k2 k3];cases g3 p.n==1 with
  |false=>rfl
  |true =>
   simp only[List.all_cons,List.all_nil,Qiq,smb,Bool.true_and];rw[f0];by_cases ha:p.b < -2097152
   ·rw[bf (decide_eq_false (by omega)),show decide (p.b < -2097152)=true from decide_eq_true ha];rfl
   ·rw[bt (decide_eq_true (by omega)),show decide (p.b < -2097152)=false from decide_eq_false ha]
    congr 3;by_cases hc:p.b<=2097152
    ·rw[decide_eq_true hc,decide_eq_false (by omega)];rfl
    ·rw[decide_eq_false hc,decide_eq_true (by omega)];rfl
theorem if2(p:Pln):Pb9 p=okp p:=by unfold Pb9;rw[Qd2 p];rfl
theorem if3(p:Pln):Qb0 p=true:=by unfold Qb0;rw[Qd2 p];rfl
def chk(l:PLq):Int:=if (l.length:Int)>48 then 2 else if l.all okp then 0 else 12
theorem pe1(l:PLq)(hl:l.length<=1000000000):jb8 l=some (i (chk l),[]):=by
 have hk1:∀p,Ra0 p=some (b (!okp p),[]):=λp=>by unfold Ra0;rw[yf9,yf8];rfl
 have hp1:∀p,jb6 p=!okp p:=λp=>by unfold jb6;rw[hk1];rfl
 have hg1:∀p,jb7 p=true:=λp=>by unfold jb7;rw[hk1];rfl
 have h:=sb5 (step:=O2 ⟨l,(l.length:Int)⟩) (mk:=λj=>(⟨(j:Int)⟩:r5)) (c:=λp=>!okp p) (u:=1) (fin:=2) tP l hl
  (λj hj=>by
   simp only[O2,L8,Int.toNat_natCast,hp1,hg1,u7 hj (by omega)]
   rw[bt (sc9 hj),bt (g8 hj),f0])
  (by simp only[O2,L8];rw[bf (ec5 (Qig _))]) 0 (Qih _)
 rw[Qib] at h;have e:(l.any λx=>!okp x)=!l.all okp:=by rw[Qin]
 unfold jb8 oa5 H4 va9 M7 chk;simp only[i6,l4];rw[show (⟨0⟩:r5)=⟨((0:Nat):Int)⟩ from rfl,h,e]
 by_cases hn:(l.length:Int)>48
 ·rw[bt (decide_eq_true hn),if_pos hn]
 ·rw[bf (decide_eq_false hn),if_neg hn];cases l.all okp with
  |true=>rfl
  |false =>
   simp only[Qiae,if_true,Qic];show sl true (sl (Nat.beq 1 1) (sl (decide (((l.findIdx λp=>!okp p:Nat):Int)>=0)) _ _) _) _=_
   rw[show decide (((l.findIdx λp=>!okp p:Nat):Int)>=0)=true from decide_eq_true (by omega)]
   rfl
theorem Ac7(l:PLq)(hl:l.length<=1000000000):da2 l=chk l:=by unfold da2;rw[pe1 l hl];rfl
theorem qd6(l:PLq)(hl:l.length<=1000000000):Ga5 l=true:=by unfold Ga5;rw[pe1 l hl];rfl
theorem Qd3(l:PLq)(hl:l.length<=1000000000):tb7 l=some (i (chk l),[]):=by
 have h:=Jc9 (step:=Qa1 ⟨l⟩) (mk:=λj=>(⟨(j:Int)⟩:la2)) (c:=λp=>!okp p) (u:=1) (fin:=2) tP l hl
  (λj hj=>by
   simp only[Qa1,Ja1,Int.toNat_natCast,if2,if3,u7 hj (by omega)]
   rw[bt (sc9 hj),bt (g8 hj),f0])
  (by simp only[Qa1,Ja1];rw[bf (ec5 (Qig _))]) 0 (Qih _)
 rw[Qib] at h;have e:(l.any λx=>!okp x)=!l.all okp:=by rw[Qin]
 unfold tb7 chk;simp only[i6,l4];rw[show (⟨0⟩:la2)=⟨((0:Nat):Int)⟩ from rfl,h,e]
 by_cases hn:(l.length:Int)>48
 ·rw[bt (decide_eq_true hn),if_pos hn]
 ·rw[bf (decide_eq_false hn),if_neg hn];cases l.all okp<;>rfl
theorem if4(l:PLq)(hl:l.length<=1000000000):Qb1 l=chk l:=by unfold Qb1;rw[Qd3 l hl];rfl
theorem if5(l:PLq)(hl:l.length<=1000000000):Qb2 l=true:=by unfold Qb2;rw[Qd3 l hl];rfl
theorem ab9{l:PLq}:chk l=0↔l.length<=48/\∀p∈l,okp p=true:=by
 unfold chk;by_cases hn:(l.length:Int)>48
 ·rw[if_pos hn];exact⟨λh=>absurd h (by decide),λh=>by omega⟩
 ·rw[if_neg hn];cases h:l.all okp with
  |true=>exact⟨λ_=>⟨by omega,Qiap.1 h⟩,λ_=>rfl⟩
  |false=>exact⟨λh=>absurd h (by decide),λh'=>by rw[Qiap.2 h'.2] at h;cases h⟩
theorem btD{p:Prop}{inst:Decidable p}(h:p){α:Type}(t e:α):sl (@decide p inst) t e=t:=bt (decide_eq_true h) t e
theorem bfD{p:Prop}{inst:Decidable p}(h:¬ p){α:Type}(t e:α):sl (@decide p inst) t e=e:=bf (decide_eq_false h) t e
theorem n7{j n:Nat}(h:j<n):(j:Int)<(n:Int):=Qiak.2 h
theorem B8{j n:Nat}(h:¬ j<n):¬ (j:Int)<(n:Int):=λh'=>h (Qiak.1 h')
theorem Ka8{σ τ α:Type}{step:σ->Stp σ}{mk:Nat->τ->σ}{f:α->List α->τ->τ}{g:List α->τ->τ}{fin:τ->Nat}(l:List α)(I:Nat->τ->Prop)(hl:l.length<=1000000000)
  (g0:∀a,g [] a=a) (g1:∀x r a,g (x::r) a=g r (f x r a))
  (h:∀j a (hj:j<l.length),I j a->step (mk j a)=.next (mk (j+1) (f l[j] (l.drop (j+1)) a))/\I (j+1) (f l[j] (l.drop (j+1)) a))
  (hf:∀j a,l.length<=j->I j a->step (mk j a)=.exit (fin a)) (j0:Nat) (a:τ) (hi:I j0 a) :
  lp step (mk j0 a)=(fin (g (l.drop j0) a),mk (max j0 l.length) (g (l.drop j0) a))/\I (max j0 l.length) (g (l.drop j0) a):=by
 have key:=tc0 (step:=step) (I:=λm s=>∃j b,m=l.length-j/\max j l.length=max j0 l.length/\s=mk j b/\I j b/\g (l.drop j) b=g (l.drop j0) a)
  (Q:=λu s=>u=fin (g (l.drop j0) a)/\s=mk (max j0 l.length) (g (l.drop j0) a)/\I (max j0 l.length) (g (l.drop j0) a)) (λm s ⟨j,b,hm,hj,hs,hb,he⟩=>by
   subst hs;by_cases hlt:j<l.length
   ·obtain⟨h1,h2⟩:=h j b hlt hb;refine .inr ⟨_,l.length-(j+1),by omega,h1,j+1,_,rfl,by omega,rfl,h2,?_⟩
    rw[<- he,Qid hlt,g1]
   ·have hd:l.drop j=[]:=Qir (by omega)
    rw[hd,g0] at he;have hj':j=max j0 l.length:=by omega
    subst he;rw[<- hj'];exact .inl ⟨_,hf j _ (by omega) hb,rfl,rfl,hb⟩) (l.length-j0) (mk j0 a) (by omega) ⟨j0,a,rfl,rfl,rfl,hi,rfl⟩
 exact⟨Prod.ext key.1 key.2.1,key.2.2⟩
def Sa0(r:PLq)(p q:Pln)(out:List Pt)(s:Pln):List Pt :=
 if (mpt p q s).2&&(!tc1 out (mpt p q s).1&&inn r (mpt p q s).1) then out++[(mpt p q s).1] else out
def zb2(r:PLq)(p q:Pln)(l:PLq)(out:List Pt):List Pt:=l.foldl (Sa0 r p q) out
def kb8(r:PLq)(p:Pln):PLq->List Pt->List Pt
 |[],out=>out
 |q::l,out=>kb8 r p l (zb2 r p q l out)
def Sc4(r:PLq):PLq->List Pt->List Pt
 |[],out=>out
 |p::l,out=>Sc4 r l (kb8 r p l out)
def cor(r:PLq):List Pt:=Sc4 r r []
def Bds(r:PLq):Prop:=∀p∈r,Bd p
theorem bd0(r:PLq)(p q:Pln)(out:List Pt)(s:Pln):(Sa0 r p q out s).length<=out.length+1:=by
 unfold Sa0;split
 ·simp
 ·omega
theorem Sc5(r:PLq)(p q:Pln):∀(l:PLq) (out:List Pt),(zb2 r p q l out).length<=out.length+l.length
 |[],out=>Qil _
 |s::l,out=>by
  have h1:=bd0 r p q out s;have h2:=Sc5 r p q l (Sa0 r p q out s);show (zb2 r p q l (Sa0 r p q out s)).length<=_;simp only[List.length_cons];omega
theorem Ad1(r:PLq)(p:Pln):∀(l:PLq) (out:List Pt),l.length<=200->(kb8 r p l out).length<=out.length+200*l.length
 |[],out,_=>by simp[kb8]
 |q::l,out,h=>by
  simp only[List.length_cons] at h ⊢;have h1:=Sc5 r p q l out;have h2:=Ad1 r p l (zb2 r p q l out) (by omega)
  show (kb8 r p l (zb2 r p q l out)).length<=_;omega
theorem pe2(r:PLq):∀(l:PLq) (out:List Pt),l.length<=200->(Sc4 r l out).length<=out.length+40000*l.length
 |[],out,_=>by simp[Sc4]
 |p::l,out,h=>by
  simp only[List.length_cons] at h ⊢;have h1:=Ad1 r p l out (by omega)
  have h2:=pe2 r l (kb8 r p l out) (by omega)
  show (Sc4 r l (kb8 r p l out)).length<=_;omega
theorem ae5(r:PLq)(_:Bds r)(hr:r.length<=200):(cor r).length<=8000000:=by
 have:=pe2 r r [] hr
 rw[List.length_nil] at this;show (Sc4 r r []).length<=_;omega
def ph(out:List Pt):Nat:=match out with
 |[]=>0
 |_::_=>1
theorem pe3(x:Pt):tc1 [] x=false:=rfl
theorem qd7{α:Type}(t:Ty α)(l:List α)(n k:Nat):gL t (l.drop n) k=gL t l (n+k):=by simp[gL,Qie,List.getElem?_drop]
theorem pe4{n:Nat}{l:List Pt}(hn:n=l.length)(h:l.length<=1000000000):(Nat.beq n (len (bL tX l))&&Nat.ble ((n+1)*32) room)=true:=by
 subst hn;rw[ja7,Qiz,Bool.true_and];exact ec6 (by omega)
theorem Je7(l:List Pt)(x:Pt):app (bL tX l) [[i x.px,i x.py,i x.pz,i x.pw]]=bL tX (l++[x]):=ob4 tX l [x]
@[reducible] noncomputable def Bc8(k:Nat)(out:List Pt):A7:=⟨ph out,(k:Int),out.length,bL tX out⟩
theorem Qf0(l:List Pt):slR tX (bL tX l) 0 l.length=l:=Ic5 tX l
theorem zf0(r:PLq)(hb:Bds r)(hr:r.length<=200)(a c k:Nat)(ha:a<r.length)(hc:c<r.length)(out:List Pt)(ho:out.length<=1000000000)(hk:k<r.length) :
  aa0 ⟨r,a,c⟩ (Bc8 k out)=.next (Bc8 (k+1) (Sa0 r r[a] r[c] out r[k])):=by
 have hin:∀x,Wb9 r x=inn r x:=λx=>ng3 r x (by omega)
 have hig:∀x,Xb0 r x=true:=λx=>ng4 r x (by omega)
 have hth:∀x,eb6 out x=tc1 out x:=λx=>yf6 out x ho
 have htg:∀x,eb7 out x=true:=λx=>yf7 out x ho
 have hme:=yf3 (hb _ (Qik ha)) (hb _ (Qik hc)) (hb _ (Qik hk));have hmg:=yf4 (hb _ (Qik ha)) (hb _ (Qik hc)) (hb _ (Qik hk));unfold aa0;cases out with
 |nil =>
  show ca5 Stp.next Stp.exit Stp.fail _ (Bc8 k [])=_;simp only[ca5,Bc8,Int.toNat_natCast,i6,A5,Ya0 tP ha,Ya0 tP hc,Ya0 tP hk,hme,hmg,hin,hig,hth,htg,u7 hk (by omega)]
  rw[btD (n7 hk),bt (g8 ha),bt (g8 hc),bt (g8 hk),f0];unfold Sa0;rw[pe3];cases (mpt r[a] r[c] r[k]).2 with
  |false=>rfl
  |true =>
   cases inn r (mpt r[a] r[c] r[k]).1 with
   |false=>rfl
   |true=>rfl
 |cons o os =>
  show ca6 Stp.next Stp.exit Stp.fail _ (Bc8 k (o::os))=_;simp only[ca6,Bc8,Int.toNat_natCast,i6,A5,Ya0 tP ha,Ya0 tP hc,Ya0 tP hk,hme,hmg,hin,hig,Qf0,Ic6,hth,htg,u7 hk (by omega)]
  rw[btD (n7 hk),bt (g8 ha),bt (g8 hc),bt (g8 hk),f0,pe4 rfl ho,Je7];unfold Sa0;cases (mpt r[a] r[c] r[k]).2 with
  |false=>rfl
  |true =>
   cases inn r (mpt r[a] r[c] r[k]).1 with
   |false=>cases tc1 (o::os) (mpt r[a] r[c] r[k]).1<;>rfl
   |true =>
    cases tc1 (o::os) (mpt r[a] r[c] r[k]).1 with
    |true=>rfl
    |false =>
     show Stp.next (⟨1,((k+1:Nat):Int),(o::os).length+1,bL tX (o::os++[(mpt r[a] r[c] r[k]).1])⟩:A7)=_;simp[ph]
theorem Qf1(r:PLq)(a c k:Nat)(out:List Pt)(hk:r.length<=k):aa0 ⟨r,a,c⟩ (Bc8 k out)=.exit (ph out+1):=by
 unfold aa0;have this:¬ ((k:Int)<(r.length:Int)):=by omega
 cases out with
 |nil =>
  show ca5 Stp.next Stp.exit Stp.fail _ (Bc8 k [])=_;simp only[ca5,Bc8];rw[bfD this];rfl
 |cons o os =>
  show ca6 Stp.next Stp.exit Stp.fail _ (Bc8 k (o::os))=_;simp only[ca6,Bc8];rw[bfD this];rfl
theorem zf1(r:PLq)(hb:Bds r)(hr:r.length<=200)(a c:Nat)(ha:a<r.length)(hc:c<r.length)(k:Nat)(out:List Pt)(ho:out.length<=100000000) :
  ∃m,lp (aa0 ⟨r,a,c⟩) (Bc8 k out)=(ph (zb2 r r[a] r[c] (r.drop k) out)+1,Bc8 m (zb2 r r[a] r[c] (r.drop k) out)) :=
 ⟨_,(Ka8 (mk:=Bc8) (f:=λs _ out=>Sa0 r r[a] r[c] out s) (g:=λl out=>zb2 r r[a] r[c] l out) (fin:=λout=>ph out+1) r (λj o=>o.length+k<=out.length+j) (by omega)
  (λ_=>rfl) (λ_ _ _=>rfl) (λj o hj hi=>⟨zf0 r hb hr a c j ha hc o (by omega) hj,by have:=bd0 r r[a] r[c] o r[j];show (Sa0 r r[a] r[c] o r[j]).length+k<=out.length+(j+1);omega⟩)
  (λj o hj _=>Qf1 r a c j o hj) k out (by omega)).1⟩
@[reducible] noncomputable def Bc9(r:PLq)(j:Nat)(out:List Pt):C7:=⟨ph out,r,(j:Int),out.length,bL tX out⟩
theorem zf2(r:PLq)(hb:Bds r)(hr:r.length<=200)(a j:Nat)(ha:a<r.length)(out:List Pt)(ho:out.length<=100000000)(hj:j<r.length) :
  T4 ⟨a⟩ (Bc9 r j out)=.next (Bc9 r (j+1) (zb2 r r[a] r[j] (r.drop (j+1)) out)):=by
 obtain⟨m,hm⟩:=zf1 r hb hr a j ha hj (j+1) out ho;unfold T4;generalize zb2 r r[a] r[j] (r.drop (j+1)) out=res at *
 cases out with
 |nil =>
  show ca7 Stp.next Stp.exit Stp.fail _ (Bc9 r j [])=_;simp only[ca7,Bc9,i6,l4,u7 hj (by omega)]
  rw[show (⟨0,((j+1:Nat):Int),0,[]⟩:A7)=Bc8 (j+1) [] from rfl,hm,btD (n7 hj)]
  cases res<;>rfl
 |cons o os =>
  show ca8 Stp.next Stp.exit Stp.fail _ (Bc9 r j (o::os))=_;simp only[ca8,Bc9,i6,l4,u7 hj (by omega)]
  rw[show (⟨1,((j+1:Nat):Int),(o::os).length,bL tX (o::os)⟩:A7)=Bc8 (j+1) (o::os) from rfl,hm,btD (n7 hj)]
  cases res<;>rfl
theorem Qf2(r:PLq)(a j:Nat)(out:List Pt)(hj:r.length<=j):T4 ⟨a⟩ (Bc9 r j out)=.exit (ph out+1):=by
 unfold T4;have this:¬ ((j:Int)<(r.length:Int)):=by omega
 cases out with
 |nil =>
  show ca7 Stp.next Stp.exit Stp.fail _ (Bc9 r j [])=_;simp only[ca7,Bc9];rw[bfD this];rfl
 |cons o os =>
  show ca8 Stp.next Stp.exit Stp.fail _ (Bc9 r j (o::os))=_;simp only[ca8,Bc9];rw[bfD this];rfl
theorem zf3(r:PLq)(hb:Bds r)(hr:r.length<=200)(a:Nat)(ha:a<r.length)(j:Nat)(out:List Pt)(ho:out.length<=40000*a) :
  ∃m,lp (T4 ⟨a⟩) (Bc9 r j out)=(ph (kb8 r r[a] (r.drop j) out)+1,Bc9 r m (kb8 r r[a] (r.drop j) out))/\(kb8 r r[a] (r.drop j) out).length<=40000*(a+1):=by
 have hk:=Ka8 (step:=T4 ⟨a⟩) (mk:=Bc9 r) (f:=λq l out=>zb2 r r[a] q l out) (g:=λl out=>kb8 r r[a] l out) (fin:=λout=>ph out+1) r (λk o=>o.length<=40000*a+200*(k-j)/\j<=k/\k<=j+r.length) (by omega)
  (λ_=>rfl) (λ_ _ _=>rfl) (λk o hj hi=>⟨zf2 r hb hr a k ha o (by omega) hj,by
   have:=Sc5 r r[a] r[k] (r.drop (k+1)) o
   rw[Qij] at this;show (zb2 r r[a] r[k] (r.drop (k+1)) o).length<=40000*a+200*(k+1-j)/\j<=k+1/\k+1<=j+r.length
   omega⟩)
  (λk o hj _=>Qf2 r a k o hj) j out (by omega)
 exact⟨_,hk.1,by have:=hk.2;omega⟩
@[reducible] noncomputable def Kc0(r:PLq)(j:Nat)(out:List Pt):G8:=⟨ph out,r,(j:Int),out.length,bL tX out⟩
theorem Je8(r:PLq)(hb:Bds r)(hr:r.length<=200)(a:Nat)(ha:a<r.length)(out:List Pt)(ho:out.length<=40000*a) :
  aa1 ⟨⟩ (Kc0 r a out)=.next (Kc0 r (a+1) (kb8 r r[a] (r.drop (a+1)) out))/\(kb8 r r[a] (r.drop (a+1)) out).length<=40000*(a+1):=by
 obtain⟨m,hm,hl⟩:=zf3 r hb hr a ha (a+1) out ho;refine⟨?_,hl⟩
 clear hl
 unfold aa1;generalize kb8 r r[a] (r.drop (a+1)) out=res at *
 cases out with
 |nil =>
  show ca9 Stp.next Stp.exit Stp.fail _ (Kc0 r a [])=_;simp only[ca9,Kc0,i6,l4,u7 ha (by omega)]
  rw[show (⟨0,r,((a+1:Nat):Int),0,[]⟩:C7)=Bc9 r (a+1) [] from rfl,hm,btD (n7 ha)]
  cases res<;>rfl
 |cons o os =>
  show da0 Stp.next Stp.exit Stp.fail _ (Kc0 r a (o::os))=_;simp only[da0,Kc0,i6,l4,u7 ha (by omega)]
  rw[show (⟨1,r,((a+1:Nat):Int),(o::os).length,bL tX (o::os)⟩:C7)=Bc9 r (a+1) (o::os) from rfl,hm,btD (n7 ha)]
  cases res<;>rfl
theorem Qf3(r:PLq)(j:Nat)(out:List Pt)(hj:r.length<=j):aa1 ⟨⟩ (Kc0 r j out)=.exit (ph out+1):=by
 unfold aa1;have this:¬ ((j:Int)<(r.length:Int)):=by omega
 cases out with
 |nil =>
  show ca9 Stp.next Stp.exit Stp.fail _ (Kc0 r j [])=_;simp only[ca9,Kc0];rw[bfD this];rfl
 |cons o os =>
  show da0 Stp.next Stp.exit Stp.fail _ (Kc0 r j (o::os))=_;simp only[da0,Kc0];rw[bfD this];rfl
theorem zf5(r:PLq)(hb:Bds r)(hr:r.length<=200):∃m,lp (aa1 ⟨⟩) (Kc0 r 0 [])=(ph (cor r)+1,Kc0 r m (cor r))/\(cor r).length<=8000000:=by
 have hk:=Ka8 (step:=aa1 ⟨⟩) (mk:=Kc0 r) (f:=λq l out=>kb8 r q l out) (g:=λl out=>Sc4 r l out) (fin:=λout=>ph out+1) r (λk o=>o.length<=40000*k/\k<=r.length) (by omega)
  (λ_=>rfl) (λ_ _ _=>rfl) (λk o hj hi=>⟨(Je8 r hb hr k hj o hi.1).1,(Je8 r hb hr k hj o hi.1).2,hj⟩)
  (λk o hj _=>Qf3 r k o hj) 0 [] (by simp)
 exact⟨_,hk.1,by have:=hk.2;rw[show max 0 r.length=r.length by omega] at this;have h1:=this.1;show (Sc4 r r []).length<=_;rw[Qib] at h1;omega⟩
def slX(l:List Pt):c7×List c8:=match l with
 |[]=>(.v (.slice none 0 0),[])
 |_::_=>(.sl 0 0 l.length 0,[⟨114,4,bL tX l,true,false,0⟩])
theorem ae6(l:List Pt):(one (r1L tX)).rd (slX l)=some l:=by
 cases l with
 |nil=>rfl
 |cons x l =>
  show Bool.rec (motive:=λ_=>Option (List Pt)) none (some (slR tX (bL tX (x::l)) 0 (x::l).length)) (Bool.and true (okS tX (bL tX (x::l)) 0 (x::l).length))=_
  rw[Ic5,Ic6];rfl
theorem id6(r:PLq)(hb:Bds r)(hr:r.length<=200):Za6 r=some (slX (cor r)):=by
 obtain⟨m,hm,_⟩:=zf5 r hb hr;unfold Za6;simp only[i6,l4];rw[show (⟨0,r,0,0,[]⟩:G8)=Kc0 r 0 [] from rfl,hm]
 cases cor r<;>rfl
theorem fb2{ρ:Type}(R:RR ρ){x:c7×List c8}{r:ρ}(h:R.rd x=some r):ba8 R (some x)=r:=by
 show Option.rec (motive:=λ_=>ρ) R.d (λx=>x) (R.rd x)=r
 rw[h]
theorem vb4{ρ:Type}(R:RR ρ){x:c7×List c8}{r:ρ}(h:R.rd x=some r):okO R (some x)=true:=by
 show Option.rec (motive:=λ_=>Bool) false (λ_=>true) (R.rd x)=true
 rw[h]
theorem De2(r:PLq)(hb:Bds r)(hr:r.length<=200):rb8 r=cor r:=by unfold rb8;rw[id6 r hb hr];exact fb2 _ (ae6 _)
theorem De3(r:PLq)(hb:Bds r)(hr:r.length<=200):rb9 r=true:=by unfold rb9;rw[id6 r hb hr];exact vb4 _ (ae6 _)
def Id7(x:Pt):List c7:=[i x.px,i x.py,i x.pz,i x.pw,b true]
def jc8(l:List Pt):List (List c7):=l.map Id7
@[reducible] noncomputable def flK:List (Nat×CK):=[(0,.int .i64),(1,.int .i64),(2,.int .i64),(3,.int .i64)]
theorem pe5(x q:Pt):Bc2 flK [i x.px,i x.py,i x.pz,i x.pw] (Id7 q)=eqX x q:=by
 show Bool.and (decide (x.px=q.px)) (Bool.and (decide (x.py=q.py)) (Bool.and (decide (x.pz=q.pz)) (Bool.and (decide (x.pw=q.pw)) true)))=_;unfold eqX;have h:∀a c:Int,decide (a=c)=(c==a):=λa c=>by rw[Bool.eq_iff_iff,decide_eq_true_eq,beq_iff_eq];exact eq_comm
 rw[h,h,h,h]
theorem Ad2(x:Pt):∀l,Mc9 4 flK [i x.px,i x.py,i x.pz,i x.pw] (jc8 l)=tc1 l x
 |[]=>rfl
 |q::l=>by
  have ih:=Ad2 x l;unfold Mc9 at ih ⊢;show Option.rec (motive:=λ_=>Bool) false (λr=>toB (hdA (j7 r 4))) (Bool.rec (motive:=λ_=>Option (List c7)) (ed6 flK [i x.px,i x.py,i x.pz,i x.pw] (jc8 l)) (some (Id7 q)) (Bc2 flK [i x.px,i x.py,i x.pz,i x.pw] (Id7 q)))=tc1 (q::l) x
  rw[pe5];unfold tc1 at ih ⊢;rw[List.any_cons];cases eqX x q with
  |true=>rfl
  |false=>exact ih
theorem Qd4(x:Pt):∀l,tc1 l x=false->Rb5 flK [i x.px,i x.py,i x.pz,i x.pw] (Id7 x) (jc8 l)=jc8 (l++[x])
 |[],_=>rfl
 |q::l,h=>by
  unfold tc1 at h;rw[List.any_cons,Bool.or_eq_false_iff] at h;show Bool.rec (motive:=λ_=>List (List c7)) (Id7 q::Rb5 flK [i x.px,i x.py,i x.pz,i x.pw] (Id7 x) (jc8 l)) (Id7 x::jc8 l) (Bc2 flK [i x.px,i x.py,i x.pz,i x.pw] (Id7 q))=_
  rw[pe5,h.1,Qd4 x l h.2];rfl
@[reducible] noncomputable def Cc0(k:Nat)(out:List Pt):k8:=⟨ph out,(k:Int),out.length,bL tX out,jc8 out⟩
structure C2(P:j9)(r:PLq)(p q:Pln)(lo:Nat):Prop where
 ns:P.qf7=(r.drop lo).length
 gs:P.qf8=λk=>tP.row (gL tP r (lo+k))
 is:P.Dc5=((r.drop lo).length:Int)
 p1:(⟨⟨P.Ia2,P.Ia3,P.Ia4⟩,P.Ia5⟩:Pln)=p
 q1:(⟨⟨P.hc3,P.W7,P.hc5⟩,P.Wc0⟩:Pln)=q
 r1:P.Wa2=r
theorem ae7(s:Pln):(⟨⟨toI (hdA (tP.row s)),toI (hdA (tlA (tP.row s))),toI (hdA (tlA (tlA (tP.row s))))⟩,toI (hdA (tlA (tlA (tlA (tP.row s)))))⟩:Pln)=s:=rfl
theorem ae8(s:Pln):((Nat.ble 4 (len (tP.row s)))&&(Na9 [CK.int .i64,CK.int .i64,CK.int .i64,CK.int .i64] (tP.row s)))=true:=rfl
theorem zf6{P:j9}{r:PLq}{p q:Pln}{lo:Nat}(h:C2 P r p q lo)(hb:Bds r)(hr:r.length<=200)(hp:Bd p)(hq:Bd q)(k:Nat)(out:List Pt)(ho:out.length<=1000000000)(hk:k<(r.drop lo).length) :
  D4 P (Cc0 k out)=.next (Cc0 (k+1) (Sa0 r p q out (r.drop lo)[k])):=by
 have hwi:∀x,Ma0 r x=inn r x:=λx=>hf8 r x (by omega)
 have hwg:∀x,Ma1 r x=true:=λx=>hf9 r x (by omega)
 have hs:gL tP r (lo+k)=(r.drop lo)[k]:=by rw[<- qd7,Ya0 tP hk]
 have hbs:Bd (r.drop lo)[k]:=hb _ (List.mem_of_mem_drop (Qik hk));have hd:(r.drop lo).length<=200:=by rw[Qij];omega
 have hme:=Pf6 hp hq hbs;have hmg:=Pf7 hp hq hbs;obtain⟨x1,x2,x3,x4,x5,x6,x7,x8,x9,x10,x11,x12,x13,x14,x15,x16,x17,x18,x19,x20,x21⟩:=P;obtain⟨ns,gs,is,p1,q1,r1⟩:=h
 simp only at ns gs is p1 q1 r1
 have r1:=r1.symm;subst ns gs is r1;unfold D4;cases out with
 |nil =>
  show F9 Stp.next Stp.exit Stp.fail _ (Cc0 k [])=_;simp only[F9,Cc0,Int.toNat_natCast,i6,A5,p1,q1,hs,ae7,ae8,hme,hmg,hwi,hwg,u7 hk (by omega)]
  rw[btD (n7 hk),bt (g8 hk),f0,f0];unfold Sa0;rw[pe3];cases (mpt p q (r.drop lo)[k]).2 with
  |false=>rfl
  |true =>
   cases inn r (mpt p q (r.drop lo)[k]).1 with
   |false=>rfl
   |true=>rfl
 |cons o os =>
  show G0 Stp.next Stp.exit Stp.fail _ (Cc0 k (o::os))=_;simp only[G0,Cc0,Int.toNat_natCast,i6,A5,p1,q1,hs,ae7,ae8,hme,hmg,hwi,hwg,u7 hk (by omega),Ad2]
  rw[btD (n7 hk),bt (g8 hk),f0,f0,pe4 rfl ho,Je7];unfold Sa0;cases (mpt p q (r.drop lo)[k]).2 with
  |false=>rfl
  |true =>
   cases hx:tc1 (o::os) (mpt p q (r.drop lo)[k]).1 with
   |true=>rfl
   |false =>
    cases inn r (mpt p q (r.drop lo)[k]).1 with
    |false=>rfl
    |true =>
     show Stp.next (⟨1,((k+1:Nat):Int),(o::os).length+1,bL tX (o::os++[(mpt p q (r.drop lo)[k]).1]),Rb5 flK [i (mpt p q (r.drop lo)[k]).1.px,i (mpt p q (r.drop lo)[k]).1.py,i (mpt p q (r.drop lo)[k]).1.pz,i (mpt p q (r.drop lo)[k]).1.pw] (Id7 (mpt p q (r.drop lo)[k]).1) (jc8 (o::os))⟩:k8)=_;rw[Qd4 _ _ hx];simp[ph]
theorem Qf4{P:j9}{r:PLq}{p q:Pln}{lo:Nat}(h:C2 P r p q lo)(k:Nat)(out:List Pt)(hk:(r.drop lo).length<=k):D4 P (Cc0 k out)=.exit (ph out+1):=by
 obtain⟨x1,x2,x3,x4,x5,x6,x7,x8,x9,x10,x11,x12,x13,x14,x15,x16,x17,x18,x19,x20,x21⟩:=P;obtain⟨ns,gs,is,p1,q1,r1⟩:=h
 simp only at ns gs is p1 q1 r1
 have r1:=r1.symm;subst ns gs is r1;unfold D4;have this:¬ ((k:Int)<((r.drop lo).length:Int)):=by omega
 cases out with
 |nil =>
  show F9 Stp.next Stp.exit Stp.fail _ (Cc0 k [])=_;simp only[F9,Cc0];rw[bfD this];rfl
 |cons o os =>
  show G0 Stp.next Stp.exit Stp.fail _ (Cc0 k (o::os))=_;simp only[G0,Cc0];rw[bfD this];rfl
theorem zf7{P:j9}{r:PLq}{p q:Pln}{lo:Nat}(h:C2 P r p q lo)(hb:Bds r)(hr:r.length<=200)(hp:Bd p)(hq:Bd q)(out:List Pt)(ho:out.length<=100000000) :
  ∃m,lp (D4 P) (Cc0 0 out)=(ph (zb2 r p q (r.drop lo) out)+1,Cc0 m (zb2 r p q (r.drop lo) out)):=by
 have hd:(r.drop lo).length<=200:=by rw[Qij];omega
 exact⟨_,(Ka8 (mk:=Cc0) (f:=λs _ out=>Sa0 r p q out s) (g:=λl out=>zb2 r p q l out) (fin:=λout=>ph out+1) (r.drop lo) (λj o=>o.length<=out.length+j) (by omega)
  (λ_=>rfl) (λ_ _ _=>rfl) (λj o hj hi=>⟨zf6 h hb hr hp hq j o (by omega) hj,by have:=bd0 r p q o (r.drop lo)[j];show (Sa0 r p q o (r.drop lo)[j]).length<=out.length+(j+1);omega⟩)
  (λj o hj _=>Qf4 h j o hj) 0 out (by omega)).1⟩
@[reducible] noncomputable def Cc1(r:PLq)(j:Nat)(out:List Pt):l7:=⟨ph out,r,(j:Int),r,r,out.length,bL tX out,jc8 out⟩
structure C1(P:k9)(r:PLq)(p:Pln)(a:Nat):Prop where
 i3:P.is3=(a:Int)
 ns:P.Kd4=(r.drop (a+1)).length
 gs:P.Kd5=λk=>tP.row (gL tP r (a+1+k))
 is:P.od5=((r.drop (a+1)).length:Int)
 p1:(⟨⟨P.Ia2,P.Ia3,P.Ia4⟩,P.Ia5⟩:Pln)=p
theorem zf8{P:k9}{r:PLq}{p:Pln}{a:Nat}(h:C1 P r p a)(hb:Bds r)(hr:r.length<=200)(hp:Bd p)(j:Nat)(out:List Pt)(ho:out.length<=100000000)(hj:j<(r.drop (a+1)).length) :
  D5 P (Cc1 r j out)=.next (Cc1 r (j+1) (zb2 r p (r.drop (a+1))[j] ((r.drop (a+1)).drop (j+1)) out)):=by
 have hs:gL tP r (a+1+j)=(r.drop (a+1))[j]:=by rw[<- qd7,Ya0 tP hj]
 have hbs:Bd (r.drop (a+1))[j]:=hb _ (List.mem_of_mem_drop (Qik hj));have hd:=hj;rw[Qij] at hd;have hW:W (W ((a:Int)+(j:Int))+2)=((a+1+(j+1):Nat):Int):=by rw[sc8,Ka7 (by omega) (by omega)];omega
 have hdl:(r.drop (a+1)).length<=4611686018427387904:=by rw[Qij];omega
 have hlo:inB ((a+1+(j+1):Nat):Int) (r.length+1)=true:=g8 (by omega)
 rw[Qiar];generalize hq:(r.drop (a+1))[j]=q at *
 obtain⟨x1,x2,x3,x4,x5,x6,x7,x8,x9,x10⟩:=P;obtain⟨i3,ns,gs,is,p1⟩:=h
 simp only at i3 ns gs is p1
 subst i3 ns gs is;unfold D5;have key:∀(P2:j9),C2 P2 r p q (a+1+(j+1))->_:=λP2 h2=>zf7 h2 hb hr hp hbs out ho
 cases out with
 |nil =>
  show G1 Stp.next Stp.exit Stp.fail _ (Cc1 r j [])=_;simp only[G1,Cc1,i6,l4,u7 hj hdl,hW,Int.toNat_natCast,hs,ae8,hlo];rw[show (⟨0,0,0,[],[]⟩:k8)=Cc0 0 [] from rfl]
  generalize hP:j9.mk _ _ _ _ _ _ _ _ _ _ _ _ _ _ _ _ _ _ _ _ _=P2;obtain⟨m,hm⟩:=key P2 (by
   subst hP;exact⟨by simp,rfl,by simp,p1,ae7 q,rfl⟩)
  rw[hm,btD (n7 hj),bt (g8 hj)];cases zb2 r p q (r.drop (a+1+(j+1))) []<;>rfl
 |cons o os =>
  show G2 Stp.next Stp.exit Stp.fail _ (Cc1 r j (o::os))=_;simp only[G2,Cc1,i6,l4,u7 hj hdl,hW,Int.toNat_natCast,hs,ae8,hlo];rw[show (⟨1,0,(o::os).length,bL tX (o::os),jc8 (o::os)⟩:k8)=Cc0 0 (o::os) from rfl]
  generalize hP:j9.mk _ _ _ _ _ _ _ _ _ _ _ _ _ _ _ _ _ _ _ _ _=P2;obtain⟨m,hm⟩:=key P2 (by
   subst hP;exact⟨by simp,rfl,by simp,p1,ae7 q,rfl⟩)
  rw[hm,btD (n7 hj),bt (g8 hj)];cases zb2 r p q (r.drop (a+1+(j+1))) (o::os)<;>rfl
theorem Qf5{P:k9}{r:PLq}{p:Pln}{a:Nat}(h:C1 P r p a)(j:Nat)(out:List Pt)(hj:(r.drop (a+1)).length<=j):D5 P (Cc1 r j out)=.exit (ph out+1):=by
 obtain⟨x1,x2,x3,x4,x5,x6,x7,x8,x9,x10⟩:=P;obtain⟨i3,ns,gs,is,p1⟩:=h
 simp only at i3 ns gs is p1
 subst i3 ns gs is;unfold D5;have this:¬ ((j:Int)<((r.drop (a+1)).length:Int)):=by omega
 cases out with
 |nil =>
  show G1 Stp.next Stp.exit Stp.fail _ (Cc1 r j [])=_;simp only[G1,Cc1];rw[bfD this];rfl
 |cons o os =>
  show G2 Stp.next Stp.exit Stp.fail _ (Cc1 r j (o::os))=_;simp only[G2,Cc1];rw[bfD this];rfl
theorem zf9{P:k9}{r:PLq}{p:Pln}{a:Nat}(h:C1 P r p a)(hb:Bds r)(hr:r.length<=200)(hp:Bd p)(out:List Pt)(ho:out.length<=10000000) :
  ∃m,lp (D5 P) (Cc1 r 0 out)=(ph (kb8 r p (r.drop (a+1)) out)+1,Cc1 r m (kb8 r p (r.drop (a+1)) out)):=by
 have hd:(r.drop (a+1)).length<=200:=by rw[Qij];omega
 exact⟨_,(Ka8 (mk:=Cc1 r) (f:=λq l out=>zb2 r p q l out) (g:=λl out=>kb8 r p l out) (fin:=λout=>ph out+1) (r.drop (a+1)) (λk o=>o.length<=out.length+200*k) (by omega)
  (λ_=>rfl) (λ_ _ _=>rfl) (λk o hj hi=>⟨zf8 h hb hr hp k o (by omega) hj,by
   have:=Sc5 r p (r.drop (a+1))[k] ((r.drop (a+1)).drop (k+1)) o
   rw[Qij] at this;show (zb2 r p (r.drop (a+1))[k] ((r.drop (a+1)).drop (k+1)) o).length<=out.length+200*(k+1)
   omega⟩)
  (λk o hj _=>Qf5 h k o hj) 0 out (by omega)).1⟩
@[reducible] noncomputable def Kc1(r:PLq)(j:Nat)(out:List Pt):o3:=⟨ph out,r,(j:Int),r,r,out.length,bL tX out,jc8 out⟩
theorem Af0{P:w7}(r:PLq)(h:P.K3=(r.length:Int))(hb:Bds r)(hr:r.length<=200)(a:Nat)(ha:a<r.length)(out:List Pt)(ho:out.length<=40000*a) :
  D6 P (Kc1 r a out)=.next (Kc1 r (a+1) (kb8 r r[a] (r.drop (a+1)) out)):=by
 have hbs:Bd r[a]:=hb _ (Qik ha);have hlo:inB ((a+1:Nat):Int) (r.length+1)=true:=g8 (by omega)
 have key:∀(P2:k9),C1 P2 r r[a] a->_:=λP2 h2=>zf9 h2 hb hr hbs out (by omega)
 obtain⟨x1⟩:=P
 simp only at h
 subst h;unfold D6;cases out with
 |nil =>
  show G3 Stp.next Stp.exit Stp.fail _ (Kc1 r a [])=_;simp only[G3,Kc1,i6,l4,u7 ha (by omega),Int.toNat_natCast,hlo,Ya0 tP ha]
  rw[show (⟨0,r,0,r,r,0,[],[]⟩:l7)=Cc1 r 0 [] from rfl]
  generalize hP:k9.mk _ _ _ _ _ _ _ _ _ _=P2;obtain⟨m,hm⟩:=key P2 (by
   subst hP;exact⟨rfl,by simp,rfl,by simp,rfl⟩)
  rw[hm,btD (n7 ha),bt (g8 ha)];cases kb8 r r[a] (r.drop (a+1)) []<;>rfl
 |cons o os =>
  show G4 Stp.next Stp.exit Stp.fail _ (Kc1 r a (o::os))=_;simp only[G4,Kc1,i6,l4,u7 ha (by omega),Int.toNat_natCast,hlo,Ya0 tP ha]
  rw[show (⟨1,r,0,r,r,(o::os).length,bL tX (o::os),jc8 (o::os)⟩:l7)=Cc1 r 0 (o::os) from rfl]
  generalize hP:k9.mk _ _ _ _ _ _ _ _ _ _=P2;obtain⟨m,hm⟩:=key P2 (by
   subst hP;exact⟨rfl,by simp,rfl,by simp,rfl⟩)
  rw[hm,btD (n7 ha),bt (g8 ha)];cases kb8 r r[a] (r.drop (a+1)) (o::os)<;>rfl
theorem Qf6{P:w7}(r:PLq)(h:P.K3=(r.length:Int))(j:Nat)(out:List Pt)(hj:r.length<=j):D6 P (Kc1 r j out)=.exit (ph out+1):=by
 obtain⟨x1⟩:=P
 simp only at h
 subst h;unfold D6;have this:¬ ((j:Int)<(r.length:Int)):=by omega
 cases out with
 |nil =>
  show G3 Stp.next Stp.exit Stp.fail _ (Kc1 r j [])=_;simp only[G3,Kc1];rw[bfD this];rfl
 |cons o os =>
  show G4 Stp.next Stp.exit Stp.fail _ (Kc1 r j (o::os))=_;simp only[G4,Kc1];rw[bfD this];rfl
theorem Af1(r:PLq)(hb:Bds r)(hr:r.length<=200):∃m,lp (D6 ⟨(r.length:Int)⟩) (Kc1 r 0 [])=(ph (cor r)+1,Kc1 r m (cor r)) :=
 ⟨_,(Ka8 (step:=D6 ⟨(r.length:Int)⟩) (mk:=Kc1 r) (f:=λq l out=>kb8 r q l out) (g:=λl out=>Sc4 r l out) (fin:=λout=>ph out+1) r (λk o=>o.length<=40000*k) (by omega)
  (λ_=>rfl) (λ_ _ _=>rfl) (λk o hj hi=>⟨Af0 r rfl hb hr k hj o hi,by
   have h1:=Ad1 r r[k] (r.drop (k+1)) o (by rw[Qij];omega)
   rw[Qij] at h1;show (kb8 r r[k] (r.drop (k+1)) o).length<=40000*(k+1)
   omega⟩)
  (λk o hj _=>Qf6 r rfl k o hj) 0 [] (by simp)).1⟩
theorem Ad3(r:PLq)(hb:Bds r)(hr:r.length<=200):ia8 r=some (slX (cor r)):=by
 obtain⟨m,hm⟩:=Af1 r hb hr;unfold ia8;simp only[i6,l4];rw[show (⟨0,r,0,r,r,0,[],[]⟩:o3)=Kc1 r 0 [] from rfl,hm]
 cases cor r<;>rfl
theorem Qd5(r:PLq)(hb:Bds r)(hr:r.length<=200):ia9 r=cor r:=by unfold ia9;rw[Ad3 r hb hr];exact fb2 _ (ae6 _)
theorem Qd6(r:PLq)(hb:Bds r)(hr:r.length<=200):ja0 r=true:=by unfold ja0;rw[Ad3 r hb hr];exact vb4 _ (ae6 _)
def slP(l:PLq):c7×List c8:=(.sl 0 0 l.length 0,[⟨66,4,bL tP l,true,false,0⟩])
theorem bd1(l:PLq):(one (r1L tP)).rd (slP l)=some l:=by
 show Bool.rec (motive:=λ_=>Option PLq) none (some (slR tP (bL tP l) 0 l.length)) (Bool.and true (okS tP (bL tP l) 0 l.length))=_
 rw[Ic5,Ic6];rfl
theorem if6{α:Type}(t:Ty α)(l:List α):(one (r1L t)).rd (eL t l,[])=some l:=by
 show Bool.rec (motive:=λ_=>Option (List α)) none (some (rt t l)) (Bool.and (Nat.beq t.es t.es) (okE t l))=_
 rw[i6,A5,Qiz];rfl
def ws:PLq:=[⟨⟨1,0,0⟩,24⟩,⟨⟨-1,0,0⟩,24⟩,⟨⟨0,1,0⟩,24⟩,⟨⟨0,-1,0⟩,24⟩,⟨⟨0,0,1⟩,24⟩,⟨⟨0,0,-1⟩,24⟩]
theorem Jf0:Bds ws:=by
 intro p hp
 have:okp p=true:=by
  have h:ws.all okp=true:=by decide
  exact Qiap.1 h p hp
 exact ad8 this
def Af2(lo hi:V3):PLq:=[⟨⟨1,0,0⟩,hi.x⟩,⟨⟨-1,0,0⟩,W (0-lo.x)⟩,⟨⟨0,1,0⟩,hi.y⟩,⟨⟨0,-1,0⟩,W (0-lo.y)⟩,⟨⟨0,0,1⟩,hi.z⟩,⟨⟨0,0,-1⟩,W (0-lo.z)⟩]
theorem if7(lo hi:V3):zc6 lo hi=some (slP (Af2 lo hi)):=rfl
theorem bg1(lo hi:V3):zc7 lo hi=Af2 lo hi:=by unfold zc7;rw[if7];exact fb2 _ (bd1 _)
theorem bg2(lo hi:V3):zc8 lo hi=true:=by unfold zc8;rw[if7];exact vb4 _ (bd1 _)
theorem Qf7:Af2 ⟨-24,-24,-24⟩ ⟨24,24,24⟩=ws:=by
 simp only[Af2,ws];rw[show W (0 - -24)=24 from by rw[gf7];rfl]
theorem Af3{l:PLq}:Nat.beq (len (bL tP l)) 0=l.isEmpty:=by rw[ja7];cases l<;>rfl
theorem if8(c:PLq)(hc:c.length<=1000000000):Xb1 c=some (slP (c++ws)):=by
 unfold Xb1;simp only[Pc3,bg1,bg2,Qf7,Af3];have h6:(0+len (bL tP c))=c.length:=by rw[ja7];omega
 have hw:len (bL tP ws)=6:=rfl;rw[h6,hw];have e1:Nat.ble (c.length*32) room=true:=ec6 (by omega)
 have e2:Nat.ble ((c.length+6)*32) room=true:=ec6 (by omega)
 have e3:app (app [] (bL tP c)) (bL tP ws)=bL tP (c++ws):=ob4 tP c ws;have e4:Nat.beq c.length (len (app [] (bL tP c)))=true:=by
  rw[show app [] (bL tP c)=bL tP c from rfl,ja7,Qiz]
 rw[e1,e2,e3,e4];cases c with
 |nil=>rfl
 |cons p c =>
  show some (c7.sl 0 0 ((p::c).length+6) 0,[(⟨66,4,bL tP (p::c++ws),true,false,0⟩:c8)])=_;unfold slP;rw[Qia];rfl
theorem bg3(c:PLq)(hc:c.length<=1000000000):zc9 c=c++ws:=by unfold zc9;rw[if8 c hc];exact fb2 _ (bd1 _)
theorem bg4(c:PLq)(hc:c.length<=1000000000):Ac0 c=true:=by unfold Ac0;rw[if8 c hc];exact vb4 _ (bd1 _)
theorem if9{l:LPq}{j:Nat}(h:j<l.length):gL tLq l j=l[j]:=Ya0 tLq h
theorem pe6(ls:LPq)(hn:ls.length<=1000000000)(hl:ls.flatten.length<=1000000000):∃m,lp (P3 ⟨ls,ls,(ls.length:Int)⟩) ⟨0,0⟩=(1,⟨(ls.flatten.length:Int),m⟩):=by
 have h:=Ka8 (step:=P3 ⟨ls,ls,(ls.length:Int)⟩) (mk:=λj (n:Nat)=>(⟨(n:Int),(j:Int)⟩:w8)) (f:=λl _ n=>n+l.length) (g:=λl n=>n+l.flatten.length) (fin:=λ_=>1) ls
  (λj n=>n+(ls.drop j).flatten.length=ls.flatten.length) hn (λ_=>rfl) (λx r a=>by simp only[List.flatten_cons,Qia];omega)
  (λj n hj hi=>by
   rw[Qid hj,List.flatten_cons,Qia] at hi;have hW:W ((n:Int)+(ls[j].length:Int))=((n+ls[j].length:Nat):Int):=by rw[Ka7 (by omega) (by omega)];omega
   refine⟨?_,by show n+ls[j].length+(ls.drop (j+1)).flatten.length=_;omega⟩
   simp only[P3,U7,Int.toNat_natCast,if9 hj,hW,u7 hj (by omega)]
   rw[btD (n7 hj),bt (g8 hj),bfD (by omega)])
  (λj n hj _=>by
   simp only[P3,U7];rw[bfD (by omega)]) 0 0 (by simp)
 have h:=h.1;rw[Qib,Qic] at h;exact⟨_,h⟩
theorem jf0{ls:LPq}(h:ls.flatten=[]){j:Nat}(hj:j<ls.length):ls[j]=[]:=by
 rw[List.flatten_eq_nil_iff] at h;exact h _ (Qik hj)
theorem Je9(ls:LPq)(hn:ls.length<=1000000000)(hl:ls.flatten=[]):∃s,lp (I8 ⟨ls,(ls.length:Int)⟩) ⟨0,0,0,[]⟩=(1,s):=by
 have h:=Ka8 (step:=I8 ⟨ls,(ls.length:Int)⟩) (mk:=λj (_:Unit)=>(⟨0,(j:Int),0,[]⟩:m9)) (f:=λ_ _ n=>n) (g:=λ_ n=>n) (fin:=λ_=>1) ls
  (λ_ _=>True) hn (λ_=>rfl) (λx r a=>rfl)
  (λj n hj hi=>by
   refine⟨?_,trivial⟩;show G5 Stp.next Stp.exit Stp.fail _ _=_;simp only[G5,Int.toNat_natCast,if9 hj,jf0 hl hj,u7 hj (by omega)]
   rw[btD (n7 hj),bt (g8 hj)]
   rfl)
  (λj n hj _=>by
   show G5 Stp.next Stp.exit Stp.fail _ _=_;simp only[G5];rw[bfD (by omega)]) 0 () trivial
 exact⟨_,h.1⟩
def Ub2(t:Nat)(d:PLq):List (List c7):=app (bL tP d) (List.replicate (t-d.length) Zd2)
theorem jf1(t:Nat)(d:PLq)(h:d.length<=t):len (Ub2 t d)=t:=by
 unfold Ub2;rw[I5,n9,Qia,<- n9,ja7,Qiy];omega
theorem jf2(t:Nat)(d l:PLq)(h:d.length+l.length<=t):app (J3 (Ub2 t d) d.length) (app (bL tP l) (j7 (Ub2 t d) (d.length+len (bL tP l))))=Ub2 t (d++l):=by
 have hd:(bL tP d).length=d.length:=by rw[<- n9,ja7]
 unfold Ub2;rw[ja7,<- ob4];simp only[I5,I1,I4];rw[List.take_left' hd,Qiv];congr 2;rw[List.drop_append,Qir (by omega),List.nil_append,hd,List.drop_replicate,Qia]
 congr 1;omega
theorem pe7(ls:LPq)(hn:ls.length<=1000000000):∃m,lp (I8 ⟨ls,(ls.length:Int)⟩) ⟨1,0,0,List.replicate ls.flatten.length Zd2⟩=(2,⟨1,m,ls.flatten.length,bL tP ls.flatten⟩):=by
 have h:=Ka8 (step:=I8 ⟨ls,(ls.length:Int)⟩) (mk:=λj (d:PLq)=>(⟨1,(j:Int),d.length,Ub2 ls.flatten.length d⟩:m9)) (f:=λl _ d=>d++l) (g:=λl d=>d++l.flatten) (fin:=λ_=>2) ls
  (λj d=>d.length+(ls.drop j).flatten.length=ls.flatten.length) hn (λ_=>by simp) (λx r a=>by simp)
  (λj d hj hi=>by
   rw[Qid hj,List.flatten_cons,Qia] at hi;refine⟨?_,by show (d++ls[j]).length+(ls.drop (j+1)).flatten.length=_;rw[Qia];omega⟩
   show G6 Stp.next Stp.exit Stp.fail _ _=_;simp only[G6,Int.toNat_natCast,if9 hj,u7 hj (by omega),Pc3]
   rw[jf2 _ _ _ (by omega),jf1 _ _ (by omega),ja7,btD (n7 hj),bt (g8 hj),bt (by rw[Qiau];omega),Qia])
  (λj d hj _=>by
   show G6 Stp.next Stp.exit Stp.fail _ _=_;simp only[G6];rw[bfD (by omega)]) 0 [] (by simp)
 have h:=h.1;rw[Qib,List.nil_append] at h;have e:Ub2 ls.flatten.length ls.flatten=bL tP ls.flatten:=by unfold Ub2;rw[Nat.sub_self,I5];simp
 rw[e] at h;exact⟨_,h⟩
theorem Jf1(ls:LPq)(hn:ls.length<=1000000000)(hl:ls.flatten.length<=1000000000):Xb7 ls=some (slP (ls.flatten++ws)):=by
 have hc:A2 ls=if ls.flatten=[] then ⟨1,0,[]⟩ else ⟨2,ls.flatten.length,bL tP ls.flatten⟩:=by
  unfold A2 P9;simp only[i6,l4];obtain⟨m,hm⟩:=pe6 ls hn hl;rw[hm];by_cases h0:ls.flatten=[]
  ·obtain⟨s,hs⟩:=Je9 ls hn h0;rw[if_pos h0,hs];rw[show (⟨(ls.flatten.length:Int),m⟩:w8)=⟨0,m⟩ by rw[h0];rfl]
   rfl
  ·obtain⟨m',hm'⟩:=pe7 ls hn;rw[if_neg h0];simp only[Int.toNat_natCast];rw[hm'];have h1:0<ls.flatten.length:=List.length_pos_iff.2 h0;have e1:((ls.flatten.length:Int)==0)=false:=by rw[beq_eq_false_iff_ne];omega
   have e2:Bool.and (decide ((0:Int)<(ls.flatten.length:Int))) (Nat.ble (ls.flatten.length*32) room)=true:=by
    rw[ec6 (by omega),decide_eq_true (by omega)]
    rfl
   rw[e1,e2];rfl
 unfold Xb7;simp only[i6,A5,hc];by_cases h0:ls.flatten=[]
 ·rw[if_pos h0,h0];rfl
 ·rw[if_neg h0];generalize ls.flatten=c at *
  have e:∀(d:PLq) (p:Pln),app (bL tP d) [[i p.n.x,i p.n.y,i p.n.z,i p.b]]=bL tP (d++[p]):=λd p=>ob4 tP d [p]
  have c1:=e c ⟨⟨1,0,0⟩,24⟩;have c2:=e (c++[⟨⟨1,0,0⟩,24⟩]) ⟨⟨-1,0,0⟩,24⟩;have c3:=e (c++[⟨⟨1,0,0⟩,24⟩]++[⟨⟨-1,0,0⟩,24⟩]) ⟨⟨0,1,0⟩,24⟩;have c4:=e (c++[⟨⟨1,0,0⟩,24⟩]++[⟨⟨-1,0,0⟩,24⟩]++[⟨⟨0,1,0⟩,24⟩]) ⟨⟨0,-1,0⟩,24⟩;have c5:=e (c++[⟨⟨1,0,0⟩,24⟩]++[⟨⟨-1,0,0⟩,24⟩]++[⟨⟨0,1,0⟩,24⟩]++[⟨⟨0,-1,0⟩,24⟩]) ⟨⟨0,0,1⟩,24⟩;have c6:=e (c++[⟨⟨1,0,0⟩,24⟩]++[⟨⟨-1,0,0⟩,24⟩]++[⟨⟨0,1,0⟩,24⟩]++[⟨⟨0,-1,0⟩,24⟩]++[⟨⟨0,0,1⟩,24⟩]) ⟨⟨0,0,-1⟩,24⟩
  simp only at c1 c2 c3 c4 c5 c6
  simp only[c1,c2,c3,c4,c5,c6,ja7,Qia,List.length_singleton];have g:∀n:Nat,n<=1000000010->(Nat.beq n n&&Nat.ble ((n+1)*32) room)=true:=λn h=>by rw[Qiz,ec6 (by omega)];rfl
  rw[g _ (by omega),g _ (by omega),g _ (by omega),g _ (by omega),g _ (by omega),g _ (by omega)]
  show some (c7.sl 0 0 (c.length+1+1+1+1+1+1) 0,[(⟨66,4,bL tP _,true,false,0⟩:c8)])=_;unfold slP;rw[Qia];simp only[Qiv];rfl
theorem bg5(ls:LPq)(hn:ls.length<=1000000000)(hl:ls.flatten.length<=1000000000):pb6 ls=ls.flatten++ws:=by unfold pb6;rw[Jf1 ls hn hl];exact fb2 _ (bd1 _)
theorem bg6(ls:LPq)(hn:ls.length<=1000000000)(hl:ls.flatten.length<=1000000000):pb7 ls=true:=by unfold pb7;rw[Jf1 ls hn hl];exact vb4 _ (bd1 _)
theorem Jf2(c:PLq)(hc:c.length<=1000000000):pb6 [c]=c++ws:=by
 have:[c].flatten=c:=by simp
 rw[bg5 [c] (by simp) (by rw[this];exact hc),this]
theorem Jf3(c:PLq)(hc:c.length<=1000000000):pb7 [c]=true:=by
 have:[c].flatten=c:=by simp
 exact bg6 [c] (by simp) (by rw[this];exact hc)
theorem Qd7(ls:LPq)(hn:ls.length<=1000000000)(hl:∀c∈ls,c.length<=1000000000):kb3 ls=some (b (ls.all λc=>chk c==0),[]):=by
 have hv:∀c∈ls,kb0 c=!(chk c==0)/\kb1 c=true:=λc hc=>by
  have:Ra2 c=some (b (!(chk c==0)),[]):=by
   unfold Ra2;simp only[i6,A5,Ac7 c (hl c hc),qd6 c (hl c hc)];rfl
  unfold kb0 kb1;rw[this];exact⟨rfl,rfl⟩
 have h:=sb5 (step:=O3 ⟨ls,(ls.length:Int)⟩) (mk:=λj=>(⟨(j:Int)⟩:r7)) (c:=λc=>!(chk c==0)) (u:=1) (fin:=2) tLq ls hn
  (λj hj=>by
   have hm:=hv _ (N7 tLq hj);simp only[O3,L9,Int.toNat_natCast,i6,A5,hm.1,hm.2,u7 hj (by omega)]
   rw[btD (n7 hj),bt (g8 hj),f0,f0])
  (by simp only[O3,L9];rw[bfD (B8 (Qig _))]) 0 (Qih _)
 rw[Qib] at h;have e:(ls.any λc=>!(chk c==0))=!ls.all λc=>chk c==0:=by rw[Qin]
 unfold kb3 oa6 H5 wa0 M8;simp only[i6,l4];rw[show (⟨0⟩:r7)=⟨((0:Nat):Int)⟩ from rfl,h,e]
 cases ls.all λc=>chk c==0 with
 |true=>rfl
 |false =>
  simp only[Qiae,if_true,Qic];show sl true (sl (Nat.beq 1 1) (some (b (!(decide (((ls.findIdx λc=>!(chk c==0):Nat):Int)>=0))),[])) _) _=_
  rw[show decide (((ls.findIdx λc=>!(chk c==0):Nat):Int)>=0)=true from decide_eq_true (by omega)]
  rfl
theorem pe8(ls:LPq)(hn:ls.length<=1000000000)(hl:∀c∈ls,c.length<=1000000000):Ga8 ls=ls.all λc=>chk c==0:=by unfold Ga8;rw[Qd7 ls hn hl];rfl
theorem pe9(ls:LPq)(hn:ls.length<=1000000000)(hl:∀c∈ls,c.length<=1000000000):Ga9 ls=true:=by unfold Ga9;rw[Qd7 ls hn hl];rfl
theorem qe0(c:PLq)(hc:c.length<=1000000000):Ga8 [c]=(chk c==0):=by
 rw[pe8 [c] (by simp) (by simpa using hc)]
 simp
theorem qe1(c:PLq)(hc:c.length<=1000000000):Ga9 [c]=true:=pe9 [c] (by simp) (by simpa using hc)
def pos(X:List Pt)(p:Pln):Bool:=X.any λx=>decide (rm p x>0)
def md5(r:PLq):Bool:=r.all (pos (cor r))
theorem jf3(p:Pln)(X:List Pt)(hX:X.length<=1000000000):ya4 ⟨p.n.x,p.n.y,p.n.z,p.b,X⟩=⟨1,!pos X p⟩:=by
 have hw:∀x:Pt,Ha0 ⟨x.px,x.py,x.pz,x.pw,p.n.x,p.n.y,p.n.z,p.b⟩=⟨decide (rm p x>0)⟩:=λx=>by
  show da3.mk (decide (Fa7 p x>0))=_;rw[ae4]
 have h:=sb5 (step:=Q7 ⟨X,(X.length:Int),p.n.x,p.n.y,p.n.z,p.b⟩) (mk:=λj=>(⟨(j:Int)⟩:u6)) (c:=λx=>decide (rm p x>0)) (u:=1) (fin:=2) tX X hX
  (λj hj=>by
   simp only[Q7,O4,Int.toNat_natCast,hw,u7 hj (by omega)]
   rw[btD (n7 hj),bt (g8 hj)])
  (by simp only[Q7,O4];rw[bfD (B8 (Qig _))]) 0 (Qih _)
 rw[Qib] at h;unfold ya4 aa3 ra5 J2 Aa6 P4 pos;simp only[i6,l4];rw[show (⟨0⟩:u6)=⟨((0:Nat):Int)⟩ from rfl,h]
 cases X.any λx=>decide (rm p x>0) with
 |false=>rfl
 |true =>
  simp only[if_true,Qic];show ma6.mk 1 (!(decide (((X.findIdx λx=>decide (rm p x>0):Nat):Int)>=0)))=_
  rw[show decide (((X.findIdx λx=>decide (rm p x>0):Nat):Int)>=0)=true from decide_eq_true (by omega)]
theorem Ke0(r:PLq)(hb:Bds r)(hr:r.length<=200):ua1 r=some (b (md5 r),[]):=by
 have hX:(cor r).length<=1000000000:=Nat.le_trans (ae5 r hb hr) (by omega)
 have h:=sb5 (step:=O5 ⟨r,(r.length:Int)⟩) (mk:=λj=>(⟨(j:Int),cor r⟩:r8)) (c:=λp=>!pos (cor r) p) (u:=1) (fin:=2) tP r (by omega)
  (λj hj=>by
   simp only[O5,M1,Int.toNat_natCast,i6,l4,jf3 _ _ hX,u7 hj (by omega)]
   rw[btD (n7 hj),bt (g8 hj)]
   rfl)
  (by simp only[O5,M1];rw[bfD (B8 (Qig _))]) 0 (Qih _)
 rw[Qib] at h;have e:(r.any λp=>!pos (cor r) p)=!r.all (pos (cor r)):=by rw[Qin]
 unfold ua1 oa8 H6 wa2 M9 md5;simp only[i6,l4,A5,Qd5 r hb hr,Qd6 r hb hr];rw[show (⟨0,cor r⟩:r8)=⟨((0:Nat):Int),cor r⟩ from rfl,h,e]
 cases r.all (pos (cor r)) with
 |true=>rfl
 |false =>
  simp only[Qiae,if_true,Qic];show some (b (!(decide (((r.findIdx λp=>!pos (cor r) p:Nat):Int)>=0))),[])=_
  rw[show decide (((r.findIdx λp=>!pos (cor r) p:Nat):Int)>=0)=true from decide_eq_true (by omega)]
  rfl
theorem jf4(r:PLq)(hb:Bds r)(hr:r.length<=200):ua2 r=md5 r:=by unfold ua2;rw[Ke0 r hb hr];rfl
theorem jf5(r:PLq)(hb:Bds r)(hr:r.length<=200):ua3 r=true:=by unfold ua3;rw[Ke0 r hb hr];rfl
theorem De4(r:PLq)(X:List Pt)(hr:r.length<=200)(hX:X.length<=1000000000)(a:Nat)(ha:a<r.length):∃m,lp (La8 ⟨r,X,(a:Int)⟩) ⟨false,0⟩=(1,⟨pos X r[a],m⟩):=by
 have h:=qd1 (step:=La8 ⟨r,X,(a:Int)⟩) (mk:=λj (c:Bool)=>(⟨c,(j:Int)⟩:xa7)) (f:=λc x=>c||decide (rm r[a] x>0)) (fin:=1) tX X (λ_ _=>True) hX
  (λj c hj _=>⟨by
   simp only[La8,Qa2,Int.toNat_natCast,Je2,u7 hj (by omega),Ya0 tP ha,g8 ha,g8 hj]
   rw[btD (n7 hj)];cases c<;>rfl,trivial⟩)
  (λc _=>by simp only[La8,Qa2];rw[bfD (B8 (Qig _))]) 0 (Qih _) false trivial
 have h:=h.1;rw[Qib] at h;have e:∀(l:List Pt) (c:Bool),l.foldl (λc x=>c||decide (rm r[a] x>0)) c=(c||l.any λx=>decide (rm r[a] x>0)):=by
  intro l
  induction l with
  |nil=>intro c;simp
  |cons x l ih=>intro c;rw[List.foldl_cons,ih,List.any_cons,Bool.or_assoc]
 rw[e,Bool.false_or] at h;exact⟨_,h⟩
theorem Ke1(r:PLq)(hb:Bds r)(hr:r.length<=200):Hb9 r=some (b (md5 r),[]):=by
 have hX:(cor r).length<=1000000000:=Nat.le_trans (ae5 r hb hr) (by omega)
 have h:=Jc9 (step:=Za8 ⟨⟩) (mk:=λj=>(⟨r,cor r,(j:Int)⟩:qa9)) (c:=λp=>!pos (cor r) p) (u:=1) (fin:=2) tP r (by omega)
  (λj hj=>by
   obtain⟨m,hm⟩:=De4 r (cor r) hr hX j hj;simp only[Za8,Qa3,i6,l4,hm,u7 hj (by omega),Ya0 tP hj]
   rw[btD (n7 hj)]
   rfl)
  (by simp only[Za8,Qa3];rw[bfD (B8 (Qig _))]) 0 (Qih _)
 rw[Qib] at h;have e:(r.any λp=>!pos (cor r) p)=!r.all (pos (cor r)):=by rw[Qin]
 unfold Hb9 md5;simp only[i6,l4,A5,De2 r hb hr,De3 r hb hr];rw[show (⟨r,cor r,0⟩:qa9)=⟨r,cor r,((0:Nat):Int)⟩ from rfl,h,e]
 cases r.all (pos (cor r))<;>rfl
theorem Qf8(r:PLq)(hb:Bds r)(hr:r.length<=200):cc9 r=md5 r:=by unfold cc9;rw[Ke1 r hb hr];rfl
theorem Qf9(r:PLq)(hb:Bds r)(hr:r.length<=200):dc0 r=true:=by unfold dc0;rw[Ke1 r hb hr];rfl
theorem Db4{c:PLq}(h:(chk c==0)=true):Bds (c++ws)/\(c++ws).length<=200:=by
 rw[beq_iff_eq,ab9] at h;refine⟨λp hp=>?_,by rw[Qia,show ws.length=6 from rfl];omega⟩
 rcases Qiaa.1 hp with hp|hp
 ·exact ad8 (h.2 p hp)
 ·exact Jf0 p hp
def pts(c:PLq):List Pt:=if chk c==0 then cor (c++ws) else []
def ful(c:PLq):Bool:=(chk c==0)&&md5 (c++ws)
theorem qe2{c:PLq}(hc:c.length<=1000000000):∃x,ab5 c=some x/\(one (r1L tX)).rd x=some (pts c):=by
 unfold ab5 pts;simp only[i6,A5,qe0 c hc,qe1 c hc,Jf2 c hc,Jf3 c hc];cases h:chk c==0 with
 |false=>exact⟨_,rfl,rfl⟩
 |true =>
  obtain⟨h1,h2⟩:=Db4 h;rw[Qd5 _ h1 h2,Qd6 _ h1 h2];exact⟨_,rfl,if6 tX _⟩
theorem Ad4{c:PLq}(hc:c.length<=1000000000):Ma2 c=pts c:=by
 obtain⟨x,h1,h2⟩:=qe2 hc;unfold Ma2;rw[h1];exact fb2 _ h2
theorem Ad5{c:PLq}(hc:c.length<=1000000000):Ma3 c=true:=by
 obtain⟨x,h1,h2⟩:=qe2 hc;unfold Ma3;rw[h1];exact vb4 _ h2
theorem Ke2{c:PLq}(hc:c.length<=1000000000):vb1 c=some (b (ful c),[]):=by
 unfold vb1 ful;simp only[i6,A5,qe0 c hc,qe1 c hc,Jf2 c hc,Jf3 c hc];cases h:chk c==0 with
 |false=>rfl
 |true =>
  obtain⟨h1,h2⟩:=Db4 h;rw[jf4 _ h1 h2,jf5 _ h1 h2];rfl
theorem bd2{c:PLq}(hc:c.length<=1000000000):ya5 c=ful c:=by unfold ya5;rw[Ke2 hc];rfl
theorem bd3{c:PLq}(hc:c.length<=1000000000):ya6 c=true:=by unfold ya6;rw[Ke2 hc];rfl
theorem qe3{c:PLq}(hc:c.length<=1000000000):Ib0 c=some (b (ful c),[]):=by
 unfold Ib0 ful;simp only[i6,A5,if4 c hc,if5 c hc,bg3 c hc,bg4 c hc];cases h:chk c==0 with
 |false=>rfl
 |true =>
  obtain⟨h1,h2⟩:=Db4 h;rw[Qf8 _ h1 h2,Qf9 _ h1 h2];rfl
theorem Ke3{c:PLq}(hc:c.length<=1000000000):Ib1 c=ful c:=by unfold Ib1;rw[qe3 hc];rfl
theorem Ke4{c:PLq}(hc:c.length<=1000000000):Ib2 c=true:=by unfold Ib2;rw[qe3 hc];rfl
theorem qe4{Q:Pt->Prop}(r:PLq)(p q:Pln):∀(l:PLq) (out:List Pt),(∀s∈l,(mpt p q s).2=true->inn r (mpt p q s).1=true->Q (mpt p q s).1)->(∀x∈out,Q x)->∀x∈zb2 r p q l out,Q x
 |[],out,_,h=>h
 |s::l,out,hs,h=>qe4 r p q l (Sa0 r p q out s) (λt ht=>hs t (Qii _ ht)) λx hx=>by
  unfold Sa0 at hx
  split at hx
  ·rename_i hc;rw[Qim,Qim] at hc
   rcases Qiaa.1 hx with hx|hx
   ·exact h x hx
   ·rw[List.mem_singleton] at hx;subst hx;exact hs s Qiag hc.1 hc.2.2
  ·exact h x hx
theorem qe5{Q:Pt->Prop}(r:PLq)(p:Pln):∀(l:PLq) (out:List Pt),(∀q∈l,∀s∈l,(mpt p q s).2=true->inn r (mpt p q s).1=true->Q (mpt p q s).1)->(∀x∈out,Q x)->∀x∈kb8 r p l out,Q x
 |[],out,_,h=>h
 |q::l,out,hs,h=>qe5 r p l _ (λa ha t ht=>hs a (Qii _ ha) t (Qii _ ht)) (qe4 r p q l out (λt ht=>hs q Qiag t (Qii _ ht)) h)
theorem qe6{Q:Pt->Prop}(r:PLq):∀(l:PLq) (out:List Pt),(∀p∈l,∀q∈l,∀s∈l,(mpt p q s).2=true->inn r (mpt p q s).1=true->Q (mpt p q s).1)->(∀x∈out,Q x)->∀x∈Sc4 r l out,Q x
 |[],out,_,h=>h
 |p::l,out,hs,h=>qe6 r l _ (λa ha c hc t ht=>hs a (Qii _ ha) c (Qii _ hc) t (Qii _ ht)) (qe5 r p l out (λc hc t ht=>hs p Qiag c (Qii _ hc) t (Qii _ ht)) h)
theorem Ke5{Q:Pt->Prop}{r:PLq}(hs:∀p∈r,∀q∈r,∀s∈r,(mpt p q s).2=true->inn r (mpt p q s).1=true->Q (mpt p q s).1):∀x∈cor r,Q x :=
 qe6 r r [] hs λx hx=>by cases hx
structure Okx(x:Pt):Prop where
 w1:0<x.pw
 w2:x.pw<=600000000000
 c1:Sm 300000000000000 x.px
 c2:Sm 300000000000000 x.py
 c3:Sm 300000000000000 x.pz
theorem Sc6{r:PLq}(hb:Bds r):∀x∈cor r,Okx x:=Ke5 λp hp q hq s hs h _=>by
 obtain⟨h1,h2,h3,h4,h5⟩:=Ce9 (hb p hp) (hb q hq) (hb s hs) h;exact⟨h1,h5,h2,h3,h4⟩
theorem Ke6(c:PLq):(pts c).length<=8000000:=by
 unfold pts;cases h:chk c==0 with
 |false=>exact Qih _
 |true=>exact ae5 _ (Db4 h).1 (Db4 h).2
theorem jf6{x y:Int}(hy:0<y):Int.tmod x y+y*Int.tdiv x y=x/\-y<Int.tmod x y/\Int.tmod x y<y:=by
 refine⟨Int.tmod_add_mul_tdiv x y,?_,Int.tmod_lt_of_pos x hy⟩
 have:=Int.lt_tmod_of_pos x hy
 omega
theorem jf7(x:Int){y:Int}(hy:0<y)(hy2:y<=4000000000000000000):Xb2 x y=some (i (x % y),[]):=by
 have hz:(y==0)=false:=by rw[beq_eq_false_iff_ne];omega
 obtain⟨h1,h2,h3⟩:=jf6 (x:=x) hy;unfold Xb2;rw[bfD (by omega),bf hz,bf hz,Ka7 (by omega) (by omega),Int.tmod_eq_emod_of_nonneg (by omega)]
 congr 3;rw[Int.add_emod_right]
 conv=>rhs;rw[<- h1]
 rw[Int.add_mul_emod_self_left]
theorem bg7(x:Int){y:Int}(hy:0<y)(hy2:y<=4000000000000000000):Ac1 x y=x % y:=by unfold Ac1;rw[jf7 x hy hy2];rfl
theorem bg8(x:Int){y:Int}(hy:0<y)(hy2:y<=4000000000000000000):Ac2 x y=true:=by unfold Ac2;rw[jf7 x hy hy2];rfl
theorem Sm.neg{n x:Int}(h:Sm n x):Sm n (-x):=⟨by have:=h.2;omega,by have:=h.1;omega⟩
theorem jf8(x:Pln):(x.n.x==x.n.x&&(x.n.y==x.n.y&&(x.n.z==x.n.z&&(x.b==x.b&&true))))=true:=by simp
theorem Ke7(l:PLq)(hl:l.length<=1000000000):Jb6 l l=some (b true,[]):=by
 have h:=Jc9 (step:=ab8 ⟨l,l⟩) (mk:=λj=>(⟨(j:Int)⟩:sa1)) (c:=λ_=>false) (u:=1) (fin:=2) tP l hl
  (λj hj=>by
   simp only[ab8,Ra9,Int.toNat_natCast,u7 hj (by omega),jf8]
   rw[btD (n7 hj),bt (g8 hj),bt (g8 hj)]
   rfl)
  (by simp only[ab8,Ra9];rw[bfD (B8 (Qig _))]) 0 (Qih _)
 rw[Qib,show (l.any λ_=>false)=false by simp] at h
 unfold Jb6;simp only[i6,l4];rw[show (⟨0⟩:sa1)=⟨((0:Nat):Int)⟩ from rfl,h,bf (by simp)]
 rfl
theorem Rf0(l:PLq)(hl:l.length<=1000000000):ec2 l l=true:=by unfold ec2;rw[Ke7 l hl];rfl
theorem Rf1(l:PLq)(hl:l.length<=1000000000):ec3 l l=true:=by unfold ec3;rw[Ke7 l hl];rfl
def Nx{σ:Type}(x:Stp σ)(E:Nat->Prop)(N:σ->Prop):Prop:=(∃t,x=.exit t/\E t)\/∃s,x=.next s/\N s
theorem Nx.sl{σ:Type}{c:Bool}{t e:Stp σ}{E:Nat->Prop}{N:σ->Prop}(h1:c=true->Nx t E N)(h2:c=false->Nx e E N):Nx (sl c t e) E N:=by cases c;exact h2 rfl;exact h1 rfl
theorem Nx.ex{σ:Type}{t:Nat}{E:Nat->Prop}{N:σ->Prop}(h:E t):Nx (.exit t) E N:=.inl ⟨t,rfl,h⟩
theorem Nx.nx{σ:Type}{s:σ}{E:Nat->Prop}{N:σ->Prop}(h:N s):Nx (.next s) E N:=.inr ⟨s,rfl,h⟩
theorem Oa4{σ τ:Type}{step:σ->Stp σ}{mk:Nat->τ->σ}(n:Nat)(I:Nat->τ->Prop)(E:Nat->σ->Prop)(hn:n<=1000000000)
  (h:∀j a,j<n->I j a->Nx (step (mk j a)) (λt=>E t (mk j a)) (λs=>∃a',s=mk (j+1) a'/\I (j+1) a'))
  (hf:∀j a,n<=j->I j a->∃t,step (mk j a)=.exit t/\E t (mk j a)) (j0:Nat) (a:τ) (hi:I j0 a):∃t s,lp step (mk j0 a)=(t,s)/\E t s:=by
 have key:=tc0 (step:=step) (I:=λm s=>∃j a,m=n-j/\s=mk j a/\I j a) (Q:=E) (λm s ⟨j,a,hm,hs,ha⟩=>by
  subst hs;by_cases hlt:j<n
  ·rcases h j a hlt ha with h1|⟨s',h1,a',h2,h3⟩
   ·exact .inl h1
   ·subst h2;exact .inr ⟨_,n-(j+1),by omega,h1,j+1,a',rfl,rfl,h3⟩
  ·exact .inl (hf j a (by omega) ha)) (n-j0) (mk j0 a) (by omega) ⟨j0,a,rfl,rfl,hi⟩
 exact⟨_,_,rfl,key⟩
def Rd{ρ:Type}(R:RR ρ)(o:ROq)(P:ρ->Prop):Prop:=∃x r,o=some x/\R.rd x=some r/\P r
theorem Rd.p{ρ:Type}{R:RR ρ}{o:ROq}{P:ρ->Prop}(h:Rd R o P):P (ba8 R o):=by
 obtain⟨x,r,h1,h2,h3⟩:=h;rw[h1,fb2 R h2];exact h3
theorem Rd.g{ρ:Type}{R:RR ρ}{o:ROq}{P:ρ->Prop}(h:Rd R o P):okO R o=true:=by
 obtain⟨x,r,h1,h2,h3⟩:=h;rw[h1];exact vb4 R h2
theorem Rd.sl{ρ:Type}{R:RR ρ}{c:Bool}{t e:ROq}{P:ρ->Prop}(h1:c=true->Rd R t P)(h2:c=false->Rd R e P):Rd R (sl c t e) P:=by cases c;exact h2 rfl;exact h1 rfl
theorem Db5(n:Int)(l:List Int)(j:Int)(h1:0<=j)(h2:j<=1000000)(hn:0<n)(hn2:n<=1000000) :
  ∃v j',s9 ⟨n,l,j⟩=⟨1,v,j'⟩/\0<=v/\v<n/\j<=j'/\j'<=j+1:=by
 unfold s9 wa9
 simp only
 by_cases h:j>=(l.length:Int)
 ·rw[btD h];exact⟨0,j,rfl,by omega,hn,by omega,by omega⟩
 ·rw[bfD h];have hW:W (W (j+1)-1)=j:=by rw[zd6,Ka7 (by omega) (by omega)];omega
  have hW2:W (j+1)=j+1:=Ka7 (by omega) (by omega)
  have hin:inB j l.length=true:=by rw[yf2];exact decide_eq_true (by omega)
  rw[hW,hW2,hin,bg8 _ hn (by omega),bg7 _ hn (by omega)]
  exact⟨_,_,rfl,Int.emod_nonneg _ (by omega),Int.emod_lt_of_pos _ hn,by omega,by omega⟩
def inV(v:V3):Bool:=smb 24 v.x&&(smb 24 v.y&&smb 24 v.z)
def sub(a b:V3):V3:=⟨a.x-b.x,a.y-b.y,a.z-b.z⟩
def De5(a b c:V3):Pln×Bool :=
 if inV a&&(inV b&&inV c) then
  if g3 (q7 (sub b a) (sub c a))=0 then (⟨⟨0,0,0⟩,0⟩,false)
  else (⟨⟨Int.tdiv (q7 (sub b a) (sub c a)).x (g3 (q7 (sub b a) (sub c a))),Int.tdiv (q7 (sub b a) (sub c a)).y (g3 (q7 (sub b a) (sub c a))),Int.tdiv (q7 (sub b a) (sub c a)).z (g3 (q7 (sub b a) (sub c a)))⟩,
   dot ⟨Int.tdiv (q7 (sub b a) (sub c a)).x (g3 (q7 (sub b a) (sub c a))),Int.tdiv (q7 (sub b a) (sub c a)).y (g3 (q7 (sub b a) (sub c a))),Int.tdiv (q7 (sub b a) (sub c a)).z (g3 (q7 (sub b a) (sub c a)))⟩ a⟩,true)
 else (⟨⟨0,0,0⟩,0⟩,false)
structure Fc(ph:Nat)(out:PLq)(m:Nat):Prop where
 h:(ph=0/\out=[])\/ph=1
 l:out.length<=m
theorem Fc.more{ph m m':Nat}{out:PLq}(h:Fc ph out m)(hm:m<=m'):Fc ph out m':=⟨h.h,Nat.le_trans h.l hm⟩
theorem qd8{l:PLq}{k:Nat}(h:k<l.length):ldR tP (bL tP l) (0+k)=true:=by rw[Qic];exact ze1 tP h
theorem Sc7{l:PLq}{k:Nat}(h:k<l.length):rdR tP (bL tP l) (0+k)=gL tP l k:=by rw[Qic];exact ze0 tP h
theorem Rf2{α:Type}(t:Ty α)(k:Nat)(l:List α):(one (r1L t)).rd (.sl 0 0 l.length 0,[⟨k,t.es,bL t l,true,false,0⟩])=some l:=by
 show Bool.rec (motive:=λ_=>Option (List α)) none (some (slR t (bL t l) 0 l.length)) (Bool.and (Nat.beq t.es t.es) (okS t (bL t l) 0 l.length))=_
 rw[Ic5,Ic6,Qiz];rfl
theorem jf9{l:PLq}{n:Nat}{r:List (List c7)}{P:PLq->Prop}(hn:n<=l.length)(hr:r=bL tP l)(h:P (l.take n)):Rd (one (r1L tP)) (some (.sl 0 0 n 0,[⟨66,4,r,true,false,0⟩])) P:=by
 subst hr;have e1:slR tP (bL tP l) 0 n=l.take n:=pc7 tP (by rw[Qif];omega) λk hk=>by
  rw[Qic,fa9 tP (by omega)]
  congr 1;simp[gL,Qie,List.getElem?_take,hk]
 have e2:okS tP (bL tP l) 0 n=true:=Sb1 tP (f:=λk=>gL tP l k) λk hk=>by rw[Qic,fa9 tP (by omega)]
 refine⟨_,l.take n,rfl,?_,h⟩;show Bool.rec (motive:=λ_=>Option PLq) none (some (slR tP (bL tP l) 0 n)) (Bool.and true (okS tP (bL tP l) 0 n))=_
 rw[e1,e2];rfl
def has(c:PLq)(v:V3):Bool:=(chk c==0)&&(inV v&&inn c ⟨v.x,v.y,v.z,1⟩)
theorem qe7{a c:PLq}(ha:(chk a==0)=true)(hc:(chk c==0)=true):Bds (a++c++ws)/\(a++c++ws).length<=200:=by
 rw[beq_iff_eq,ab9] at ha hc;refine⟨λp hp=>?_,by rw[Qia,Qia,show ws.length=6 from rfl];omega⟩
 rcases Qiaa.1 hp with hp|hp
 ·rcases Qiaa.1 hp with hp|hp
  ·exact ad8 (ha.2 p hp)
  ·exact ad8 (hc.2 p hp)
 ·exact Jf0 p hp
def apart(a c:PLq):Bool:=!((chk a==0)&&(chk c==0))||!md5 (a++c++ws)
theorem qe8{a c:PLq}(ha:a.length<=100000000)(hc:c.length<=100000000):kb5 a c=some (b (apart a c),[]):=by
 have hn:[a,c].length<=1000000000:=by simp
 have hl:∀x∈[a,c],x.length<=1000000000:=by
  intro x hx;simp only[Qiav,Qiam,or_false] at hx
  rcases hx with rfl|rfl<;>omega
 have hf:[a,c].flatten=a++c:=by simp
 have hfl:[a,c].flatten.length<=1000000000:=by rw[hf,Qia];omega
 unfold kb5 apart;simp only[i6,A5,pe8 _ hn hl,pe9 _ hn hl,bg5 _ hn hfl,bg6 _ hn hfl,hf,List.all_cons,List.all_nil,Qiq];cases h1:chk a==0 with
 |false=>rfl
 |true =>
  cases h2:chk c==0 with
  |false=>rfl
  |true =>
   obtain⟨q1,q2⟩:=qe7 h1 h2;rw[jf4 _ q1 q2,jf5 _ q1 q2];rfl
theorem ae9{a c:PLq}(ha:a.length<=100000000)(hc:c.length<=100000000):Ha2 a c=apart a c:=by unfold Ha2;rw[qe8 ha hc];rfl
theorem be0{a c:PLq}(ha:a.length<=100000000)(hc:c.length<=100000000):Ha3 a c=true:=by unfold Ha3;rw[qe8 ha hc];rfl
def lies(a c:PLq):Bool:=ful a&&((chk c==0)&&(pts a).all (inn c))
def onc(X:List Pt)(p:Pln):Nat:=X.countP λx=>rm p x==0
def keep(X:List Pt)(p:Pln):Bool:=!decide ((onc X p:Int)<3)
theorem Ad6(p:Pln)(X:List Pt)(hX:X.length<=1000000000):Aa7 ⟨p.n.x,p.n.y,p.n.z,p.b,X⟩=⟨1,!keep X p,X⟩:=by
 have h:=qd1 (step:=Ea2 ⟨X,(X.length:Int),X,p.n.x,p.n.y,p.n.z,p.b⟩) (mk:=λj (n:Nat)=>(⟨(n:Int),(j:Int)⟩:Y7)) (f:=λn x=>if rm p x==0 then n+1 else n) (fin:=1) tX X (λj n=>n<=j) hX
  (λj n hj hi=>by
   have hW:W ((n:Int)+1)=((n+1:Nat):Int):=by rw[Ka7 (by omega) (by omega)];omega
   refine⟨?_,by show (if rm p (gL tX X j)==0 then n+1 else n)<=j+1;split<;>omega⟩
   simp only[Ea2,ya7,Int.toNat_natCast,ae4,hW,u7 hj (show X.length<=4611686018427387904 by omega)]
   rw[btD (n7 hj),bt (g8 hj)];cases rm p (gL tX X j)==0<;>rfl)
  (λn _=>by simp only[Ea2,ya7];rw[bfD (B8 (Qig _))]) 0 (Qih _) 0 (Qil _)
 have h:=h.1;have e:∀(l:List Pt) (n:Nat),l.foldl (λn x=>if rm p x==0 then n+1 else n) n=n+l.countP λx=>rm p x==0:=by
  intro l
  induction l with
  |nil=>intro n;rfl
  |cons x l ih =>
   intro n;rw[List.foldl_cons,ih,List.countP_cons]
   split<;>omega
 rw[Qib,e,Qic] at h;unfold Aa7 Ma5 keep onc;simp only[i6,l4];rw[show (⟨0,0⟩:Y7)=⟨((0:Nat):Int),((0:Nat):Int)⟩ from rfl,h]
 show Ma4.mk 1 (decide _) X=Ma4.mk 1 (!(!(decide _))) X;rw[Bool.not_not]
theorem Af4(l:PLq)(X:List Pt)(hl:l.length<=1000000000)(hX:X.length<=1000000000):ia1 ⟨l.length,bL tP l,X⟩=⟨1,if l.any (λp=>!keep X p) then ((l.findIdx (λp=>!keep X p):Nat):Int) else -1,X⟩:=by
 have h:=sb5 (step:=O6 ⟨l.length,(l.length:Int),bL tP l⟩) (mk:=λj=>(⟨(j:Int),X⟩:r9)) (c:=λp=>!keep X p) (u:=1) (fin:=2) tP l hl
  (λj hj=>by
   simp only[O6,M2,Int.toNat_natCast,i6,l4,qd8 hj,Sc7 hj,Ad6 _ _ hX,u7 hj (show l.length<=4611686018427387904 by omega)]
   rw[btD (n7 hj),bt (g8 hj)]
   rfl)
  (by simp only[O6,M2];rw[bfD (B8 (Qig _))]) 0 (Qih _)
 rw[Qib] at h;unfold ia1 N0;simp only[i6,l4];rw[show (⟨0,X⟩:r9)=⟨((0:Nat):Int),X⟩ from rfl,h]
 cases ha:l.any λp=>!keep X p with
 |false=>rfl
 |true =>
  have hf:l.findIdx (λp=>!keep X p)<l.length:=by
   rw[Qiao] at ha;obtain⟨p,hp,hc⟩:=ha;exact Qiw ⟨p,hp,hc⟩
  simp only[if_true,Qic,Int.toNat_natCast,Sc7 hf,Ad6 _ _ hX,i6];rfl
theorem Sc8{α:Type}(c:α->Bool):∀l:List α,(l.take (l.findIdx c)).filter (λx=>!c x)=l.take (l.findIdx c)
 |[]=>rfl
 |x::l=>by
  rw[List.findIdx_cons];cases h:c x with
  |true=>rfl
  |false =>
   simp only[cond_false,List.take_succ_cons,Qix,h,Qiae,if_true];rw[Sc8 c l]
theorem De6{α:Type}(l:List α)(j:Nat)(h:j<l.length):l.take (j+1)=l.take j++[l[j]]:=by rw[Qip h]
theorem ec7{α:Type}(t:Ty α){l:List α}{j:Nat}(h:j<l.length):l.take (j+1)=l.take j++[gL t l j]:=by rw[De6 l j h,Ya0 t h]
theorem bd4{α:Type}(t:Ty α){l r:List α}{j:Nat}(h:l.drop j=r.drop j):gL t l j=gL t r j:=by
 have h1:=qd7 t l j 0;have h2:=qd7 t r j 0;rw[Nat.add_zero] at h1 h2;rw[<- h1,<- h2,h]
theorem Sc9{α:Type}{l r:List α}{j:Nat}(h:l.drop j=r.drop j)(k:Nat):l.drop (j+k)=r.drop (j+k):=by rw[<- Qiar,<- Qiar,h]
structure Del(l:PLq)(f:Pln->Bool)(cur:PLq)(m j:Nat):Prop where
 len:cur.length=l.length
 t:cur.take m=(l.take j).filter f
 d:cur.drop j=l.drop j
 le:m<=j
 lm:m<=l.length
theorem qe9(l:PLq)(X:List Pt)(hl:l.length<=1000000000)(hX:X.length<=1000000000)(m j:Nat)(cur:PLq)(hd:Del l (keep X) cur m j) :
  ∃t s,lp (H7 ⟨l.length⟩) ⟨(m:Int),(j:Int),bL tP cur,X⟩=(t,s)/\(t=1/\∃m' cur' k,s=⟨((m':Nat):Int),((k:Nat):Int),bL tP cur',X⟩/\Del l (keep X) cur' m' k/\l.length<=k):=by
 refine Oa4 (step:=H7 ⟨l.length⟩) (mk:=λj (x:Nat×PLq)=>(⟨(x.1:Int),(j:Int),bL tP x.2,X⟩:A3)) l.length (λj x=>Del l (keep X) x.2 x.1 j) (λt s=>t=1/\∃m' cur' k,s=⟨((m':Nat):Int),((k:Nat):Int),bL tP cur',X⟩/\Del l (keep X) cur' m' k/\l.length<=k) hl (λj x hj hx=>?_) (λj x hj hx=>?_) j (m,cur) hd
 ·obtain⟨m,cur⟩:=x;obtain⟨h1,h2,h3,h4,h5⟩:=hx
  simp only at h1 h2 h3 h4 h5
  have hjc:j<cur.length:=by omega
  have hmc:m<cur.length:=by omega
  have hg:gL tP cur j=gL tP l j:=bd4 tP h3;have hWm:W ((m:Int)+1)=((m+1:Nat):Int):=by rw[Ka7 (by omega) (by omega)];omega
  have hb:Nat.blt m cur.length=true:=by rw[Qiat];exact hmc
  have hrow:d9 (bL tP cur) m=tP.row (gL tP cur m):=fa9 tP hmc;have sp:∀(v:Pln) (x1 x2 x3 x4:Int),T1 (tP.row v) 0 [i x1,i x2,i x3,i x4]=tP.row ⟨⟨x1,x2,x3⟩,x4⟩:=λ_ _ _ _ _=>rfl
  have rl:∀v:Pln,Nat.ble (0+4) (len (tP.row v))=true:=λ_=>rfl
  simp only[H7,M3,Int.toNat_natCast,i6,l4,qd8 hjc,Sc7 hjc,Ad6 _ _ hX,u7 hj (show l.length<=4611686018427387904 by omega),hWm]
  rw[btD (n7 hj),bt (g8 hj)];simp only[Qic,hrow,ja7,hb,sp,ud7,g8 (show m<l.length by omega),hg]
  have ht:=ec7 tP hj;have hd1:cur.drop (j+1)=l.drop (j+1):=Sc9 h3 1;cases hk:keep X (gL tP l j) with
  |true =>
   refine .nx ⟨(m+1,cur.set m (gL tP l j)),rfl,⟨by rw[Qiab];exact h1,?_,?_,by omega,by show m+1<=l.length;omega⟩⟩
   ·show (cur.set m (gL tP l j)).take (m+1)=_;rw[ht,Qiah,Qip (by rw[Qiab];exact hmc),Qias,List.take_set_of_le (Qil _),h2,Qix,hk,if_pos rfl,List.filter_nil]
   ·show (cur.set m (gL tP l j)).drop (j+1)=_;rw[List.drop_set_of_lt (by omega),hd1]
  |false =>
   refine .nx ⟨(m,cur),rfl,⟨h1,?_,hd1,by omega,h5⟩⟩
   show cur.take m=_;rw[ht,Qiah,h2,Qix,hk,if_neg (by simp),List.filter_nil,Qiac]
 ·obtain⟨m,cur⟩:=x;refine⟨1,?_,rfl,m,cur,j,rfl,hx,hj⟩;simp only[H7,M3];rw[bfD (by omega)]
theorem Ke8(l:PLq)(n:Nat):J3 (bL tP l) n=bL tP (l.take n):=by unfold bL;rw[I1,l9,l9,List.map_take]
theorem be1(l:PLq)(n:Nat):j7 (bL tP l) n=bL tP (l.drop n):=by unfold bL;rw[I4,l9,l9,List.map_drop]
theorem Ke9(n:Nat):List.replicate n [i 0,i 0,i 0,i 0]=bL tP (List.replicate n ⟨⟨0,0,0⟩,0⟩):=by unfold bL;rw[l9,List.map_replicate];rfl
theorem Qd8(l:PLq)(X:List Pt)(hl:l.length<=1000000000)(hX:X.length<=1000000000) :
  ∃m r,N2 ⟨l.length,bL tP l,X⟩=⟨1,m,bL tP r,X⟩/\m<=r.length/\r.take m=l.filter (keep X)/\r.length=l.length:=by
 unfold N2 N1;simp only[i6,l4,Af4 l X hl hX];cases ha:l.any λp=>!keep X p with
 |false =>
  refine⟨l.length,l,rfl,Qil _,?_,rfl⟩;rw[List.take_length]
  symm
  rw[List.filter_eq_self];intro p hp
  have:=List.any_eq_false.1 ha p hp
  simpa using this
 |true =>
  have hf:l.findIdx (λp=>!keep X p)<l.length:=by
   rw[Qiao] at ha;obtain⟨p,hp,hc⟩:=ha;exact Qiw ⟨p,hp,hc⟩
  have hk:keep X (gL tP l (l.findIdx λp=>!keep X p))=false:=by
   have:=List.findIdx_getElem (xs:=l) (p:=λp=>!keep X p) (w:=hf)
   rw[Ya0 tP hf];simpa using this
  have ht:=Sc8 (λp=>!keep X p) l
  simp only[Bool.not_not] at ht;generalize hF:l.findIdx (λp=>!keep X p)=F at *
  have hW:W ((F:Int)+1)=((F+1:Nat):Int):=u7 hf (by omega)
  have hne:((F:Int)==-1)=false:=by rw[beq_eq_false_iff_ne];omega
  obtain⟨t,s,e1,rfl,m,cur,k,e2,e3,e4⟩:=qe9 l X hl hX F (F+1) l ⟨rfl,by rw[ec7 tP hf,Qiah,ht,Qix,hk,if_neg (by simp),List.filter_nil,Qiac],rfl,by omega,by omega⟩
  have hm:m<=l.length:=e3.lm;have hin:inB (m:Int) (l.length+1)=true:=g8 (by omega)
  have hfin:cur.take m=l.filter (keep X):=by rw[e3.t,Qiaq e4]
  simp only[if_true,hW,hne,e1,e2,Int.toNat_natCast,hin,Qic,Nat.sub_zero];refine⟨m,cur.take m++(List.replicate (l.length-m) ⟨⟨0,0,0⟩,0⟩++cur.drop (m+(l.length-m))),?_,?_,?_,?_⟩
  ·rw[Ke8,Ke9,be1,ob4,ob4];rfl
  ·rw[Qia,Qia,Qif,Qiy,e3.len];omega
  ·rw[Qis (by rw[Qif,e3.len];omega),List.take_take,Nat.min_self,hfin]
  ·rw[Qia,Qia,Qif,Qiy,Qij,e3.len];omega
def eqP(x y:Pln):Bool:=x.n.x==y.n.x&&(x.n.y==y.n.y&&(x.n.z==y.n.z&&(x.b==y.b&&true)))
theorem Qb5(x y:Pln):eqP x y=true↔x=y:=by
 unfold eqP;simp only[Qiq,Qim,beq_iff_eq];refine⟨λ⟨h1,h2,h3,h4⟩=>?_,λh=>by subst h;exact⟨rfl,rfl,rfl,rfl⟩⟩
 obtain⟨⟨x1,x2,x3⟩,x4⟩:=x;obtain⟨⟨y1,y2,y3⟩,y4⟩:=y
 simp only at h1 h2 h3 h4
 subst h1 h2 h3 h4;rfl
def ddF:Pln->PLq->PLq
 |_,[]=>[]
 |a,x::l=>if eqP x a then ddF x l else x::ddF x l
def dd:PLq->PLq
 |[]=>[]
 |x::l=>x::ddF x l
theorem Le0:∀(a:Pln) (l:PLq),(ddF a l).length<=l.length
 |_,[]=>Qil _
 |a,x::l=>by
  have:=Le0 x l
  unfold ddF
  split<;>simp only[List.length_cons]<;>omega
structure Cmp(l:PLq)(n:Nat)(cur:PLq)(m j:Nat)(R:PLq):Prop where
 len:cur.length=l.length
 t:cur.take m++ddF (gL tP l (j-1)) ((l.take n).drop j)=R
 d:cur.drop (j-1)=l.drop (j-1)
 le:m+1<=j
theorem be2(l:PLq)(n o:Nat)(hn:n<=l.length)(hl:l.length<=1000000000)(ho:o<n)(m:Nat)(cur:PLq)(R:PLq)(hd:Cmp l n cur m (o+1) R) :
  ∃t s,lp (w9 ⟨n,0+o,n-o⟩) ⟨(m:Int),((1:Nat):Int),bL tP cur⟩=(t,s)/\(t=1/\∃m' cur' k,s=⟨((m':Nat):Int),k,bL tP cur'⟩/\cur'.length=l.length/\cur'.take m'=R/\m'<=n):=by
 refine Oa4 (step:=w9 ⟨n,0+o,n-o⟩) (mk:=λj (x:Nat×PLq)=>(⟨(x.1:Int),(j:Int),bL tP x.2⟩:u3)) (n-o) (λj x=>Cmp l n x.2 x.1 (o+j) R/\1<=j/\x.1<=n) (λt s=>t=1/\∃m' cur' k,s=⟨((m':Nat):Int),k,bL tP cur'⟩/\cur'.length=l.length/\cur'.take m'=R/\m'<=n) (by omega) (λj x hj hx=>?_) (λj x hj hx=>?_) 1 (m,cur) ⟨hd,Qil _,by have:=hd.le;show m<=n;omega⟩
 ·obtain⟨m,cur⟩:=x;obtain⟨⟨h1,h2,h3,h4⟩,hj1,hmn⟩:=hx
  simp only at h1 h2 h3 h4 hmn
  have hoj:o+j<n:=by omega
  have hjc:o+j<cur.length:=by omega
  have hjc':o+(j-1)<cur.length:=by omega
  have hmc:m<cur.length:=by omega
  have hg':gL tP cur (o+(j-1))=gL tP l (o+j-1):=by rw[show o+(j-1)=o+j-1 by omega];exact bd4 tP h3
  have hd1:cur.drop (o+j)=l.drop (o+j):=by have:=Sc9 h3 1;rw[show o+j-1+1=o+j by omega] at this;exact this
  have hg:gL tP cur (o+j)=gL tP l (o+j):=bd4 tP hd1;have hWm:W ((m:Int)+1)=((m+1:Nat):Int):=by rw[Ka7 (by omega) (by omega)];omega
  have hWj:W ((j:Int)-1)=((j-1:Nat):Int):=by rw[Ka7 (by omega) (by omega)];omega
  have hb:Nat.blt m cur.length=true:=by rw[Qiat];exact hmc
  have hrow:d9 (bL tP cur) m=tP.row (gL tP cur m):=fa9 tP hmc;have sp:∀(v:Pln) (x1 x2 x3 x4:Int),T1 (tP.row v) 0 [i x1,i x2,i x3,i x4]=tP.row ⟨⟨x1,x2,x3⟩,x4⟩:=λ_ _ _ _ _=>rfl
  have rl:∀v:Pln,Nat.ble 4 (len (tP.row v))=true:=λ_=>rfl
  simp only[w9,S6,Int.toNat_natCast,Qic,hWj,ze1 tP hjc,ze1 tP hjc',ze0 tP hjc,ze0 tP hjc',u7 hj (show n-o<=4611686018427387904 by omega),hWm,hg,hg',hrow,ja7,hb,sp,rl,ud7,g8 (show m<n by omega)]
  rw[btD (n7 hj)];simp only[g8 hj,g8 (show j-1<n-o by omega),f0,Bool.and_self]
  rw[show ((gL tP l (o+j)).n.x==(gL tP l (o+j-1)).n.x&&((gL tP l (o+j)).n.y==(gL tP l (o+j-1)).n.y&&((gL tP l (o+j)).n.z==(gL tP l (o+j-1)).n.z&&((gL tP l (o+j)).b==(gL tP l (o+j-1)).b&&true))))=eqP (gL tP l (o+j)) (gL tP l (o+j-1)) from rfl]
  have hcons:(l.take n).drop (o+j)=gL tP l (o+j)::(l.take n).drop (o+(j+1)):=by
   rw[Qid (by rw[Qif];omega),List.getElem_take,Ya0 tP (by omega)]
   rfl
  rw[hcons] at h2;have hlast:o+(j+1)-1=o+j:=by omega
  unfold ddF at h2;cases he:eqP (gL tP l (o+j)) (gL tP l (o+j-1)) with
  |true =>
   rw[he] at h2;simp only[if_true] at h2;refine .nx ⟨(m,cur),rfl,⟨⟨h1,?_,?_,by show m+1<=o+(j+1);omega⟩,by omega,hmn⟩⟩
   ·rw[hlast];exact h2
   ·rw[hlast];exact hd1
  |false =>
   rw[he] at h2;simp only[Qiaf,if_false] at h2;refine .nx ⟨(m+1,cur.set m (gL tP l (o+j))),rfl,⟨⟨by rw[Qiab];exact h1,?_,?_,by show m+1+1<=o+(j+1);omega⟩,by omega,by show m+1<=n;omega⟩⟩
   ·rw[hlast];show (cur.set m (gL tP l (o+j))).take (m+1)++_=R;rw[Qip (by rw[Qiab];exact hmc),Qias,List.take_set_of_le (Qil _),Qiv]
    exact h2
   ·rw[hlast];show (cur.set m (gL tP l (o+j))).drop (o+j)=_;rw[List.drop_set_of_lt (by omega),hd1]
 ·obtain⟨m,cur⟩:=x;obtain⟨⟨h1,h2,h3,h4⟩,hj1,hmn⟩:=hx
  simp only at h1 h2 h3 h4 hmn
  refine⟨1,?_,rfl,m,cur,_,rfl,h1,?_,hmn⟩
  ·simp only[w9,S6];rw[bfD (by omega)]
  ·rw[Qir (by rw[Qif];omega)] at h2
   unfold ddF at h2;rw[Qiac] at h2;exact h2
theorem Ad7(l:PLq)(n:Nat)(hn:n<=l.length)(hl:l.length<=1000000000) :
  ∃m r,da5 ⟨n,bL tP l⟩=⟨1,m,bL tP r⟩/\m<=r.length/\r.take m=dd (l.take n):=by
 unfold da5 T6
 simp only
 by_cases h2:(n:Int)<2
 ·rw[btD h2];refine⟨n,l,rfl,hn,?_⟩
  have:n=0\/n=1:=by omega
  rcases this with rfl|rfl
  ·rfl
  ·cases l with
   |nil=>rfl
   |cons x l=>rfl
 ·rw[bfD h2];have h1n:1<=n:=by omega
  have hI : ∀ j, j < n → 1 ≤ j → l.take j ++ ddF (gL tP l (j - 1)) ((l.take n).drop j) = dd (l.take n) →
    (eqP (gL tP l j) (gL tP l (j-1))=true->Cmp l n l j (j+1) (dd (l.take n)))/\(eqP (gL tP l j) (gL tP l (j-1))=false->l.take (j+1)++ddF (gL tP l (j+1-1)) ((l.take n).drop (j+1))=dd (l.take n)):=by
   intro j hj hj1 hR;have hcons:(l.take n).drop j=gL tP l j::(l.take n).drop (j+1):=by
    rw[Qid (by rw[Qif];omega),List.getElem_take,Ya0 tP (by omega)]
   rw[hcons] at hR;unfold ddF at hR;constructor
   ·intro he;rw[he] at hR;simp only[if_true] at hR;exact⟨rfl,hR,rfl,Qil _⟩
   ·intro he;rw[he] at hR;simp only[Qiaf,if_false] at hR;rw[ec7 tP (show j<l.length by omega),Qiv]
    exact hR
  have inner:∀k,k<n->1<=k->Cmp l n l k (k+1) (dd (l.take n))->∃m' cur' k',lp (w9 ⟨n,0+k,n-k⟩) ⟨(k:Int),1,bL tP l⟩=(1,⟨((m':Nat):Int),k',bL tP cur'⟩)/\cur'.length=l.length/\cur'.take m'=dd (l.take n)/\m'<=n:=by
   intro k hk hk1 hc;obtain⟨t,s,e1,rfl,m',cur',k',rfl,e2,e3,e4⟩:=be2 l n k hn hl hk k l _ hc;exact⟨m',cur',k',e1,e2,e3,e4⟩
  have key:=Oa4 (step:=U8 ⟨n,bL tP l⟩) (mk:=λj (_:Unit)=>(⟨(j:Int)⟩:A8)) n (λj _=>1<=j/\j<=n/\l.take j++ddF (gL tP l (j-1)) ((l.take n).drop j)=dd (l.take n))
   (λt s=>(t=1/\∃k:Nat,s=⟨(k:Int)⟩/\k<n/\1<=k/\Cmp l n l k (k+1) (dd (l.take n)))\/(t=2/\l.take n=dd (l.take n))) (by omega) (λj x hj hx=>?_) (λj x hj hx=>?_) 1 () ⟨Qil _,h1n,by
    cases l with
    |nil=>simp only[List.length_nil] at hn;omega
    |cons x l =>
     cases n with
     |zero=>omega
     |succ n=>rfl⟩
  ·obtain⟨t,s,e1,e2⟩:=key;rw[show (⟨1⟩:A8)=⟨((1:Nat):Int)⟩ from rfl,e1]
   rcases e2 with⟨rfl,k,rfl,hk,hk1,hc⟩|⟨rfl,he⟩
   ·obtain⟨m',cur',k',e2,e3,e4,e5⟩:=inner k hk hk1 hc;simp only[Int.toNat_natCast,e2];simp only[Qic,Nat.sub_zero];refine⟨m',cur'.take m'++(List.replicate (n-m') ⟨⟨0,0,0⟩,0⟩++cur'.drop (m'+(n-m'))),?_,?_,?_⟩
    ·rw[Ke8,Ke9,be1,ob4,ob4];rfl
    ·rw[Qia,Qif,e3];omega
    ·rw[Qis (by rw[Qif,e3];omega),List.take_take,Nat.min_self,e4]
   ·exact⟨n,l,rfl,hn,he⟩
  ·obtain⟨hj1,hjn,hR⟩:=hx;obtain⟨i1,i2⟩:=hI j hj hj1 hR;have hWj:W ((j:Int)-1)=((j-1:Nat):Int):=by rw[Ka7 (by omega) (by omega)];omega
   have hjl:j<l.length:=by omega
   have hjl':j-1<l.length:=by omega
   simp only[U8,S7,Int.toNat_natCast,hWj,qd8 hjl,qd8 hjl',Sc7 hjl,Sc7 hjl',u7 hj (show n<=4611686018427387904 by omega)]
   rw[btD (n7 hj),bt (g8 hj),bt (g8 (show j-1<n by omega)),bt (g8 (show j<n+1 by omega))]
   simp only[f0];rw[show ((gL tP l j).n.x==(gL tP l (j-1)).n.x&&((gL tP l j).n.y==(gL tP l (j-1)).n.y&&((gL tP l j).n.z==(gL tP l (j-1)).n.z&&((gL tP l j).b==(gL tP l (j-1)).b&&true))))=eqP (gL tP l j) (gL tP l (j-1)) from rfl]
   cases he:eqP (gL tP l j) (gL tP l (j-1)) with
   |false=>exact .nx ⟨(),rfl,by omega,by omega,i2 he⟩
   |true =>
    obtain⟨m',cur',k',e2,e3,e4,e5⟩:=inner j hj hj1 (i1 he);rw[e2];simp only[g8 (show m'<n+1 by omega)]
    exact .ex (.inl ⟨rfl,j,rfl,hj,hj1,i1 he⟩)
  ·obtain⟨hj1,hjn,hR⟩:=hx;refine⟨2,?_,.inr ⟨rfl,?_⟩⟩
   ·simp only[U8,S7];rw[bfD (by omega)]
   ·have:j=n:=by omega
    subst this;rw[Qir (by rw[Qif];omega)] at hR
    unfold ddF at hR;rw[Qiac] at hR;exact hR
theorem kf0(l:PLq)(n:Nat)(hn:n<=l.length):slR tP (bL tP l) 0 n=l.take n:=pc7 tP (by rw[Qif];omega) λk hk=>by
 rw[Qic,fa9 tP (by omega)]
 congr 1;simp[gL,Qie,List.getElem?_take,hk]
theorem kf1(l:PLq)(n:Nat)(hn:n<=l.length):okS tP (bL tP l) 0 n=true:=Sb1 tP (f:=λk=>gL tP l k) λk hk=>by rw[Qic,fa9 tP (by omega)]
def lean(c:PLq):PLq:=if ful c then dd (fb1 (c.filter (keep (pts c)))) else []
theorem Le1(p:Pln)(c:PLq)(hc:c.length<=1000000):Rd (one (r1L tP)) (vb3 (p,c)) (λr=>r=lean (p::c)):=by
 have hl:(p::c).length<=1000000000:=by simp only[List.length_cons];omega
 have hX:=Ke6 (p::c);unfold vb3 lean;simp only[i6,A5,l4,Wf0,Wf1,bd2 hl,bd3 hl,Ad4 hl,Ad5 hl];cases hf:ful (p::c) with
 |false=>exact⟨_,[],rfl,rfl,rfl⟩
 |true =>
  have ec:o7 (λk=>tP.row (gL tP (p::c) k)) (List.range (c.length+1))=bL tP (p::c):=Pc3 tP (p::c)
  have hcl:ya9 (p,c)=⟨1,(p::c).length,bL tP (p::c)⟩:=by
   unfold ya9 aa4;simp only[ec,ja7];have r:Nat.ble ((0+(p::c).length)*32) room=true:=ec6 (by simp only[List.length_cons];omega)
   rw[r,Qic];rfl
  obtain⟨m,r,e1,e2,e3,e4⟩:=Qd8 (p::c) (pts (p::c)) hl (by omega)
  have hm:m<=(p::c).length:=by
   have h1:=congrArg List.length e3;have h2:=List.length_filter_le (keep (pts (p::c))) (p::c);rw[Qif] at h1;omega
  have hs:(fb1 (r.take m)).length=m:=by rw[Ac4,Qif];omega
  have hrows:app (bL tP (fb1 (r.take m))) (j7 (bL tP r) m)=bL tP (fb1 (r.take m)++r.drop m):=by rw[be1,ob4]
  have hok:okL tP (c.length+1) (λk=>tP.row (gL tP (p::c) k))=true:=Sb1 tP (f:=λk=>gL tP (p::c) k) λ_ _=>rfl
  simp only[hcl,e1,kf0 r m e2,kf1 r m e2,hrows,hok];obtain⟨m2,r2,k1,k2,k3⟩:=Ad7 (fb1 (r.take m)++r.drop m) m (by rw[Qia,hs];omega) (by rw[Qia,hs,Qij,e4];omega)
  rw[k1,ja7];have q1:Nat.ble m room=true:=by rw[Qiau];unfold room;simp only[List.length_cons] at hm;omega
  have q2:Nat.ble m r.length=true:=by rw[Qiau];exact e2
  rw[q1,q2];have hfin:r2.take m2=dd (fb1 ((p::c).filter (keep (pts (p::c))))):=by
   rw[k3,Qis (by rw[hs];omega),Qiaq (by rw[hs];omega),e3]
  exact jf9 k2 rfl hfin
theorem Rf3(p:Pln)(c:PLq)(hc:c.length<=1000000):hd9 (p,c)=lean (p::c):=(Le1 p c hc).p
theorem Rf4(p:Pln)(c:PLq)(hc:c.length<=1000000):id3 (p,c)=true:=(Le1 p c hc).g
end Go.Ev.Ce
namespace Go.Ev.Ce
open Go Go.Ev Go.Ev.L Go.Proofs Go.Sort
theorem Ad8(l:PLq):List.Perm (fb1 l) l:=List.mergeSort_perm l _
theorem Ue6(x y z:Pln)(h1:(!ltOf Nb2 y x)=true)(h2:(!ltOf Nb2 z y)=true):(!ltOf Nb2 z x)=true:=by
 simp only[Qiaj,qb0,decide_eq_false_iff_not] at *
 unfold LtP at *
 omega
theorem Ue7(x y:Pln):((!ltOf Nb2 y x)||!ltOf Nb2 x y)=true:=by
 simp only[Bool.or_eq_true,Qiaj,qb0,decide_eq_false_iff_not];unfold LtP;omega
theorem be3(l:PLq):(fb1 l).Pairwise λx y=>(!ltOf Nb2 y x)=true:=List.pairwise_mergeSort Ue6 Ue7 l
instance:DecidableEq Pln:=λx y=>decidable_of_iff _ (Qb5 x y)
def PC:List Pt:=[⟨0,0,0,1⟩,⟨0,0,1,4⟩,⟨0,1,0,3⟩,⟨1,0,0,2⟩]
theorem De7:ful []=true:=by kernel_rfl
end Go.Ev.Ce
namespace Go.Ev.L
open Go Go.Ev
def Rf5:Cod Unit where
 enc _:=.v (.slice none 0 0)
 dec x:=match x with
  |.v (.slice none 0 0)=>some ()
  |_=>none
 grd _:=true
 ok x a hx _:=by
  split at hx
  ·exact .refl _
  ·cases hx
def cE0:Cod (Addr×Nat) where
 enc z:=.v (.slice (some z.1) 0 z.2)
 dec x:=match x with
  |.v (.slice (some a) 0 c)=>some (a,c)
  |_=>none
 grd _:=true
 ok x a hx _:=by
  split at hx
  ·cases hx;exact .refl _
  ·cases hx
section
variable{α:Type}{t:Ty α}{P:Program}{G:Nat->List Value}{f:FuncId}
theorem be4{β:Type}{c:Cod β}{k k':β->DT (c7×List c8)}(h:g9 P G f (ga4 c k))(hk:∀a r,(k' a).run=some r->(k a).run=some r):g9 P G f (ga4 c k'):=h.le λargs blks r hr=>by
 unfold ga4 at hr ⊢
 split at hr
 ·obtain⟨a,h1,hr⟩:=U6 hr;obtain⟨g,hr⟩:=DT.run_guard_some hr;simp only[h1,onO,g];exact hk a r hr
 ·cases hr
theorem Rf6{k:List α->DT (c7×List c8)}(hA:g9 P G f (ga4 (bf6 t) λz=>k (z.1::z.2)))(hN:g9 P G f (ga4 Rf5 λ_=>k []))(hE:g9 P G f (ga4 cE0 λ_=>k [])):g9 P G f (ga4 (ta2 t) k):=by
 intro args blks r out he W ρ F w args' hH hlen hargs hG;unfold ga4 at he
 split at he
 ·rename_i x;obtain⟨a,h1,he⟩:=U6 he;obtain⟨g1,hk⟩:=DT.run_guard_some he;have nilCase:∀v',args'[0]?=some v'->v'=.slice none 0 0->a=[]->Gb4 P f/\Calls P f args'.toArray w λe w'=>∃r',e=.returned r'/\S4 W ρ [] F w r out r' w':=λv' hv e ha=>by
   subst ha;refine hN [.v (.slice none 0 0)] [] r out ?_ W ρ F w args' hH hlen (λi x' y' hx hy=>?_) hG
   ·exact hk
   ·match i with
    |0=>cases hx;rw[hv] at hy;cases hy;rw[e];exact .val (.cell (.v _))
    |i+1=>cases hx
  have emptyCase:∀v' ad c,args'[0]?=some v'->v'=.slice (some ad) 0 c->a=[]->Gb4 P f/\Calls P f args'.toArray w λe w'=>∃r',e=.returned r'/\S4 W ρ [] F w r out r' w':=λv' ad c hv e ha=>by
   subst ha;refine hE [.v (.slice (some ad) 0 c)] [] r out ?_ W ρ F w args' hH hlen (λi x' y' hx hy=>?_) hG
   ·exact hk
   ·match i with
    |0=>cases hx;rw[hv] at hy;cases hy;rw[e];exact .val (.cell (.v _))
    |i+1=>cases hx
  obtain⟨v',hv⟩:∃v',args'[0]?=some v':=by
   cases args' with
   |nil=>simp at hlen
   |cons v' r'=>exact⟨v',rfl⟩
  cases x with
  |tree e n get =>
   have hb:Nat.beq e t.es=true/\a=lsL t n get:=by
    have h1:(Bool.rec none (some (lsL t n get)) (Nat.beq e t.es):Option (List α))=some a:=h1;cases hb:Nat.beq e t.es with
    |false=>rw[hb] at h1;cases h1
    |true =>
     rw[hb] at h1;have h1:some (lsL t n get)=some a:=h1;injection h1 with h1;exact⟨rfl,h1.symm⟩
   cases n with
   |zero =>
    have ha:a=[]:=hb.2;have hm:=Ca8 (hargs 0 _ v' rfl hv);cases hm with
    |tree _ _ _ ad cap cs hs hcap hes hF hw hr=>exact emptyCase _ ad cap hv rfl ha
    |nil=>exact nilCase _ hv rfl ha
   |succ m =>
    have ha:a=hC t get::tC t m get:=hb.2.trans (je5 t m get);subst ha;refine hA [.tree e (m+1) get] [] r out ?_ W ρ F w args' hH hlen hargs hG;have hc:(bf6 t).dec (.tree e (m+1) get)=some (hC t get,tC t m get):=by
     show (Bool.rec none (some (hC t get,tC t m get)) (Nat.beq e t.es):Option (α×List α))=_;rw[hb.1]
    have hg:(bf6 t).grd (.tree e (m+1) get)=true:=g1;simp only[ga4,hc,onO,hg];exact hk
  |v q =>
   have hq:=ga5 (hargs 0 _ v' rfl hv);unfold ta2 at h1
   simp only at h1
   split at h1
   ·rename_i heq;cases heq
   ·rename_i heq;injection heq with heq;injection h1 with h1;exact nilCase v' hv (hq.trans heq) h1.symm
   ·rename_i ad c heq;injection heq with heq;injection h1 with h1;exact emptyCase v' _ _ hv (hq.trans heq) h1.symm
   ·cases h1
  |_=>cases h1
 ·cases he
end
end Go.Ev.L
namespace Go.Ev.Ce
open Go Go.Ev Go.Ev.L Go.Proofs
set_option maxRecDepth 100000
def Jb7:List (Nat×Sum):=[]
theorem Cc2:i9 prog G Jb7:=trivial
@[reducible] noncomputable def Qb6:Sum:=Wb0 (En Jb7) If4
theorem Kc2:g9 prog G 153 Qb6:=bd mg9 Cc2
def Jb8:List (Nat×Sum):=[]
theorem Cc3:i9 prog G Jb8:=trivial
@[reducible] noncomputable def Qb7:Sum:=Wb0 (En Jb8) If3
theorem Kc3:g9 prog G 152 Qb7:=bd mg8 Cc3
def Yb1:List (Nat×Sum):=[(152,Qb7),(153,Qb6)]
theorem Tc0:i9 prog G Yb1:=⟨Kc3,Kc2,trivial⟩
@[reducible] noncomputable def jc9:Sum:=Wb0 (En Yb1) If0
theorem bd5:g9 prog G 131 jc9:=bd lg7 Tc0
structure J8 where
def na2:List (Nat×Sum):=[]
theorem Sa1:i9 prog G na2:=trivial
structure B9 where
structure o4 where
def la0(p:B9)(s:o4):St:=⟨.v (.slice none 0 0)::i 0::i 0::.fn 110 []::ra 4 (i 1::ra 44 []),[]⟩
def Q0{α:Type}(k:o4->α)(e:Nat->α)(z:α)(p:B9)(s:o4):α:=(e 1)
def S1(p:B9)(s:o4):Stp o4:=Q0 .next .exit .fail p s
def S8:Lo B9 o4:=⟨En na2,0,If2,[1,4,4],[0,1,2,3,8],.p,[⟨.s (.o .nil)::.s (.o (.lit .i64 0))::.s (.o (.lit .i64 0))::.s (.o (.fn 110))::ru2 4 (.s (.o (.lit .i64 1))::ru2 44 []),[],λa H=>(⟨⟩,⟨⟩)⟩],S1,[(some 0,λp s=>upq (la0 p s) [(12,i 1),(13,i 0),(14,b false)])],la0⟩
theorem Pa1:S8.Ok:=Lo.ok [] (by kernel_rfl) .nil rfl (.cons (λa H=>by kernel_rfl) .nil) λp s=>(.of @Q0 (λF _ _ _ _ _=>by unfold Q0;(repeat' apply j6 (f:=F))<;>rfl) (by kernel_rfl))
structure J9 where
 alt:Nat
def v7{α:Type}(kk:J9->α)(x:J8):α:=let t1:=(lp (S1 (⟨⟩:B9)) (⟨⟩:o4));(sl (Nat.beq t1.1 1) (kk ⟨1⟩) (kk ⟨0⟩))
def K0(x:J8):J9:=v7 (λr=>r) x
def T7(x:J8)(r:J9):DT (c7×List c8):=(.ite (Nat.beq r.alt 1) (.ret (.tup [],[])) .fail)
theorem Ya7{α β:Type}(F:α->β)(kk:J9->α)(x:J8):F (v7 kk x)=v7 (λr=>F (kk r)) x:=by unfold v7;(repeat' apply j6 (f:=F))<;>rfl
def pa7:Sum:=Ma9 ⟨[.s (.o .nil),.s (.o (.lit .i64 0)),.s (.o (.lit .i64 0)),.s (.o (.fn 110))],[],λa H=>(⟨⟩,())⟩ (λx=>T7 x (K0 x))
theorem Va7:g9 prog G 144 pa7:=F6 (enc:=λx=>⟨[.v (.slice none 0 0),i 0,i 0,.fn 110 []],[]⟩) (λa H=>by kernel_rfl) (bd mg7 Sa1) λx=>Ia8 (.s .p (.b (.u S8.ls))) [S8.pr] (by kernel_rfl) (.cons Pa1 .nil) (Qit (b:=v7 (λr=>(T7 x r).run) x) (by kernel_rfl) (Ya7 (λr=>(T7 x r).run) (λr=>r) x).symm)
structure T8 where
def Ba9:List (Nat×Sum):=[(144,pa7)]
theorem kb9:i9 prog G Ba9:=⟨Va7,trivial⟩
structure I6 where
structure u9 where
def gb2(p:I6)(s:u9):St:=⟨.v (.slice none 0 0)::i 0::i 0::i 0::.fn 110 []::ra 5 (b true::b true::ra 136 []),[]⟩
def N8{α:Type}(k:u9->α)(e:Nat->α)(z:α)(p:I6)(s:u9):α:=let t1:=(K0 ⟨⟩);(sl (Nat.beq t1.alt 1) (e 1) z)
def O9(p:I6)(s:u9):Stp u9:=N8 .next .exit .fail p s
def da6:Lo I6 u9:=⟨En Ba9,0,Hf9,[1,1,4,4],[0,1,2,3,4,10,11],.p,[⟨.s (.o .nil)::.s (.o (.lit .i64 0))::.s (.o (.lit .i64 0))::.s (.o (.lit .i64 0))::.s (.o (.fn 110))::ru2 5 (.s (.o (.blit true))::.s (.o (.blit true))::ru2 136 []),[],λa H=>(⟨⟩,⟨⟩)⟩],O9,[(none,λp s=>⟨[.tup []],[]⟩)],gb2⟩
theorem gb3:da6.Ok:=Lo.ok [] (by kernel_rfl) .nil rfl (.cons (λa H=>by kernel_rfl) .nil) λp s=>(.of @N8 (λF _ _ _ _ _=>by unfold N8;(repeat' apply j6 (f:=F))<;>rfl) (by kernel_rfl))
structure T9 where
 alt:Nat
def D8{α:Type}(kk:T9->α)(x:T8):α:=let t1:=(lp (O9 (⟨⟩:I6)) (⟨⟩:u9));(sl (Nat.beq t1.1 1) (kk ⟨1⟩) (kk ⟨0⟩))
def U0(x:T8):T9:=D8 (λr=>r) x
def ga9(x:T8)(r:T9):DT (c7×List c8):=(.ite (Nat.beq r.alt 1) (.ret (.tup [],[])) .fail)
theorem qb2{α β:Type}(F:α->β)(kk:T9->α)(x:T8):F (D8 kk x)=D8 (λr=>F (kk r)) x:=by unfold D8;(repeat' apply j6 (f:=F))<;>rfl
def Ea6:Sum:=Ma9 ⟨[.s (.o .nil),.s (.o (.lit .i64 0)),.s (.o (.lit .i64 0)),.s (.o (.lit .i64 0)),.s (.o (.fn 110))],[],λa H=>(⟨⟩,())⟩ (λx=>ga9 x (U0 x))
theorem mb9:g9 prog G 130 Ea6:=F6 (enc:=λx=>⟨[.v (.slice none 0 0),i 0,i 0,i 0,.fn 110 []],[]⟩) (λa H=>by kernel_rfl) (bd lg6 kb9) λx=>Ia8 (.s .p (.s .p (.b (.u da6.ls)))) [da6.pr] (by kernel_rfl) (.cons gb3 .nil) (Qit (b:=D8 (λr=>(ga9 x r).run) x) (by kernel_rfl) (qb2 (λr=>(ga9 x r).run) (λr=>r) x).symm)
structure la5 where
def Nb3:List (Nat×Sum):=[(130,Ea6),(131,jc9)]
theorem Jb9:i9 prog G Nb3:=⟨mb9,bd5,trivial⟩
structure la6 where
 alt:Nat
def P5{α:Type}(kk:la6->α)(x:la5):α:=let t1:=(U0 ⟨⟩);(sl (Nat.beq t1.alt 1) (kk ⟨1⟩) (kk ⟨0⟩))
def la7(x:la5):la6:=P5 (λr=>r) x
def wa4(x:la5)(r:la6):DT (c7×List c8):=(.ite (Nat.beq r.alt 1) (.ret (.tup [],[])) .fail)
theorem Ub3{α β:Type}(F:α->β)(kk:la6->α)(x:la5):F (P5 kk x)=P5 (λr=>F (kk r)) x:=by unfold P5;(repeat' apply j6 (f:=F))<;>rfl
def bb0:Sum:=Ma9 ⟨[.s (.o .nil),.s (.o (.fn 110))],[],λa H=>(⟨⟩,())⟩ (λx=>wa4 x (la7 x))
theorem Nb4:g9 prog G 109 bb0:=F6 (enc:=λx=>⟨[.v (.slice none 0 0),.fn 110 []],[]⟩) (λa H=>by kernel_rfl) (bd kg0 Jb9) λx=>B7 (Qit (b:=P5 (λr=>(wa4 x r).run) x) (by kernel_rfl) (Ub3 (λr=>(wa4 x r).run) (λr=>r) x).symm)
structure ia4 where
 i7:List Pt
def Sa2:List (Nat×Sum):=[]
theorem Db6:i9 prog G Sa2:=trivial
structure R3 where
 i7:List Pt
structure D2 where
def Ka9(p:R3)(s:D2):St:=⟨.v (.slice none 0 0)::.fn 108 [.ptr 0 0 0 0]::ra 5 (i 0::i 0::ra 10 []),[⟨0,1,[[eL tX p.i7]],true,false,0⟩]⟩
def ma8{α:Type}(k:D2->α)(e:Nat->α)(z:α)(p:R3)(s:D2):α:=(e 1)
def oa9(p:R3)(s:D2):Stp D2:=ma8 .next .exit .fail p s
def sa2:Lo R3 D2:=⟨En Sa2,1,me1,[1,0,1,4,4],[0,1,7,8],.p,[⟨.s (.o .nil)::.fn 108 [.o (.ptr 0 0 0 0)]::ru2 5 (.s (.o (.lit .i64 0))::.s (.o (.lit .i64 0))::ru2 10 []),[⟨0,1,true,some [[.c 4 (nL tX)]]⟩],λa H=>(⟨hLq tX H 0 0 0⟩,⟨⟩)⟩],oa9,[(some 0,λp s=>upq (Ka9 p s) [(9,b false)])],Ka9⟩
theorem zb3:sa2.Ok:=Lo.ok [] (by kernel_rfl) .nil rfl (.cons (λa H=>by kernel_rfl) .nil) λp s=>(.of @ma8 (λF _ _ _ _ _=>by unfold ma8;(repeat' apply j6 (f:=F))<;>rfl) (by kernel_rfl))
structure ia5 where
 alt:Nat
 i7:List Pt
def N4{α:Type}(kk:ia5->α)(x:ia4):α:=let t1:=(lp (oa9 (⟨rt tX x.i7⟩:R3)) (⟨⟩:D2));(sl ((cnE tX x.i7)&&true) (sl (Nat.beq t1.1 1) (kk ⟨1,rt tX x.i7⟩) (kk ⟨0,[]⟩)) (kk ⟨0,[]⟩))
def wa5(x:ia4):ia5:=N4 (λr=>r) x
def ua6(x:ia4)(r:ia5):DT (c7×List c8):=(.ite (Nat.beq r.alt 1) (.ret (i (-1),[⟨0,1,[[eL tX r.i7]],true,false,0⟩])) .fail)
theorem Nb5{α β:Type}(F:α->β)(kk:ia5->α)(x:ia4):F (N4 kk x)=N4 (λr=>F (kk r)) x:=by unfold N4;(repeat' apply j6 (f:=F))<;>rfl
def Ya1:Sum:=Ma9 ⟨[.s (.o .nil),.fn 108 [.o (.ptr 0 0 0 0)]],[⟨0,1,true,some [[.c 4 (nL tX)]]⟩],λa H=>(⟨hLq tX H 0 0 0⟩,())⟩ (λx=>ua6 x (wa5 x))
theorem Kb0:g9 prog G 118 Ya1:=F6 (enc:=λx=>⟨[.v (.slice none 0 0),.fn 108 [.ptr 0 0 0 0]],[⟨0,1,[[eL tX x.i7]],true,false,0⟩]⟩) (λa H=>by kernel_rfl) (bd xf9 Db6) λx=>Ia8 (.s .p (.s (.s .p (.b (.u sa2.ls))) .p)) [sa2.pr] (by kernel_rfl) (.cons zb3 .nil) (Qit (b:=N4 (λr=>(ua6 x r).run) x) (by kernel_rfl) (Nb5 (λr=>(ua6 x r).run) (λr=>r) x).symm)
structure da7 where
 i7:List Pt
def Db7:List (Nat×Sum):=[(118,Ya1)]
theorem zb4:i9 prog G Db7:=⟨Kb0,trivial⟩
structure da8 where
 alt:Nat
 i7:List Pt
def K5{α:Type}(kk:da8->α)(x:da7):α:=let t1:=(wa5 ⟨rt tX x.i7⟩);(sl ((cnE tX x.i7)&&true) (sl (Nat.beq t1.alt 1) (kk ⟨1,t1.i7⟩) (kk ⟨0,[]⟩)) (kk ⟨0,[]⟩))
def da9(x:da7):da8:=K5 (λr=>r) x
def sa3(x:da7)(r:da8):DT (c7×List c8):=(.ite (Nat.beq r.alt 1) (.ret (.v (.slice none 0 0),[⟨0,1,[[eL tX r.i7]],true,false,0⟩])) .fail)
theorem Kb1{α β:Type}(F:α->β)(kk:da8->α)(x:da7):F (K5 kk x)=K5 (λr=>F (kk r)) x:=by unfold K5;(repeat' apply j6 (f:=F))<;>rfl
def Sa3:Sum:=Ma9 ⟨[.s (.o .nil),.fn 108 [.o (.ptr 0 0 0 0)]],[⟨0,1,true,some [[.c 4 (nL tX)]]⟩],λa H=>(⟨hLq tX H 0 0 0⟩,())⟩ (λx=>sa3 x (da9 x))
theorem Db8:g9 prog G 107 Sa3:=F6 (enc:=λx=>⟨[.v (.slice none 0 0),.fn 108 [.ptr 0 0 0 0]],[⟨0,1,[[eL tX x.i7]],true,false,0⟩]⟩) (λa H=>by kernel_rfl) (bd ag3 zb4) λx=>Ia8 .p [] (by kernel_rfl) .nil (Qit (b:=K5 (λr=>(sa3 x r).run) x) (by kernel_rfl) (Kb1 (λr=>(sa3 x r).run) (λr=>r) x).symm)
structure na3 where
def Ub4:List (Nat×Sum):=[]
theorem Nb6:i9 prog G Ub4:=trivial
structure na4 where
def aa5{α:Type}(kk:na4->α)(x:na3):α:=(kk ⟨⟩)
def Yb2(x:na3):na4:=aa5 (λr=>r) x
def Ba2(x:na3)(r:na4):DT (c7×List c8):=.ret (.v (.slice none 0 0),[])
theorem Yb3{α β:Type}(F:α->β)(kk:na4->α)(x:na3):F (aa5 kk x)=aa5 (λr=>F (kk r)) x:=by unfold aa5;(repeat' apply j6 (f:=F))<;>rfl
def fb3:Sum:=Ma9 ⟨[.s (.o .nil)],[],λa H=>(⟨⟩,())⟩ (λx=>Ba2 x (Yb2 x))
theorem Ub5:g9 prog G 111 fb3:=F6 (enc:=λx=>⟨[.v (.slice none 0 0)],[]⟩) (λa H=>by kernel_rfl) (bd ag4 Nb6) λx=>Ia8 .p [] (by kernel_rfl) .nil (Qit (b:=aa5 (λr=>(Ba2 x r).run) x) (by kernel_rfl) (Yb3 (λr=>(Ba2 x r).run) (λr=>r) x).symm)
def ec8:List (Nat×Sum):=[]
theorem Yb4:i9 prog G ec8:=trivial
structure va6 where
def ja1{α:Type}(kk:va6->α)(x:Unit):α:=(kk ⟨⟩)
def mc0(x:Unit):va6:=ja1 (λr=>r) x
def Ha4(r:va6):DT (c7×List c8):=.ret (.v (.slice none 0 0),[])
theorem mc1{α β:Type}(F:α->β)(kk:va6->α)(x:Unit):F (ja1 kk x)=ja1 (λr=>F (kk r)) x:=by unfold ja1;(repeat' apply j6 (f:=F))<;>rfl
def nb3:Sum:=ga4 Rf5 (λx=>Ha4 (mc0 x))
theorem ec9:g9 prog G 75 nb3:=ib1 (bd b75 Yb4) λx=>B7 (Qit (b:=ja1 (λr=>(Ha4 r).run) x) (by kernel_rfl) (mc1 (λr=>(Ha4 r).run) (λr=>r) x).symm)
def Id8:List (Nat×Sum):=[(39,Ra5),(106,sb3),(75,nb3),(107,Sa3),(109,bb0),(111,fb3)]
theorem Ad9:i9 prog G Id8:=⟨Va6,Jb1,ec9,Db8,Nb4,Ub5,trivial⟩
def lb0(x:Unit):ROq:=let t1:=(ya5 []);let t2:=(Ma2 []);let t4:=(da9 ⟨rt tX t2⟩);let t5:=(la7 ⟨⟩);(sl (ya6 []) (sl (!t1) (some (.v (.slice none 0 0),[])) (sl (Ma3 []) (sl ((cnE tX t2)&&true) (sl (Nat.beq t4.alt 1) (sl (Nat.beq t5.alt 1) (some (.v (.slice none 0 0),[])) none) none) none) none)) none)
def fc0(x:Unit):PLq:=ba8 (one (r1L tP)) (lb0 x)
def fc1(x:Unit):Bool:=okO (one (r1L tP)) (lb0 x)
def be5:Sum:=ga4 Rf5 (λx=>.guard (fc1 x) (.ret ((one (r1L tP)).enc (fc0 x),[])))
theorem Id9:g9 prog G 87 be5:=db8 (bd b87 Ad9) (one (r1L tP)) (o:=lb0) λx=>B7 (by kernel_rfl)
def fc2:List (Nat×Sum):=[]
theorem Yb5:i9 prog G fc2:=trivial
structure va7 where
def ja2{α:Type}(kk:va7->α)(x:Addr×Nat):α:=(kk ⟨⟩)
def mc2(x:Addr×Nat):va7:=ja2 (λr=>r) x
def Ha5(r:va7):DT (c7×List c8):=.ret (.sl 0 0 0 0,[⟨66,4,[],true,false,0⟩])
theorem mc3{α β:Type}(F:α->β)(kk:va7->α)(x:Addr×Nat):F (ja2 kk x)=ja2 (λr=>F (kk r)) x:=by unfold ja2;(repeat' apply j6 (f:=F))<;>rfl
def nb4:Sum:=ga4 cE0 (λx=>Ha5 (mc2 x))
theorem fc3:g9 prog G 75 nb4:=ib1 (bd b75 Yb5) λx=>B7 (Qit (b:=ja2 (λr=>(Ha5 r).run) x) (by kernel_rfl) (mc3 (λr=>(Ha5 r).run) (λr=>r) x).symm)
def Jd0:List (Nat×Sum):=[(39,Ra5),(106,sb3),(75,nb4),(107,wa3),(109,Ea5),(111,Ha1)]
theorem Bd0:i9 prog G Jd0:=⟨Va6,Jb1,fc3,Ra8,ab7,fb0,trivial⟩
def lb1(x:Addr×Nat):ROq:=let t1:=(ya5 []);let t2:=(Ma2 []);let t4:=(N2 ⟨0,[],rt tX t2⟩);let t5:=(da5 ⟨t4.ns0,app (bL tP (fb1 (slR tP t4.eh0 0 t4.ns0))) (j7 t4.eh0 t4.ns0)⟩);(sl (ya6 []) (sl (!t1) (some (.v (.slice none 0 0),[])) (sl (Ma3 []) (sl ((cnE tX t2)&&true) (sl (Nat.beq t4.alt 1) (sl (Bool.and (Nat.ble t4.ns0 room) (Bool.and (Nat.ble t4.ns0 (len t4.eh0)) (okS tP t4.eh0 0 t4.ns0))) (sl (Nat.beq t5.alt 1) (some (.sl 0 0 t5.ns0 0,[⟨66,4,t5.eh0,true,false,0⟩])) none) none) none) none) none)) none)
def Tc1(x:Addr×Nat):PLq:=ba8 (one (r1L tP)) (lb1 x)
def Tc2(x:Addr×Nat):Bool:=okO (one (r1L tP)) (lb1 x)
def be6:Sum:=ga4 cE0 (λx=>.guard (Tc2 x) (.ret ((one (r1L tP)).enc (Tc1 x),[])))
theorem Jd1:g9 prog G 87 be6:=db8 (bd b87 Bd0) (one (r1L tP)) (o:=lb1) λx=>B7 (by kernel_rfl)
theorem be7{σ:Type}{step:σ->Stp σ}{s:σ}{t:Nat}(h:step s=.exit t):lp step s=(t,s):=by rw[bf1];exact ud3 h
theorem Qd9:fb1 []=[]:=Qiad (Ac4 [])
theorem re0:lean []=[]:=by
 unfold lean;rw[De7,if_pos rfl,List.filter_nil,Qd9];rfl
theorem ng5(X:List Pt):da9 ⟨X⟩=⟨1,X⟩:=by
 unfold da9 K5 wa5 N4;simp only[i6,l4];rw[be7 (step:=oa9 ⟨X⟩) (s:=⟨⟩) (t:=1) rfl];rfl
theorem bg9:la7 ⟨⟩=⟨1⟩:=by
 have h1:K0 ⟨⟩=⟨1⟩:=by
  unfold K0 v7
  simp only
  rw[be7 (step:=S1 ⟨⟩) (s:=⟨⟩) (t:=1) rfl];rfl
 have h2:U0 ⟨⟩=⟨1⟩:=by
  unfold U0 D8
  simp only
  rw[be7 (step:=O9 ⟨⟩) (s:=⟨⟩) (t:=1) (by
   unfold O9 N8;simp only[h1]
   rfl)]
  rfl
 unfold la7 P5;simp only[h2];rfl
theorem re1(x:Unit):lb0 x=some (.v (.slice none 0 0),[]):=by
 have hn:([]:PLq).length<=1000000000:=by simp
 unfold lb0;simp only[i6,l4,bd2 hn,bd3 hn,Ad4 hn,Ad5 hn,De7,ng5,bg9];rfl
theorem re2(x:Addr×Nat):Rd (one (r1L tP)) (lb1 x) (λr=>r=[]):=by
 have hn:([]:PLq).length<=1000000000:=by simp
 have hX:=Ke6 [];obtain⟨m,r,e1,e2,e3,e4⟩:=Qd8 [] (pts []) hn (by omega)
 have hr:r=[]:=Qiad (by simpa using e4)
 subst hr;have hm:m=0:=by simpa using e2
 subst hm;obtain⟨m2,r2,k1,k2,k3⟩:=Ad7 [] 0 (by simp) hn
 have e1:N2 ⟨0,[],pts []⟩=_:=e1;unfold lb1;simp only[i6,l4,bd2 hn,bd3 hn,Ad4 hn,Ad5 hn,De7,e1];have hs:app (bL tP (fb1 (slR tP (bL tP []) 0 0))) (j7 (bL tP []) 0)=bL tP []:=by
  rw[show slR tP (bL tP []) 0 0=[] from rfl,Qd9];rfl
 rw[hs,k1];have hfin:r2.take m2=[]:=by rw[k3];rfl
 exact jf9 (P:=λr=>r=[]) k2 rfl hfin
def U1(l:PLq):PLq:=lean l
def U2(l:PLq):Bool:=decide (l.length<=1000000)
def fc4:Sum:=ga4 (ta2 tP) λl=>.guard (U2 l) (.ret ((one (r1L tP)).enc (U1 l),[]))
theorem Fc9:g9 prog G 87 fc4:=by
 refine Rf6 (be4 ae0 λa r hr=>?_) (be4 Id9 λa r hr=>?_) (be4 Jd1 λa r hr=>?_)
 ·obtain⟨p,c⟩:=a;obtain⟨hg,hr⟩:=DT.run_guard_some hr;have hl:c.length<=1000000:=by
   have:=of_decide_eq_true hg
   simp only[List.length_cons] at this;omega
  rw[Rf3 p c hl,Rf4 p c hl];exact hr
 ·obtain⟨hg,hr⟩:=DT.run_guard_some hr;have e:fc0 a=lean []:=by unfold fc0;rw[re1,re0];exact fb2 _ rfl
  have e2:fc1 a=true:=by unfold fc1;rw[re1];exact vb4 (r:=[]) _ rfl
  rw[e,e2];exact hr
 ·obtain⟨hg,hr⟩:=DT.run_guard_some hr;have e:Tc1 a=lean []:=by rw[re0];exact (re2 a).p
  rw[e,show Tc2 a=true from (re2 a).g]
  exact hr
end Go.Ev.Ce
