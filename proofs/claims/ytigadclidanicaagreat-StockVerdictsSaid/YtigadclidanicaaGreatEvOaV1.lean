/- Own work. -/
import Derived.Test.YtigadclidanicaaGreatEvOaD7
set_option linter.all false
noncomputable section
def Qia:=@List.length_take
def Qib:=@List.length_drop
def Qic:=@List.drop_zero
def Qid:=@List.drop_eq_getElem_cons
def Qie:=@Nat.lt_irrefl
def Qif:=@List.getElem_mem
def Qig:=@List.length_set
def Qih:=@List.not_all_eq_any_not
def Qii:=@Bool.and_true
def Qij:=@List.take_succ_eq_append_getElem
def Qik:=@List.drop_eq_nil_of_le
def Qil:=@List.take_append_of_le_length
def Qim:=@Nat.beq_refl
def Qin:=@Nat.gcd_pos_of_pos_right
def Qio:=@List.append_assoc
def Qip:=@List.take_of_length_le
def Qiq:=@List.findIdx_lt_length_of_exists
def Qir:=@List.filter_cons
def Qis:=@List.mem_append
def Qit:=@Bool.not_false
def Qiu:=@Bool.false_eq_true
def Qiv:=@Int.emod_lt_of_pos
def Qiw:=@List.filter_append
def Qix:=@Nat.gcd_zero_left
def Qiy:=@Nat.ble_eq
def Qiz:=@Int.ofNat_lt
def Qiaa:=@Nat.gcd_le_right
def Qiab:=@List.not_mem_nil
def Qiac:=@Bool.not_eq_true
def Qiad:=@List.any_eq_true
def Qiae:=@Int.emod_nonneg
def Qiaf:=@List.drop_drop
def Qiag:=@List.getElem_set_self
def Qiah:=@List.map_drop
namespace Go.Ev.Ce
open Go Go.Ev Go.Ev.L Go.Proofs
set_option maxRecDepth 100000
def Wa0{α:Type}(kk:Qa2->α)(x:Pln×PLq):α:=let y0:=(List.range (List.length x.2+1));(sl (Nat.beq 0 0&&Nat.ble ((0+(len (s5 (λk=>(tP).row (gL tP (x.1::x.2) k)) y0)))*32) room) (kk ⟨1,(0+(len (s5 (λk=>(tP).row (gL tP (x.1::x.2) k)) y0))),(app [] (s5 (λk=>(tP).row (gL tP (x.1::x.2) k)) y0))⟩) (kk ⟨0,0,[]⟩))
def za0(x:Pln×PLq):Qa2:=Wa0 (λr=>r) x
def wb2(r:Qa2):DT (b7×List c7):=(Ma1 r.alt 1 (.sl 0 0 r.ns0 0,[bq 66 4 r.eh0]) .fail)
def Eb8:Sum:=S7 (uf9 tP) (λx=>wb2 (za0 x))
theorem Ac7:l8 prog G 75 Eb8:=Zb2 (bd b75 ya0) λx=>Fa0 (mEq @Wa0 (λr=>(wb2 r).run) x)
def re3:List (Nat×Sum):=[(39,Eb5),(106,Bb8),(75,Eb8),(107,va8),(109,Ga0),(111,La1)]
theorem Xd6:A4 prog G re3:=⟨sb4,Ub2,Ac7,Va7,gb2,nb3,trivial⟩
def Eb9(x:Pln×PLq):ROq:=let y0:=(rt tP (x.1::x.2));let t1:=(Va1 y0);let t2:=(Pa2 y0);let t3:=(za0 (hC tP (λk=>(tP).row (gL tP (x.1::x.2) k)),tC tP (List.length x.2) (λk=>(tP).row (gL tP (x.1::x.2) k))));let t4:=(N7 ⟨t3.ns0,t3.eh0,rt tX t2⟩);let t5:=(ca9 ⟨t4.ns0,app (bL tP (nb4 (slR tP t4.eh0 0 t4.ns0))) (s9 t4.eh0 t4.ns0)⟩);(sl (okE tP (x.1::x.2)) (sl (Va2 y0) (sl (!t1) (some (nlq,[])) (sl (okE tP (x.1::x.2)) (sl (Pa3 y0) (sl (okL tP (List.length x.2+1) (λk=>(tP).row (gL tP (x.1::x.2) k))) (sl (Nat.beq t3.alt 1) (sl ((cnE tX t2)&&true) (sl (Nat.beq t4.alt 1) (sl (Bool.and (Nat.ble t4.ns0 room) (Bool.and (Nat.ble t4.ns0 (len t4.eh0)) (okS tP t4.eh0 0 t4.ns0))) (sl (Nat.beq t5.alt 1) (some (.sl 0 0 t5.ns0 0,[bq 66 4 t5.eh0])) none) none) none) none) none) none) none) none)) none) none)
def xd5(x:Pln×PLq):PLq:=L9 (one (r1L tP)) (Eb9 x)
def xd6(x:Pln×PLq):Bool:=okO (one (r1L tP)) (Eb9 x)
def Ge0:Sum:=S7 (uf9 tP) (λx=>.guard (xd6 x) (.ret ((one (r1L tP)).enc (xd5 x),[])))
theorem re4:l8 prog G 87 Ge0:=Sa7 (bd b87 Xd6) (one (r1L tP)) (o:=Eb9)
def Nd4:List (Nat×Sum):=[(142,Vc9)]
theorem Ge1:A4 prog G Nd4:=⟨Nd1,trivial⟩
def id4(p:Sb7)(s:Ja9):St:=⟨eL tP p.g9::.unk::.unk::.ptr 0 0 0 0::.unk::i s.is5::ra 43 [],[bq 0 4 [[i p.B1,i p.l5,i p.A1,i p.w9]]]⟩
def Bb9{α:Type}(k:Ja9->α)(e:Nat->α)(z:α)(p:Sb7)(s:Ja9):α:=let y0:=(⟨(⟨p.B1,p.l5,p.A1⟩:V3),p.w9⟩:Pln);let t1:=(gb3 (gL tP p.g9 s.is5.toNat) y0);(sl (decide (s.is5<(↑(List.length p.g9):Int))) (sl (inB s.is5 (List.length p.g9)) (sl (fc7 (gL tP p.g9 s.is5.toNat) y0) (sl (decide (t1<0)) (k ⟨W (s.is5+1)⟩) (e 1)) z) z) (e 2))
def ab6(p:Sb7)(s:Ja9):Stp Ja9:=Bb9 .next .exit .fail p s
def Hc6:Lo Sb7 Ja9:=⟨En Nd4,0,Zf1,[1,1,0,4,4],[0,3,5],.p,[⟨sLq tP::sUq::sUq::sPq 0::sUq::sIq::ru2 43 [],[⟨0,4,true,some [kLq 4]⟩],λa H=>(⟨aLq tP a 0,hIq H 0 0 0,hIq H 0 0 1,hIq H 0 0 2,hIq H 0 0 3⟩,⟨aIq a 5⟩)⟩],ab6,[(some 0,λp s=>let t1:=(gb3 (gL tP p.g9 s.is5.toNat) (⟨(⟨p.B1,p.l5,p.A1⟩:V3),p.w9⟩:Pln));⟨eL tP p.g9::.unk::.unk::.ptr 0 0 0 0::.unk::i s.is5::.unk::i s.is5::eL tP p.g9::i (↑(List.length p.g9):Int)::b (decide (s.is5<(↑(List.length p.g9):Int)))::b true::eL tP p.g9::i s.is5::.tptr [i (gL tP p.g9 s.is5.toNat).n.x,i (gL tP p.g9 s.is5.toNat).n.y,i (gL tP p.g9 s.is5.toNat).n.z,i (gL tP p.g9 s.is5.toNat).b]::.agg [i (gL tP p.g9 s.is5.toNat).n.x,i (gL tP p.g9 s.is5.toNat).n.y,i (gL tP p.g9 s.is5.toNat).n.z,i (gL tP p.g9 s.is5.toNat).b]::.agg [i p.B1,i p.l5,i p.A1,i p.w9]::i t1::b (decide (t1<0))::b (decide (t1<0))::ra 29 [],[bq 0 4 [[i p.B1,i p.l5,i p.A1,i p.w9]]]⟩),(some 0,λp s=>upq (id4 p s) [(7,i s.is5),(8,eL tP p.g9),(9,i (↑(List.length p.g9):Int)),(10,b (decide (s.is5<(↑(List.length p.g9):Int)))),(11,b false),(12,u),(13,u),(14,u),(15,u),(16,u),(17,u),(18,u),(19,b false)])],id4⟩
theorem re5:Hc6.Ok:=Lo.okq [] .nil λp s=>(.ofq @Bb9)
def lc5(x:PLq)(y:Pln):ROq:=let y0:=(List.length (rt tP x));let t1:=(lp (ab6 (⟨rt tP x,y.n.x,y.n.y,y.n.z,y.b⟩:Sb7)) (⟨0⟩:Ja9));let a0:=(s5 (λk=>(λk=>(tP).row (gL tP (rt tP x) k)) (0+k)) (List.range (t1.2.is5.toNat-0)));let y2:=((0+(len a0))+1);let y1:=(app (app [] a0) [[i y.n.x,i y.n.y,i y.n.z,i y.b]]);let a1:=(s5 (λk=>(λk=>(tP).row (gL tP (rt tP x) k)) (t1.2.is5.toNat+k)) (List.range (y0-t1.2.is5.toNat)));let a2:=(inB t1.2.is5 (y0+1));let a3:=(Nat.beq (0+(len a0)) (len (app [] a0))&&Nat.ble (y2*32) room);let a4:=(y2+(len a1));let a5:=(gL tP (rt tP x) t1.2.is5.toNat);let a6:=(Nat.beq 0 0&&Nat.ble ((0+(len a0))*32) room);let w0:ROq:=(sl a2 (sl a6 (sl a3 (sl a2 (sl (Nat.beq y2 (len y1)&&Nat.ble (a4*32) room) (some (.sl 0 0 a4 0,[bq 66 4 (app y1 a1)])) none) none) none) none) none);let w1:ROq:=(sl (decide (t1.2.is5<(↑y0:Int))) (sl (inB t1.2.is5 y0) (sl ((a5.n.x==y.n.x)&&((a5.n.y==y.n.y)&&((a5.n.z==y.n.z)&&((a5.b==y.b)&&true)))) (some (eL tP (rt tP x),[])) w0) none) w0);(sl ((cnE tP x)&&true) (sl (Nat.beq t1.1 1) w1 (sl (Nat.beq t1.1 2) w1 none)) none)
def Qb3(x:PLq)(y:Pln):PLq:=L9 (one (r1L tP)) (lc5 x y)
def Qb4(x:PLq)(y:Pln):Bool:=okO (one (r1L tP)) (lc5 x y)
def he3:Sum:=Z7 (M3 tP) (na7 tP) (λx y=>.guard (Qb4 x y) (.ret ((one (r1L tP)).enc (Qb3 x y),[])))
theorem Ue4:l8 prog G 122 he3:=dc7 (bd Jg7 Ge1) (one (r1L tP)) (o:=lc5) λx y=>Q3 (.s .p (.s .p (.s (.b (.u Hc6.ls)) .p))) [Hc6.pr] (.cons re5 .nil)
def re6:List (Nat×Sum):=[(70,Ta2),(72,Qc3),(71,Zc3)]
theorem Xd7:A4 prog G re6:=⟨ab3,Zc2,xd2,trivial⟩
def Fb1(x:PLq)(y:PLq):ROq:=let y1:=(List.range (List.length y));let y0:=(List.range (List.length x));let t1:=(W5 (rt tP x));let t2:=(W5 (rt tP y));let t3:=(Qb0 (slR tP (app (app [] (s5 (λk=>(tP).row (gL tP x k)) y0)) (s5 (λk=>(tP).row (gL tP y k)) y1)) 0 ((0+(len (s5 (λk=>(tP).row (gL tP x k)) y0)))+(len (s5 (λk=>(tP).row (gL tP y k)) y1)))));let t4:=(Tb0 (rt tP t3));(sl (okE tP x) (sl (qa6 (rt tP x)) (sl (t1 != 0) (some (b true,[])) (sl (okE tP y) (sl (qa6 (rt tP y)) (sl (t2 != 0) (some (b true,[])) (sl (Nat.beq 0 0&&Nat.ble ((0+(len (s5 (λk=>(tP).row (gL tP x k)) y0)))*32) room) (sl (Nat.beq (0+(len (s5 (λk=>(tP).row (gL tP x k)) y0))) (len (app [] (s5 (λk=>(tP).row (gL tP x k)) y0)))&&Nat.ble (((0+(len (s5 (λk=>(tP).row (gL tP x k)) y0)))+(len (s5 (λk=>(tP).row (gL tP y k)) y1)))*32) room) (sl (okS tP (app (app [] (s5 (λk=>(tP).row (gL tP x k)) y0)) (s5 (λk=>(tP).row (gL tP y k)) y1)) 0 ((0+(len (s5 (λk=>(tP).row (gL tP x k)) y0)))+(len (s5 (λk=>(tP).row (gL tP y k)) y1)))) (sl (Qb1 (slR tP (app (app [] (s5 (λk=>(tP).row (gL tP x k)) y0)) (s5 (λk=>(tP).row (gL tP y k)) y1)) 0 ((0+(len (s5 (λk=>(tP).row (gL tP x k)) y0)))+(len (s5 (λk=>(tP).row (gL tP y k)) y1))))) (sl (okE tP t3) (sl (Tb1 (rt tP t3)) (some (b (!t4),[])) none) none) none) none) none) none)) none) none)) none) none)
def za2(x:PLq)(y:PLq):Bool:=L9 (one r1B) (Fb1 x y)
def za3(x:PLq)(y:PLq):Bool:=okO (one r1B) (Fb1 x y)
def Fb2:Sum:=Z7 (M3 tP) (M3 tP) (λx y=>.guard (za3 x y) (.ret ((one r1B).enc (za2 x y),[])))
theorem Ob4:l8 prog G 41 Fb2:=Sb2 (bd b41 Xd7) (one r1B) (o:=Fb1)
def xd7(x:V3)(y:V3):V3:=(⟨W (x.x-y.x),W (x.y-y.y),W (x.z-y.z)⟩:V3)
def xd8:Sum:=Z7 (na7 tV) (na7 tV) (λx y=>.ret ((one r1V).enc (xd7 x y),[]))
theorem re7:l8 prog G 154 xd8:=wc8 (bd Mg1 ya0)
def Xd8:List (Nat×Sum):=[(154,xd8)]
theorem Nd5:A4 prog G Xd8:=⟨re7,trivial⟩
def re8(x:Pln):Pln:=let t1:=(xd7 (⟨0,0,0⟩:V3) x.n);(⟨t1,W (0-x.b)⟩:Pln)
def id5:Sum:=S7 (na7 tP) (λx=>.ret ((one r1P).enc (re8 x),[]))
theorem Xd9:l8 prog G 134 id5:=Af1 (bd Kg8 Nd5)
end Go.Ev.Ce
namespace Go.Ev.L
open Go Go.Ev
theorem Af3(n:Int):W n=(n+9223372036854775808) % 18446744073709551616-9223372036854775808:=IntKind.wrap_i64 n
theorem ia9{n:Int}(h1:-9223372036854775808<=n)(h2:n<=9223372036854775807):W n=n:=by rw[Af3];omega
theorem bf5(n:Int):∃k,W n=n+18446744073709551616*k:=⟨-((n+9223372036854775808) / 18446744073709551616),by rw[Af3];omega⟩
theorem Qc7(n k:Int):W (n+18446744073709551616*k)=W n:=by rw[Af3,Af3];omega
theorem Hc7(a b:Int):W (W a+b)=W (a+b):=by
 obtain⟨k,hk⟩:=bf5 a;rw[hk,show a+18446744073709551616*k+b=a+b+18446744073709551616*k by omega,Qc7]
theorem rd9(a b:Int):W (a+W b)=W (a+b):=by rw[Int.add_comm,Hc7,Int.add_comm]
theorem Nd6(a b:Int):W (W a-b)=W (a-b):=by
 obtain⟨k,hk⟩:=bf5 a;rw[hk,show a+18446744073709551616*k-b=a-b+18446744073709551616*k by omega,Qc7]
theorem re9(a b:Int):W (a-W b)=W (a-b):=by
 obtain⟨k,hk⟩:=bf5 b;rw[hk,show a-(b+18446744073709551616*k)=a-b+18446744073709551616*(-k) by omega,Qc7]
theorem Ue5(a b:Int):W (W a*b)=W (a*b):=by
 obtain⟨k,hk⟩:=bf5 a;rw[hk,show (a+18446744073709551616*k)*b=a*b+18446744073709551616*(k*b) by grind,Qc7]
theorem Af4(a b:Int):W (a*W b)=W (a*b):=by rw[Int.mul_comm,Ue5,Int.mul_comm]
theorem A5{j n:Nat}(h:j<n)(hn:n<=4611686018427387904):W ((j:Int)+1)=((j+1:Nat):Int):=by
 rw[ia9 (by omega) (by omega)];omega
theorem Hc8{j n:Nat}(h:j<n):decide ((j:Int)<(n:Int))=true:=decide_eq_true (by omega)
theorem sc2{j n:Nat}(h:¬ j<n):decide ((j:Int)<(n:Int))=false:=decide_eq_false (by omega)
theorem l0{j n:Nat}(h:j<n):inB (j:Int) n=true:=by
 show Nat.blt j n=true;rw[Qch];exact h
theorem bf6(m:Int)(n:Nat):inB m n=decide (0<=m/\m<n):=by
 unfold inB;cases m with
 |ofNat k =>
  rw[Bool.eq_iff_iff,decide_eq_true_eq];show Nat.blt k n=true↔_;rw[Qch];constructor
  ·intro h;exact⟨Int.natCast_nonneg k,Qiz.2 h⟩
  ·intro h;exact Qiz.1 h.2
 |negSucc k=>exact (decide_eq_false (λh=>by omega)).symm
theorem bt{c:Bool}(h:c=true){α:Type}(t e:α):sl c t e=t:=by rw[h];rfl
theorem bf{c:Bool}(h:c=false){α:Type}(t e:α):sl c t e=e:=by rw[h];rfl
theorem Ea0{n:Nat}(h:n<=1000000000000):Nat.ble (n*32) room=true:=by
 rw[Qiy];unfold room;omega
theorem Af5{σ:Type}{step:σ->Stp σ}{I:Nat->σ->Prop}{Q:Nat->σ->Prop}(h:∀m s,I m s->(∃t,step s=.exit t/\Q t s)\/∃s' m',m=m'+1/\step s=.next s'/\I m' s') :
  ∀(m n:Nat) (s:σ),m<=n->I m s->Q (lp0 step n s).1 (lp0 step n s).2
 |m,n,s,hn,hi=>by
  rcases h m s hi with⟨t,h1,h2⟩|⟨s',m',rfl,h1,h2⟩
  ·rw[Jd0 h1];exact h2
  ·cases n with
   |zero=>omega
   |succ n =>
    rw[Be7 h1];exact Af5 h m' n s' (by omega) h2
theorem sc3{σ:Type}{step:σ->Stp σ}{I:Nat->σ->Prop}{Q:Nat->σ->Prop}(h:∀m s,I m s->(∃t,step s=.exit t/\Q t s)\/∃s' m',m=m'+1/\step s=.next s'/\I m' s')
  (m:Nat) (s:σ) (hm:m<=18446744073709551615) (hi:I m s):Q (lp step s).1 (lp step s).2:=by
 rw[uf3];exact Af5 h m rounds s (by unfold rounds;omega) hi
section
variable{σ τ α:Type}{step:σ->Stp σ}
theorem id6{mk:Nat->τ->σ}{f:τ->α->τ}{fin:Nat}(t:Ty α)(l:List α)(I:Nat->τ->Prop)(hl:l.length<=1000000000)
  (h:∀j a,j<l.length->I j a->step (mk j a)=.next (mk (j+1) (f a (gL t l j)))/\I (j+1) (f a (gL t l j)))
  (hf:∀a,I l.length a->step (mk l.length a)=.exit fin) (j0:Nat) (hj:j0<=l.length) (a:τ) (hi:I j0 a) :
  lp step (mk j0 a)=(fin,mk l.length ((l.drop j0).foldl f a))/\I l.length ((l.drop j0).foldl f a):=by
 have key:=sc3 (step:=step) (I:=λm s=>∃j b,m=l.length-j/\j<=l.length/\s=mk j b/\I j b/\(l.drop j).foldl f b=(l.drop j0).foldl f a)
  (Q:=λu s=>u=fin/\s=mk l.length ((l.drop j0).foldl f a)/\I l.length ((l.drop j0).foldl f a)) (λm s ⟨j,b,hm,hj,hs,hb,he⟩=>by
   subst hs;by_cases hlt:j<l.length
   ·obtain⟨h1,h2⟩:=h j b hlt hb;refine .inr ⟨_,l.length-(j+1),by omega,h1,j+1,_,rfl,by omega,rfl,h2,?_⟩
    rw[<- he,Qid hlt,List.foldl_cons];simp[gL,Qda,Qaa hlt]
   ·have:j=l.length:=by omega
    subst this;have he:b=(l.drop j0).foldl f a:=by rw[<- he];simp
    subst he;exact .inl ⟨fin,hf _ hb,rfl,rfl,hb⟩) (l.length-j0) (mk j0 a) (by omega) ⟨j0,a,rfl,hj,rfl,hi,rfl⟩
 exact⟨by rw[<- key.2.1,<- key.1],key.2.2⟩
theorem sc4{mk:Nat->σ}{c:α->Bool}{u fin:Nat}(t:Ty α)(l:List α)(hl:l.length<=1000000000)
  (h:∀j,j<l.length->step (mk j)=sl (c (gL t l j)) (.exit u) (.next (mk (j+1)))) (hf:step (mk l.length)=.exit fin) (j0:Nat) (hj:j0<=l.length) :
  (lp step (mk j0)).1=if (l.drop j0).any c then u else fin :=
 sc3 (step:=step) (I:=λm s=>∃j,m=l.length-j/\j<=l.length/\s=mk j/\(l.drop j).any c=(l.drop j0).any c)
  (Q:=λv _=>v=if (l.drop j0).any c then u else fin) (λm s ⟨j,hm,hj,hs,he⟩=>by
   subst hs;by_cases hlt:j<l.length
   ·have h1:=h j hlt;have e:gL t l j=l[j]:=by simp[gL,Qda,Qaa hlt]
    have e2:(l.drop j).any c=(c l[j]||(l.drop (j+1)).any c):=by rw[Qid hlt,List.any_cons]
    rw[e] at h1;cases hc:c l[j] with
    |true =>
     rw[hc] at h1;refine .inl ⟨u,h1,?_⟩;rw[<- he,e2,hc];rfl
    |false =>
     rw[hc] at h1;refine .inr ⟨_,l.length-(j+1),by omega,h1,j+1,rfl,by omega,rfl,?_⟩
     rw[<- he,e2,hc];rfl
   ·have:j=l.length:=by omega
    subst this;refine .inl ⟨fin,hf,?_⟩;rw[<- he];simp) (l.length-j0) (mk j0) (by omega) ⟨j0,rfl,hj,rfl,rfl⟩
theorem jb8{mk:Nat->σ}{c:α->Bool}{u fin:Nat}(t:Ty α)(l:List α)(hl:l.length<=1000000000)
  (h:∀j,j<l.length->step (mk j)=sl (c (gL t l j)) (.exit u) (.next (mk (j+1)))) (hf:step (mk l.length)=.exit fin) (j0:Nat) (hj:j0<=l.length) :
  lp step (mk j0)=if (l.drop j0).any c then (u,mk (j0+(l.drop j0).findIdx c)) else (fin,mk l.length):=by
 have key:=sc3 (step:=step) (I:=λm s=>∃j,m=l.length-j/\j<=l.length/\j0<=j/\s=mk j/\(l.drop j).any c=(l.drop j0).any c/\j+(l.drop j).findIdx c=j0+(l.drop j0).findIdx c)
  (Q:=λv s=>(v,s)=if (l.drop j0).any c then (u,mk (j0+(l.drop j0).findIdx c)) else (fin,mk l.length)) (λm s ⟨j,hm,hj,hj0,hs,he,hi⟩=>by
   subst hs;by_cases hlt:j<l.length
   ·have h1:=h j hlt;have e:gL t l j=l[j]:=by simp[gL,Qda,Qaa hlt]
    have e2:(l.drop j).any c=(c l[j]||(l.drop (j+1)).any c):=by rw[Qid hlt,List.any_cons]
    have e3:(l.drop j).findIdx c=if c l[j] then 0 else (l.drop (j+1)).findIdx c+1:=by rw[Qid hlt,List.findIdx_cons];cases c l[j]<;>rfl
    rw[e] at h1;cases hc:c l[j] with
    |true =>
     rw[hc] at h1;refine .inl ⟨u,h1,?_⟩;rw[<- he,e2,hc,<- hi,e3,hc];rfl
    |false =>
     rw[hc] at h1;refine .inr ⟨_,l.length-(j+1),by omega,h1,j+1,rfl,by omega,by omega,rfl,?_,?_⟩
     ·rw[<- he,e2,hc];rfl
     ·rw[<- hi,e3,hc];simp only[Qiu,if_false];omega
   ·have:j=l.length:=by omega
    subst this;refine .inl ⟨fin,hf,?_⟩;rw[<- he];simp) (l.length-j0) (mk j0) (by omega) ⟨j0,rfl,hj,Qaf _,rfl,rfl,rfl⟩
 exact key
end
theorem M1{α:Type}(t:Ty α){l:List α}{j:Nat}(h:j<l.length):gL t l j∈l:=by
 simp[gL,Qda,Qaa h]
theorem gb5{α:Type}(t:Ty α){l:List α}{j:Nat}(h:j<l.length):gL t l j=l[j]:=by
 simp[gL,Qda,Qaa h]
def euF:Nat->Int->Int->Int
 |0,g,_=>g
 |k+1,g,n=>if n=0 then g else euF k n (Int.tmod g n)
def eu(g n:Int):Int:=euF (n.natAbs+1) g n
theorem xb9{g n:Int}(h:n≠0):(Int.tmod g n).natAbs<n.natAbs:=by
 rw[Int.natAbs_tmod];exact Nat.mod_lt _ (by omega)
theorem Ge2:∀(k m:Nat) {g n:Int},n.natAbs<k->n.natAbs<m->euF k g n=euF m g n
 |0,_,_,_,h,_=>by omega
 |_+1,0,_,_,_,h=>by omega
 |k+1,m+1,g,n,h1,h2=>by
  unfold euF;by_cases h:n=0
  ·rw[if_pos h,if_pos h]
  ·rw[if_neg h,if_neg h]
   have:=xb9 (g:=g) h
   exact Ge2 k m (by omega) (by omega)
theorem Qc8(g:Int):eu g 0=g:=by simp[eu,euF]
theorem Fd2{g n:Int}(h:n≠0):eu g n=eu n (Int.tmod g n):=by
 have:=xb9 (g:=g) h
 unfold eu
 conv=>lhs;unfold euF
 rw[if_neg h];exact Ge2 _ _ (by omega) (by omega)
theorem ig6:∀(k:Nat) (g n:Int),n.natAbs<=k->(eu g n).natAbs=Int.gcd g n:=by
 intro k
 induction k with
 |zero =>
  intro g n h
  have:n=0:=by omega
  subst this;rw[Qc8];simp
 |succ k ih =>
  intro g n h;by_cases h0:n=0
  ·subst h0;rw[Qc8];simp
  ·have:=xb9 (g:=g) h0
   rw[Fd2 h0,ih n (Int.tmod g n) (by omega)]
   unfold Int.gcd;rw[Int.natAbs_tmod,Nat.gcd_comm g.natAbs,Nat.gcd_comm n.natAbs,<- Nat.gcd_rec]
theorem Af6(g n:Int):(eu g n).natAbs=Int.gcd g n:=ig6 _ g n (Qaf _)
theorem of1:∀(k:Nat) (g n:Int),n.natAbs<=k->0<=g->0<=n->0<=eu g n:=by
 intro k
 induction k with
 |zero =>
  intro g n h hg _
  have:n=0:=by omega
  subst this;rw[Qc8];exact hg
 |succ k ih =>
  intro g n h hg hn;by_cases h0:n=0
  ·subst h0;rw[Qc8];exact hg
  ·have:=xb9 (g:=g) h0
   rw[Fd2 h0];exact ih n _ (by omega) hn (Int.tmod_nonneg _ hg)
theorem Af7{g n:Int}(hg:0<=g)(hn:0<=n):eu g n=(Int.gcd g n:Int):=by
 have h1:=of1 _ g n (Qaf _) hg hn;have h2:=Af6 g n;omega
section
variable{σ:Type}{step:σ->Stp σ}{mk:Int->Int->σ}
theorem bf7(h:∀g n,n≠0->step (mk g n)=.next (mk n (Int.tmod g n)))(h0:∀g,step (mk g 0)=.exit 1)(g n:Int)(hn:n.natAbs<=9223372036854775808):lp step (mk g n)=(1,mk (eu g n) 0):=by
 have:=sc3 (step:=step) (I:=λm s=>∃a c,s=mk a c/\c.natAbs<=m/\eu a c=eu g n) (Q:=λu s=>(u,s)=(1,mk (eu g n) 0)) (λm s ⟨a,c,hs,hm,he⟩=>by
  subst hs;by_cases hc:c=0
  ·subst hc;rw[Qc8] at he;subst he;exact .inl ⟨1,h0 _,rfl⟩
  ·have ht:=xb9 (g:=a) hc;exact .inr ⟨_,m-1,by omega,h a c hc,c,_,rfl,by omega,by rw[<- he,Fd2 hc]⟩) n.natAbs (mk g n) (by omega) ⟨g,n,rfl,Qaf _,rfl⟩
 exact this
theorem xd9(h:∀g n,0<n->step (mk g n)=.next (mk n (Int.tmod g n)))(h0:∀g,step (mk g 0)=.exit 1)(g n:Int)(hg:0<=g)(h1:0<=n)(hn:n<=9223372036854775808):lp step (mk g n)=(1,mk (eu g n) 0):=by
 have:=sc3 (step:=step) (I:=λm s=>∃a c,s=mk a c/\c.natAbs<=m/\0<=a/\0<=c/\eu a c=eu g n) (Q:=λu s=>(u,s)=(1,mk (eu g n) 0)) (λm s ⟨a,c,hs,hm,ha,hc0,he⟩=>by
  subst hs;by_cases hc:c=0
  ·subst hc;rw[Qc8] at he;subst he;exact .inl ⟨1,h0 _,rfl⟩
  ·have ht:=xb9 (g:=a) hc;exact .inr ⟨_,m-1,by omega,h a c (by omega),c,_,rfl,by omega,hc0,Int.tmod_nonneg _ ha,by rw[<- he,Fd2 hc]⟩) n.natAbs (mk g n) (by omega) ⟨g,n,rfl,Qaf _,hg,h1,rfl⟩
 exact this
end
theorem mb{a c A C:Int}(h1:-A<=a)(h2:a<=A)(h3:-C<=c)(h4:c<=C):-(A*C)<=a*c/\a*c<=A*C:=by
 have hA:a.natAbs<=A.natAbs:=by omega
 have hC:c.natAbs<=C.natAbs:=by omega
 have h5:=Nat.mul_le_mul hA hC;rw[<- Int.natAbs_mul,<- Int.natAbs_mul] at h5;have h6:0<=A*C:=Int.mul_nonneg (by omega) (by omega)
 omega
end Go.Ev.L
namespace Go.Ev.Ce
open Go Go.Ev Go.Ev.L Go.Proofs
theorem of2(P:ab4)(g n:Int)(hn:n.natAbs<=9223372036854775808):lp (fb4 P) ⟨g,n⟩=(1,⟨eu g n,0⟩) :=
 bf7 (mk:=λg n=>(⟨g,n⟩:ya4)) (λg n h=>by simp[fb4,qb7,Rb8,h]) (λg=>by simp[fb4,qb7,Rb8]) g n hn
theorem of3(l:List Int)(hl:l.length<=1000000000)(hb:∀x∈l,x.natAbs<=9223372036854775808):lp (Oa9 ⟨(l.length:Int)⟩) ⟨0,l,0⟩=(1,⟨l.foldl eu 0,l,l.length⟩):=by
 have := id6 (step := Oa9 ⟨(l.length : Int)⟩) (mk := fun j a => (⟨a, l, (j : Int)⟩ : ya5)) (f := eu) (fin := 1) tI l (fun _ _ => True) hl (fun j a hj _ => ⟨by
   simp only[Oa9,qb9,Int.toNat_natCast,l9,s7,of2 _ _ _ (hb _ (M1 tI hj)),A5 hj (by omega)]
   rw[bt (Hc8 hj),bt (l0 hj)]
   rfl,trivial⟩) (λa _=>by simp[Oa9,qb9,Rb8]) 0 (Qbv _) 0 trivial
 simpa using this.1
theorem id7:∀(l:List Int) (g:Int),(l.foldl eu g).natAbs=l.foldl (λa x=>Nat.gcd a x.natAbs) g.natAbs
 |[],_=>rfl
 |x::l,g=>by rw[List.foldl_cons,id7 l,List.foldl_cons,Af6];rfl
theorem ig7(l:List Int)(hl:l.length<=1000000000)(hb:∀x∈l,x.natAbs<=9223372036854775807)(h0:(l.foldl eu 0).natAbs<=9223372036854775807):Tb4 l=some (i ((l.foldl eu 0).natAbs:Int),[]):=by
 unfold Tb4;simp only[l9,s7,of3 l hl (λx hx=>Nat.le_succ_of_le (hb x hx))]
 generalize l.foldl eu 0=e at *
 have:W (0-e)=-e:=by rw[ia9 (by omega) (by omega)];omega
 rw[this];show some (i (if -e>e then -e else e),[])=_
 congr 3
 split<;>omega
theorem he4(x y:Int)(hx:0<=x)(hy:0<=y)(hb:y<=9223372036854775807):pb9 x y=some (i (Int.gcd x y:Int),[]):=by
 unfold pb9
 have:=bf7 (step:=Ma2 ⟨⟩) (mk:=λg n=>(⟨g,n⟩:ia8)) (λg n h=>by simp[Ma2,ab2,Rb8,h]) (λg=>by simp[Ma2,ab2,Rb8]) x y (by omega)
 simp only[this,Af7 hx hy];rfl
theorem Nd7(x y:Int)(hx:0<=x)(hy:0<=y)(hb:y<=9223372036854775807):ca1 x y=(Int.gcd x y:Int):=by unfold ca1;rw[he4 x y hx hy hb];rfl
theorem Nd8(x y:Int)(hx:0<=x)(hy:0<=y)(hb:y<=9223372036854775807):ca2 x y=true:=by unfold ca2;rw[he4 x y hx hy hb];rfl
def rm(p:Pln)(x:Pt):Int:=W (p.b*x.pw-(p.n.x*x.px+p.n.y*x.py+p.n.z*x.pz))
theorem se0(p:Pln)(x:Pt):Ia6 p x=rm p x:=by
 unfold Ia6 mb8 rm;simp only[Hc7,rd9,Nd6,re9]
theorem Fd3(p:Pln)(x:Pt):lb8 p x=rm p x:=by
 unfold lb8 rm;simp only[Hc7,rd9,Nd6,re9];congr 1;omega
structure Bd(p:Pln):Prop where
 x1:-4608<=p.n.x
 x2:p.n.x<=4608
 y1:-4608<=p.n.y
 y2:p.n.y<=4608
 z1:-4608<=p.n.z
 z2:p.n.z<=4608
 b1:-2097152<=p.b
 b2:p.b<=2097152
def mv(p q r:Pln):V3 :=
 ⟨(C8 q.n r.n).x*p.b+(C8 r.n p.n).x*q.b+(C8 p.n q.n).x*r.b,
  (C8 q.n r.n).y*p.b+(C8 r.n p.n).y*q.b+(C8 p.n q.n).y*r.b,
  (C8 q.n r.n).z*p.b+(C8 r.n p.n).z*q.b+(C8 p.n q.n).z*r.b⟩
def gc(v:V3)(w:Int):Int:=(Nat.gcd (Nat.gcd v.x.natAbs v.y.natAbs) (Nat.gcd v.z.natAbs w.natAbs):Nat)
def mpt(p q r:Pln):Pt×Bool :=
 if mw p q r=0 then (⟨0,0,0,0⟩,false)
 else if mw p q r<0 then (⟨Int.tdiv (-(mv p q r).x) (gc (mv p q r) (mw p q r)),Int.tdiv (-(mv p q r).y) (gc (mv p q r) (mw p q r)),Int.tdiv (-(mv p q r).z) (gc (mv p q r) (mw p q r)),Int.tdiv (-(mw p q r)) (gc (mv p q r) (mw p q r))⟩,true)
 else (⟨Int.tdiv (mv p q r).x (gc (mv p q r) (mw p q r)),Int.tdiv (mv p q r).y (gc (mv p q r) (mw p q r)),Int.tdiv (mv p q r).z (gc (mv p q r) (mw p q r)),Int.tdiv (mw p q r) (gc (mv p q r) (mw p q r))⟩,true)
def Sm(n:Int)(x:Int):Prop:=-n<=x/\x<=n
theorem id8{a b:V3}(ha:Sm 4608 a.x/\Sm 4608 a.y/\Sm 4608 a.z)(hb:Sm 4608 b.x/\Sm 4608 b.y/\Sm 4608 b.z):Sm 42467328 (C8 a b).x/\Sm 42467328 (C8 a b).y/\Sm 42467328 (C8 a b).z:=by
 obtain⟨⟨a1,a2⟩,⟨a3,a4⟩,a5,a6⟩:=ha;obtain⟨⟨b1,b2⟩,⟨b3,b4⟩,b5,b6⟩:=hb;have h1:=mb a3 a4 b5 b6;have h2:=mb a5 a6 b3 b4;have h3:=mb a5 a6 b1 b2;have h4:=mb a1 a2 b5 b6;have h5:=mb a1 a2 b3 b4;have h6:=mb a3 a4 b1 b2;unfold Sm C8
 simp only
 omega
theorem Bd.n{p:Pln}(h:Bd p):Sm 4608 p.n.x/\Sm 4608 p.n.y/\Sm 4608 p.n.z:=⟨⟨h.x1,h.x2⟩,⟨h.y1,h.y2⟩,h.z1,h.z2⟩
theorem Af8{p q r:Pln}(hp:Bd p)(hq:Bd q)(hr:Bd r):Sm 600000000000 (mw p q r):=by
 obtain⟨⟨c1,c2⟩,⟨c3,c4⟩,c5,c6⟩:=id8 hq.n hr.n;have h1:=mb hp.x1 hp.x2 c1 c2;have h2:=mb hp.y1 hp.y2 c3 c4;have h3:=mb hp.z1 hp.z2 c5 c6;unfold Sm mw dot;omega
theorem Af9{p q r:Pln}(hp:Bd p)(hq:Bd q)(hr:Bd r):Sm 300000000000000 (mv p q r).x/\Sm 300000000000000 (mv p q r).y/\Sm 300000000000000 (mv p q r).z:=by
 obtain⟨⟨c1,c2⟩,⟨c3,c4⟩,c5,c6⟩:=id8 hq.n hr.n;obtain⟨⟨d1,d2⟩,⟨d3,d4⟩,d5,d6⟩:=id8 hr.n hp.n;obtain⟨⟨e1,e2⟩,⟨e3,e4⟩,e5,e6⟩:=id8 hp.n hq.n;have a1:=mb c1 c2 hp.b1 hp.b2;have a2:=mb c3 c4 hp.b1 hp.b2;have a3:=mb c5 c6 hp.b1 hp.b2;have b1:=mb d1 d2 hq.b1 hq.b2;have b2:=mb d3 d4 hq.b1 hq.b2;have b3:=mb d5 d6 hq.b1 hq.b2;have f1:=mb e1 e2 hr.b1 hr.b2;have f2:=mb e3 e4 hr.b1 hr.b2;have f3:=mb e5 e6 hr.b1 hr.b2;unfold Sm mv
 simp only
 omega
theorem Fd4(a b:V3):ba5 a b=⟨W (C8 a b).x,W (C8 a b).y,W (C8 a b).z⟩:=by
 unfold ba5 C8;simp only[Nd6,re9]
theorem Fd5(a b:V3):qa4 a b=⟨W (C8 a b).x,W (C8 a b).y,W (C8 a b).z⟩:=by
 unfold qa4 C8;simp only[Nd6,re9]
theorem ig8(p q r:Pln):dot r.n (C8 p.n q.n)=mw p q r:=by unfold mw dot C8;grind
theorem Mg5(a b c d:Nat):[a,b,c,d].foldl Nat.gcd 0=Nat.gcd (Nat.gcd a b) (Nat.gcd c d):=by
 simp only[List.foldl_cons,List.foldl_nil,Qix];rw[Nat.gcd_assoc]
theorem Nd9{v:V3}{w:Int}(h:w≠0):0<gc v w:=by
 unfold gc
 have:0<Nat.gcd v.z.natAbs w.natAbs:=Qin _ (by omega)
 have:=Qin (Nat.gcd v.x.natAbs v.y.natAbs) this
 omega
theorem Bf0{v:V3}{w:Int}(h:w≠0):gc v w<=w.natAbs:=by
 unfold gc;have h1:Nat.gcd v.z.natAbs w.natAbs<=w.natAbs:=Qiaa _ (by omega)
 have h2:0<Nat.gcd v.z.natAbs w.natAbs:=Qin _ (by omega)
 have h3:=Qiaa (m:=Nat.gcd v.x.natAbs v.y.natAbs) (n:=Nat.gcd v.z.natAbs w.natAbs) h2;omega
theorem vb4{x:Int}(h:Sm 1000000000000000000 x):W x=x:=ia9 (by have:=h.1;omega) (by have:=h.2;omega)
theorem Sm.mono{n m x:Int}(h:Sm n x)(hn:n<=m):Sm m x:=⟨by have:=h.1;omega,by have:=h.2;omega⟩
theorem ba0{n x g:Int}(h:Sm n x)(hg:0<g):Sm n (Int.tdiv x g):=by
 have h1:(Int.tdiv x g).natAbs<=x.natAbs:=by rw[Int.natAbs_tdiv];exact Nat.div_le_self _ _
 have:=h.1;have:=h.2
 constructor<;>omega
theorem Ue6{p q r:Pln}(hp:Bd p)(hq:Bd q)(hr:Bd r)(h:(mpt p q r).2=true):0<(mpt p q r).1.pw/\Sm 300000000000000 (mpt p q r).1.px/\Sm 300000000000000 (mpt p q r).1.py/\Sm 300000000000000 (mpt p q r).1.pz/\(mpt p q r).1.pw<=600000000000:=by
 have hw:=Af8 hp hq hr;obtain⟨v1,v2,v3⟩:=Af9 hp hq hr;have neg:∀{n x:Int},Sm n x->Sm n (-x):=λh=>⟨by have:=h.2;omega,by have:=h.1;omega⟩
 have pos:∀{x:Int},0<x->x.natAbs=(mw p q r).natAbs->0<Int.tdiv x (gc (mv p q r) (mw p q r)):=λ{x} hx he=>by
  have h0:mw p q r≠0:=by omega
  have h1:=Nd9 (v:=mv p q r) h0;have h2:=Bf0 (v:=mv p q r) h0;rw[Int.tdiv_eq_ediv_of_nonneg (by omega)]
  exact Int.ediv_pos_of_pos_of_dvd hx (by omega) (by
   rw[<- Int.dvd_natAbs,he];exact Int.natCast_dvd_natCast.2 (Nat.dvd_trans (Nat.gcd_dvd_right _ _) (Nat.gcd_dvd_right _ _)))
 unfold mpt at h ⊢;by_cases h0:mw p q r=0
 ·rw[if_pos h0] at h;cases h
 ·rw[if_neg h0];have hg:=Nd9 (v:=mv p q r) h0;by_cases h1:mw p q r<0
  ·rw[if_pos h1];exact⟨pos (by omega) (by omega),ba0 (neg v1) hg,ba0 (neg v2) hg,ba0 (neg v3) hg,(ba0 (neg hw) hg).2⟩
  ·rw[if_neg h1];exact⟨pos (by omega) rfl,ba0 v1 hg,ba0 v2 hg,ba0 v3 hg,(ba0 hw hg).2⟩
theorem bf8{p q r:Pln}(hp:Bd p)(hq:Bd q)(hr:Bd r):Db1 ⟨p,q,r⟩=some (.tup [.agg (tX.row (mpt p q r).1),b (mpt p q r).2],[]):=by
 have hw:=Af8 hp hq hr;obtain⟨v1,v2,v3⟩:=Af9 hp hq hr;have e1:mb8 r.n (ba5 p.n q.n)=mw p q r:=by
  rw[Fd4];unfold mb8;simp only[Hc7,rd9,Af4];show W (dot r.n (C8 p.n q.n))=_;rw[ig8,vb4 (hw.mono (by omega))]
 have e2:Ia5 (Ia5 (Ia5 ⟨0,0,0⟩ (ya3 (ba5 q.n r.n) p.b)) (ya3 (ba5 r.n p.n) q.b)) (ya3 (ba5 p.n q.n) r.b)=mv p q r:=by
  rw[Fd4,Fd4,Fd4];unfold Ia5 ya3;simp only[Hc7,rd9,Ue5,Int.zero_add];show (⟨W (mv p q r).x,W (mv p q r).y,W (mv p q r).z⟩:V3)=_;rw[vb4 (v1.mono (by omega)),vb4 (v2.mono (by omega)),vb4 (v3.mono (by omega))]
 unfold Db1;simp only[e1,e2];have hb:∀x∈[(mv p q r).x,(mv p q r).y,(mv p q r).z,mw p q r],x.natAbs<=9223372036854775807:=by
  intro x hx;simp only[Qbh,Qiab,or_false] at hx;unfold Sm at *
  rcases hx with rfl|rfl|rfl|rfl<;>omega
 have hf:([(mv p q r).x,(mv p q r).y,(mv p q r).z,mw p q r].foldl eu 0).natAbs=Nat.gcd (Nat.gcd (mv p q r).x.natAbs (mv p q r).y.natAbs) (Nat.gcd (mv p q r).z.natAbs (mw p q r).natAbs):=by
  rw[id7,<- Mg5];rfl
 unfold mpt;by_cases h0:mw p q r=0
 ·rw[bt (by rw[h0];rfl),if_pos h0]
  rfl
 ·have hz:(mw p q r==0)=false:=by simpa using h0
  rw[bf hz,if_neg h0];have hgp:=Nd9 (v:=mv p q r) h0;have hgl:=Bf0 (v:=mv p q r) h0;have hge:=ig7 _ (by simp) hb (by rw[hf];unfold gc at hgl;unfold Sm at hw;omega)
  have hgv:rc1 [(mv p q r).x,(mv p q r).y,(mv p q r).z,mw p q r]=gc (mv p q r) (mw p q r):=by
   unfold rc1;rw[hge,hf];rfl
  have hgg:rc2 [(mv p q r).x,(mv p q r).y,(mv p q r).z,mw p q r]=true:=by
   unfold rc2;rw[hge];rfl
  rw[hgv,bt hgg];generalize hG:gc (mv p q r) (mw p q r)=G at *
  have hGW:W (0-G)=-G:=by unfold Sm at hw;rw[ia9 (by omega) (by omega)];omega
  have hGn:(-G==0)=false:=by simp;omega
  have hGp:(G==0)=false:=by simp;omega
  by_cases h1:mw p q r<0
  ·rw[bt (decide_eq_true h1),if_pos h1];simp only[hGW];rw[bf hGn,bf hGn,bf hGn,bf hGn];simp only[Int.tdiv_neg,<- Int.neg_tdiv];have neg:∀{n x:Int},Sm n x->Sm n (-x):=λh=>⟨by have:=h.2;omega,by have:=h.1;omega⟩
   rw[vb4 ((ba0 (neg v1) hgp).mono (by omega)),vb4 ((ba0 (neg v2) hgp).mono (by omega)),vb4 ((ba0 (neg v3) hgp).mono (by omega)),vb4 ((ba0 (neg hw) hgp).mono (by omega))]
   rfl
  ·rw[bf (decide_eq_false h1),if_neg h1,bf hGp,bf hGp,bf hGp,bf hGp];rw[vb4 ((ba0 v1 hgp).mono (by omega)),vb4 ((ba0 v2 hgp).mono (by omega)),vb4 ((ba0 v3 hgp).mono (by omega)),vb4 ((ba0 hw hgp).mono (by omega))]
   rfl
theorem ig9{p q r:Pln}(hp:Bd p)(hq:Bd q)(hr:Bd r):Db2 ⟨p,q,r⟩=mpt p q r:=by unfold Db2;rw[bf8 hp hq hr];rfl
theorem jg0{p q r:Pln}(hp:Bd p)(hq:Bd q)(hr:Bd r):Db3 ⟨p,q,r⟩=true:=by unfold Db3;rw[bf8 hp hq hr];rfl
theorem Ge3{p q r:Pln}(hp:Bd p)(hq:Bd q)(hr:Bd r):Sb4 p q r=some (.tup [.agg (tX.row (mpt p q r).1),b (mpt p q r).2],[]):=by
 have hw:=Af8 hp hq hr;obtain⟨v1,v2,v3⟩:=Af9 hp hq hr;have e1:Pc9 p.n (qa4 q.n r.n)=mw p q r:=by
  rw[Fd5];unfold Pc9;simp only[Hc7,rd9,Af4];show W (dot p.n (C8 q.n r.n))=_;rw[show dot p.n (C8 q.n r.n)=mw p q r from rfl,vb4 (hw.mono (by omega))]
 have e2:Pb9 (Pb9 (ca0 (qa4 q.n r.n) p.b) (ca0 (qa4 r.n p.n) q.b)) (ca0 (qa4 p.n q.n) r.b)=mv p q r:=by
  rw[Fd5,Fd5,Fd5];unfold Pb9 ca0;simp only[Hc7,rd9,Ue5];show (⟨W (mv p q r).x,W (mv p q r).y,W (mv p q r).z⟩:V3)=_;rw[vb4 (v1.mono (by omega)),vb4 (v2.mono (by omega)),vb4 (v3.mono (by omega))]
 have neg:∀{n x:Int},Sm n x->Sm n (-x):=λh=>⟨by have:=h.2;omega,by have:=h.1;omega⟩
 have e3:ca0 (mv p q r) (-1)=⟨-(mv p q r).x,-(mv p q r).y,-(mv p q r).z⟩:=by
  unfold ca0
  have:∀x:Int,x*-1=-x:=λx=>by omega
  simp only[this];rw[vb4 ((neg v1).mono (by omega)),vb4 ((neg v2).mono (by omega)),vb4 ((neg v3).mono (by omega))]
 have ab:∀{x:Int},Sm 300000000000000 x->(if W (0-x)>x then W (0-x) else x)=(x.natAbs:Int):=λ{x} h=>by
  have:W (0-x)=-x:=by rw[show 0-x=-x by omega];exact vb4 ((neg h).mono (by omega))
  rw[this]
  split<;>omega
 unfold Sb4;simp only[e1,e2,e3];rw[ab v1,ab v2,ab v3,ab (neg v1),ab (neg v2),ab (neg v3)];simp only[Int.natAbs_neg];unfold mpt;by_cases h0:mw p q r=0
 ·rw[bt (by rw[h0];rfl),if_pos h0]
  rfl
 ·have hz:(mw p q r==0)=false:=by simpa using h0
  rw[bf hz,if_neg h0];have hgp:=Nd9 (v:=mv p q r) h0;have hgl:=Bf0 (v:=mv p q r) h0;have hw0:=hw;unfold Sm at hw0;have q1:((mv p q r).y.natAbs:Int)<=9223372036854775807:=by unfold Sm at v2;omega
  have k1:=Nd7 ((mv p q r).x.natAbs:Int) ((mv p q r).y.natAbs:Int) (by omega) (by omega) q1
  have k2:=Nd8 ((mv p q r).x.natAbs:Int) ((mv p q r).y.natAbs:Int) (by omega) (by omega) q1
  have c1:Int.gcd ((mv p q r).x.natAbs:Int) ((mv p q r).y.natAbs:Int)=Nat.gcd (mv p q r).x.natAbs (mv p q r).y.natAbs:=by simp[Int.gcd]
  have fin : ∀ w : Int, 0 < w → w.natAbs = (mw p q r).natAbs → ca1 ((mv p q r).z.natAbs : Int) w = (Nat.gcd (mv p q r).z.natAbs (mw p q r).natAbs : Nat) ∧ ca2 ((mv p q r).z.natAbs : Int) w = true ∧
    ca1 (Nat.gcd (mv p q r).x.natAbs (mv p q r).y.natAbs:Nat) (Nat.gcd (mv p q r).z.natAbs (mw p q r).natAbs:Nat)=gc (mv p q r) (mw p q r)/\ca2 (Nat.gcd (mv p q r).x.natAbs (mv p q r).y.natAbs:Nat) (Nat.gcd (mv p q r).z.natAbs (mw p q r).natAbs:Nat)=true:=by
   intro w hw1 hw2;have l1:Nat.gcd (mv p q r).z.natAbs (mw p q r).natAbs<=(mw p q r).natAbs:=Qiaa _ (by omega)
   refine⟨?_,Nd8 _ _ (by omega) (by omega) (by omega),?_,Nd8 _ _ (by omega) (by omega) (by omega)⟩
   ·rw[Nd7 _ _ (by omega) (by omega) (by omega)]
    have:Int.gcd ((mv p q r).z.natAbs:Int) w=Nat.gcd (mv p q r).z.natAbs (mw p q r).natAbs:=by unfold Int.gcd;rw[hw2];simp
    rw[this]
   ·rw[Nd7 _ _ (by omega) (by omega) (by omega)]
    rfl
  by_cases h1:mw p q r<0
  ·rw[bt (decide_eq_true h1),if_pos h1];have hWw:W (0-mw p q r)=-mw p q r:=by rw[ia9 (by omega) (by omega)];omega
   rw[hWw];obtain⟨f1,f2,f3,f4⟩:=fin (-mw p q r) (by omega) (by omega)
   simp only[k1,k2,c1,f1,f2,f3,f4];generalize gc (mv p q r) (mw p q r)=G at *
   have hGp:(G==0)=false:=by simp;omega
   simp only[hGp];rw[vb4 ((ba0 (neg v1) hgp).mono (by omega)),vb4 ((ba0 (neg v2) hgp).mono (by omega)),vb4 ((ba0 (neg v3) hgp).mono (by omega)),vb4 ((ba0 (neg hw) hgp).mono (by omega))]
   rfl
  ·rw[bf (decide_eq_false h1),if_neg h1];obtain⟨f1,f2,f3,f4⟩:=fin (mw p q r) (by omega) rfl
   simp only[k1,k2,c1,f1,f2,f3,f4];generalize gc (mv p q r) (mw p q r)=G at *
   have hGp:(G==0)=false:=by simp;omega
   simp only[hGp];rw[vb4 ((ba0 v1 hgp).mono (by omega)),vb4 ((ba0 v2 hgp).mono (by omega)),vb4 ((ba0 v3 hgp).mono (by omega)),vb4 ((ba0 hw hgp).mono (by omega))]
   rfl
theorem Pf9{p q r:Pln}(hp:Bd p)(hq:Bd q)(hr:Bd r):Sb5 p q r=mpt p q r:=by unfold Sb5;rw[Ge3 hp hq hr];rfl
theorem Qf0{p q r:Pln}(hp:Bd p)(hq:Bd q)(hr:Bd r):Sb6 p q r=true:=by unfold Sb6;rw[Ge3 hp hq hr];rfl
def inn(l:PLq)(x:Pt):Bool:=l.all λp=>!decide (rm p x<0)
theorem bf9(l:PLq)(x:Pt):inn l x=!l.any λp=>decide (rm p x<0):=by unfold inn;rw[List.not_any_eq_all_not]
theorem yg9(p:Pln)(x:Pt):Ib2 ⟨p.n.x,p.n.y,p.n.z,p.b,x.px,x.py,x.pz,x.pw⟩=⟨decide (rm p x<0)⟩:=by
 show jb3.mk (decide (Ia6 p x<0))=_;rw[se0]
theorem Qf1(l:PLq)(x:Pt)(hl:l.length<=1000000000):fa5 ⟨l,x.px,x.py,x.pz,x.pw⟩=⟨1,if l.any (λp=>decide (rm p x<0)) then ((l.findIdx (λp=>decide (rm p x<0)):Nat):Int) else -1⟩:=by
 have h:=jb8 (step:=O4 ⟨l,(l.length:Int),x.px,x.py,x.pz,x.pw⟩) (mk:=λj=>(⟨(j:Int)⟩:B8)) (c:=λp=>decide (rm p x<0)) (u:=1) (fin:=2) tP l hl
  (λj hj=>by
   simp only[O4,W6,Int.toNat_natCast,yg9,A5 hj (by omega)]
   rw[bt (Hc8 hj),bt (l0 hj)])
  (by simp only[O4,W6];rw[bf (sc2 (Qie _))]) 0 (Qbv _)
 rw[Qic] at h;unfold fa5 ta9;simp only[l9,s7];rw[show (⟨0⟩:B8)=⟨((0:Nat):Int)⟩ from rfl,h]
 split
 ·simp only[Qar];rfl
 ·rfl
theorem he5(l:PLq)(x:Pt)(hl:l.length<=1000000000):fb5 l x=some (b (inn l x),[]):=by
 unfold fb5 ma0 la9;simp only[l9,s7,Qf1 l x hl,bf9];split
 ·rename_i h;rw[h,show decide (((l.findIdx (λp=>decide (rm p x<0)):Nat):Int)>=0)=true from decide_eq_true (by omega)];rfl
 ·rename_i h;rw[Qiac] at h;rw[h];rfl
theorem Bf1(l:PLq)(x:Pt)(hl:l.length<=1000000000):Pa0 l x=inn l x:=by unfold Pa0;rw[he5 l x hl];rfl
theorem Bf2(l:PLq)(x:Pt)(hl:l.length<=1000000000):Pa1 l x=true:=by unfold Pa1;rw[he5 l x hl];rfl
theorem ag1(l:PLq)(x:Pt)(hl:l.length<=1000000000):Fc8 l x=some (b (inn l x),[]):=by
 have h:=sc4 (step:=Cb6 ⟨l,x.px,x.py,x.pz,x.pw⟩) (mk:=λj=>(⟨(j:Int)⟩:Ja9)) (c:=λp=>decide (rm p x<0)) (u:=1) (fin:=2) tP l hl
  (λj hj=>by
   simp only[Cb6,Nb1,Int.toNat_natCast,Fd3,A5 hj (by omega)]
   rw[bt (Hc8 hj),bt (l0 hj)])
  (by simp only[Cb6,Nb1];rw[bf (sc2 (Qie _))]) 0 (Qbv _)
 rw[Qic] at h;unfold Fc8;simp only[l9,s7,bf9];rw[show (⟨0⟩:Ja9)=⟨((0:Nat):Int)⟩ from rfl,h]
 split
 ·rename_i h;rw[h];rfl
 ·rename_i h;rw[Qiac] at h;rw[h];rfl
theorem Mg6(l:PLq)(x:Pt)(hl:l.length<=1000000000):jc8 l x=inn l x:=by unfold jc8;rw[ag1 l x hl];rfl
theorem Mg7(l:PLq)(x:Pt)(hl:l.length<=1000000000):jc9 l x=true:=by unfold jc9;rw[ag1 l x hl];rfl
def eqX(x q:Pt):Bool:=q.px==x.px&&(q.py==x.py&&(q.pz==x.pz&&(q.pw==x.pw&&true)))
theorem cf0(x q:Pt):eqX x q=true↔q=x:=by
 unfold eqX;simp only[Qii,Qas,beq_iff_eq];exact⟨λ⟨h1,h2,h3,h4⟩=>by cases q;cases x;simp_all,λh=>by subst h;exact⟨rfl,rfl,rfl,rfl⟩⟩
def Hc9(l:List Pt)(x:Pt):Bool:=l.any (eqX x)
theorem Bf3(l:List Pt)(x:Pt):Hc9 l x=true↔x∈l:=by
 unfold Hc9;rw[Qiad];exact⟨λ⟨q,h,e⟩=>(cf0 x q).1 e ▸ h,λh=>⟨x,h,(cf0 x x).2 rfl⟩⟩
theorem Ge4(l:List Pt)(x:Pt)(hl:l.length<=1000000000):Cb7 l x=some (b (Hc9 l x),[]):=by
 have h:=sc4 (step:=Sa9 ⟨l,x.px,x.py,x.pz,x.pw⟩) (mk:=λj=>(⟨(j:Int)⟩:Ja9)) (c:=eqX x) (u:=1) (fin:=2) tX l hl
  (λj hj=>by
   simp only[Sa9,jb1,Int.toNat_natCast,A5 hj (by omega)]
   rw[bt (Hc8 hj),bt (l0 hj)]
   rfl)
  (by simp only[Sa9,jb1];rw[bf (sc2 (Qie _))]) 0 (Qbv _)
 rw[Qic] at h;unfold Cb7;simp only[l9,s7];rw[show (⟨0⟩:Ja9)=⟨((0:Nat):Int)⟩ from rfl,h]
 unfold Hc9;split
 ·rename_i h;rw[h];rfl
 ·rename_i h;rw[Qiac] at h;rw[h];rfl
theorem Qf2(l:List Pt)(x:Pt)(hl:l.length<=1000000000):mb6 l x=Hc9 l x:=by unfold mb6;rw[Ge4 l x hl];rfl
theorem Qf3(l:List Pt)(x:Pt)(hl:l.length<=1000000000):mb7 l x=true:=by unfold mb7;rw[Ge4 l x hl];rfl
def smb(n x:Int):Bool:=!decide (x < -n)&&!decide (x>n)
theorem se1(n x:Int):smb n x=true↔Sm n x:=by unfold smb Sm;simp only[Qas,Qcb,decide_eq_false_iff_not];omega
theorem Od0(n:Int)(l:List Int)(hn:0<=n/\n<=1000000000)(hl:l.length<=1000000000):Ta8 n l=some (b (l.all (smb n)),[]):=by
 have hW:W (0-n)=-n:=by rw[ia9 (by omega) (by omega)];omega
 have h:=sc4 (step:=ya6 ⟨n,l,(l.length:Int)⟩) (mk:=λj=>(⟨(j:Int)⟩:U7)) (c:=λx=>!smb n x) (u:=1) (fin:=2) tI l hl
  (λj hj=>by
   simp only[ya6,Ka2,Int.toNat_natCast,A5 hj (by omega),hW]
   rw[bt (Hc8 hj),bt (l0 hj)];unfold smb;cases decide (gL tI l j < -n)<;>cases decide (gL tI l j>n)<;>rfl)
  (by simp only[ya6,Ka2];rw[bf (sc2 (Qie _))]) 0 (Qbv _)
 rw[Qic] at h;unfold Ta8;simp only[l9,s7];rw[show (⟨0⟩:U7)=⟨((0:Nat):Int)⟩ from rfl,h]
 have e:(l.any λx=>!smb n x)=!l.all (smb n):=by rw[Qih]
 rw[e];cases l.all (smb n)<;>rfl
theorem he6(n:Int)(l:List Int)(hn:0<=n/\n<=1000000000)(hl:l.length<=1000000000):Ta9 n l=l.all (smb n):=by unfold Ta9;rw[Od0 n l hn hl];rfl
theorem he7(n:Int)(l:List Int)(hn:0<=n/\n<=1000000000)(hl:l.length<=1000000000):Ua0 n l=true:=by unfold Ua0;rw[Od0 n l hn hl];rfl
theorem Ge5{n:Int}(h:Sm 1000000000000000000 n):ab5 n=(n.natAbs:Int):=by
 unfold ab5;obtain⟨h1,h2⟩:=h;rw[ia9 (by omega) (by omega)]
 split<;>omega
theorem id9{n:Int}(h:Sm 1000000000000000000 n):Ta0 n=some (i (n.natAbs:Int),[]):=by
 unfold Ta0;obtain⟨h1,h2⟩:=h;rw[ia9 (by omega) (by omega)]
 by_cases h:n<0
 ·rw[bt (decide_eq_true h)];congr 3;omega
 ·rw[bf (decide_eq_false h)];congr 3;omega
theorem Ic0{n:Int}(h:Sm 1000000000000000000 n):Fa1 n=(n.natAbs:Int):=by unfold Fa1;rw[id9 h];rfl
theorem Ic1{n:Int}(h:Sm 1000000000000000000 n):Fa2 n=true:=by unfold Fa2;rw[id9 h];rfl
def g3(v:V3):Int:=(Nat.gcd (Nat.gcd v.x.natAbs v.y.natAbs) v.z.natAbs:Nat)
theorem Bf4(g n:Nat):eu (g:Int) (n:Int)=(Nat.gcd g n:Nat):=by rw[Af7 (by omega) (by omega)];rfl
theorem Yd0(P:ab4)(g n:Nat)(hn:n<=1000000000000000000):lp (ga6 P) ⟨(g:Int),(n:Int)⟩=(1,⟨(Nat.gcd g n:Nat),0⟩):=by
 have:=xd9 (step:=ga6 P) (mk:=λg n=>(⟨g,n⟩:ya4)) (λg n h=>by
  have h0:n≠0:=by omega
  simp[ga6,Da8,Rb8,h,h0]) (λg=>by simp[ga6,Da8,Rb8]) (g:Int) (n:Int) (by omega) (by omega) (by omega)
 rw[this,Bf4]
theorem Ue7(l:List Int)(hl:l.length<=1000000000)(hb:∀x∈l,Sm 1000000000000000000 x):Ma5 l=some (i (l.foldl (λg x=>Nat.gcd g x.natAbs) 0:Nat),[]):=by
 have h := id6 (step := ra6 ⟨(l.length : Int)⟩) (mk := fun j (a : Nat) => (⟨(a : Int), l, (j : Int)⟩ : ya5)) (f := fun g x => Nat.gcd g x.natAbs) (fin := 2) tI l (fun _ _ => True) hl (fun j a hj _ => ⟨by
   have hm:=hb _ (M1 tI hj);have hne:(gL tI l j==(-9223372036854775808:Int))=false:=by
    have:=hm.1
    rw[beq_eq_false_iff_ne];omega
   have hs:(gL tI l j).natAbs<=1000000000000000000:=by obtain⟨h1,h2⟩:=hm;omega
   simp only[ra6,Da9,Int.toNat_natCast,l9,s7,Ge5 hm,Yd0 _ _ _ hs,A5 hj (by omega)]
   rw[bt (Hc8 hj),bt (l0 hj),bf hne]
   rfl,trivial⟩) (λa _=>by simp only[ra6,Da9];rw[bf (sc2 (Qie _))]) 0 (Qbv _) 0 trivial
 have h:=h.1;rw[Qic] at h;unfold Ma5;simp only[l9,s7];rw[show (⟨0,l,0⟩:ya5)=⟨((0:Nat):Int),l,((0:Nat):Int)⟩ from rfl,h]
 rfl
def okp(p:Pln):Bool:=[p.n.x,p.n.y,p.n.z].all (smb 4608)&&(g3 p.n==1&&[p.b].all (smb 2097152))
theorem jg1(p:Pln):Bd p↔[p.n.x,p.n.y,p.n.z].all (smb 4608)=true/\[p.b].all (smb 2097152)=true:=by
 simp only[List.all_cons,List.all_nil,Qii,Qas,se1,Sm];exact⟨λh=>⟨⟨⟨h.x1,h.x2⟩,⟨h.y1,h.y2⟩,h.z1,h.z2⟩,h.b1,h.b2⟩,λ⟨⟨⟨a,b⟩,⟨c,d⟩,e,f⟩,g,h⟩=>⟨a,b,c,d,e,f,g,h⟩⟩
theorem sd0{p:Pln}(h:okp p=true):Bd p:=by
 unfold okp at h;rw[Qas,Qas] at h;exact (jg1 p).2 ⟨h.1,h.2.2⟩
theorem sm3{v:V3}(h:[v.x,v.y,v.z].all (smb 4608)=true):Sm 4608 v.x/\Sm 4608 v.y/\Sm 4608 v.z:=by
 simpa only[List.all_cons,List.all_nil,Qii,Qas,se1] using h
theorem Ge6(p:Pln):fb6 p=some (b (okp p),[]):=by
 unfold fb6 okp;have l3:[p.n.x,p.n.y,p.n.z].length<=1000000000:=by simp
 have l1:[p.b].length<=1000000000:=by simp
 simp only[he6 4608 _ (by omega) l3,he7 4608 _ (by omega) l3,he6 2097152 _ (by omega) l1,he7 2097152 _ (by omega) l1]
 cases hw:[p.n.x,p.n.y,p.n.z].all (smb 4608) with
 |false=>rfl
 |true =>
  obtain⟨h1,h2,h3⟩:=sm3 hw;have hd:=Ue7 [p.n.x,p.n.y,p.n.z] l3 (by
   intro x hx;simp only[Qbh,Qiab,or_false] at hx
   rcases hx with rfl|rfl|rfl
   ·exact h1.mono (by omega)
   ·exact h2.mono (by omega)
   ·exact h3.mono (by omega))
  have hg:([p.n.x,p.n.y,p.n.z].foldl (λg x=>Nat.gcd g x.natAbs) 0:Nat)=Nat.gcd (Nat.gcd p.n.x.natAbs p.n.y.natAbs) p.n.z.natAbs:=by
   simp only[List.foldl_cons,List.foldl_nil,Qix]
  have hp:jb4 [p.n.x,p.n.y,p.n.z]=g3 p.n:=by unfold jb4;rw[hd,hg];rfl
  have hgd:jb5 [p.n.x,p.n.y,p.n.z]=true:=by unfold jb5;rw[hd];rfl
  rw[hp,hgd];cases g3 p.n==1<;>rfl
theorem Qf4(p:Pln):Bb6 p=okp p:=by unfold Bb6;rw[Ge6 p];rfl
theorem Qf5(p:Pln):Bb7 p=true:=by unfold Bb7;rw[Ge6 p];rfl
theorem sd1(P:ya1)(g n:Nat)(hn:n<=1000000000000000000):lp (qa5 P) ⟨(g:Int),(n:Int)⟩=(1,⟨(Nat.gcd g n:Nat),0⟩):=by
 have:=xd9 (step:=qa5 P) (mk:=λg n=>(⟨g,n⟩:ca3)) (λg n h=>by
  have h0:n≠0:=by omega
  simp[qa5,qb1,Rb8,h,h0]) (λg=>by simp[qa5,qb1,Rb8]) (g:Int) (n:Int) (by omega) (by omega) (by omega)
 rw[this,Bf4]
theorem cf1{v:V3}(h1:Sm 1000000000000000000 v.x)(h2:Sm 1000000000000000000 v.y)(h3:Sm 1000000000000000000 v.z) :
  Sb8 v=if g3 v=0 then some (.tup [.agg (tV.row ⟨0,0,0⟩),i 0],[]) else some (.tup [.agg (tV.row ⟨W (Int.tdiv v.x (g3 v)),W (Int.tdiv v.y (g3 v)),W (Int.tdiv v.z (g3 v))⟩),i (g3 v)],[]):=by
 have ne:∀{x:Int},Sm 1000000000000000000 x->(x==(-9223372036854775808:Int))=false:=λ{x} h=>by
  have:=h.1
  rw[beq_eq_false_iff_ne];omega
 have bd:∀{x:Int},Sm 1000000000000000000 x->x.natAbs<=1000000000000000000:=λ{x} h=>by obtain⟨h1,h2⟩:=h;omega
 have l1:=sd1 ⟨0,v.x,v.y,v.z,v.x,v.y,v.z⟩ 0 v.x.natAbs (bd h1);rw[Qix] at l1;have l2:=sd1 ⟨1,v.x,v.y,v.z,v.x,v.y,v.z⟩ v.x.natAbs v.y.natAbs (bd h2);have l3:=sd1 ⟨2,v.x,v.y,v.z,v.x,v.y,v.z⟩ (Nat.gcd v.x.natAbs v.y.natAbs) v.z.natAbs (bd h3);unfold Sb8;simp only[Ic0 h1,Ic0 h2,Ic0 h3,Ic1 h1,Ic1 h2,Ic1 h3];rw[show (⟨0,(v.x.natAbs:Int)⟩:ca3)=⟨((0:Nat):Int),(v.x.natAbs:Int)⟩ from rfl]
 simp only[l1,l2,l3,ne h1,ne h2,ne h3];rw[show ((Nat.gcd (Nat.gcd v.x.natAbs v.y.natAbs) v.z.natAbs:Nat):Int)=g3 v from rfl]
 by_cases h:g3 v=0
 ·rw[if_pos h,show (g3 v==0)=true from by rw[h];rfl];rfl
 ·rw[if_neg h,show (g3 v==0)=false from by rw[beq_eq_false_iff_ne];exact h];rfl
theorem Ue8{v:V3}(h1:Sm 1000000000000000000 v.x)(h2:Sm 1000000000000000000 v.y)(h3:Sm 1000000000000000000 v.z):(qc4 v).2=g3 v:=by
 unfold qc4;rw[cf1 h1 h2 h3];split
 ·rename_i h;rw[h];rfl
 ·rfl
theorem jg2{v:V3}(h1:Sm 1000000000000000000 v.x)(h2:Sm 1000000000000000000 v.y)(h3:Sm 1000000000000000000 v.z):qc5 v=true:=by
 unfold qc5;rw[cf1 h1 h2 h3]
 split<;>rfl
theorem he8(p:Pln):Cb8 p=some (b (okp p),[]):=by
 unfold Cb8 okp;cases hw:[p.n.x,p.n.y,p.n.z].all (smb 4608) with
 |false =>
  simp only[List.all_cons,List.all_nil,Qii,smb] at hw;cases h1:decide (p.n.x < -4608)<;>cases h2:decide (p.n.x>4608)<;>cases h3:decide (p.n.y < -4608)<;>cases h4:decide (p.n.y>4608)<;>cases h5:decide (p.n.z < -4608)<;>cases h6:decide (p.n.z>4608)<;>simp only[h1,h2,h3,h4,h5,h6] at hw ⊢<;>first | rfl | cases hw
 |true =>
  obtain⟨h1,h2,h3⟩:=sm3 hw;rw[bf (decide_eq_false (by have:=h1.1;omega)),bf (decide_eq_false (by have:=h1.2;omega)),bf (decide_eq_false (by have:=h2.1;omega)),bf (decide_eq_false (by have:=h2.2;omega)),bf (decide_eq_false (by have:=h3.1;omega)),bf (decide_eq_false (by have:=h3.2;omega))]
  have k1:=h1.mono (m:=1000000000000000000) (by omega)
  have k2:=h2.mono (m:=1000000000000000000) (by omega)
  have k3:=h3.mono (m:=1000000000000000000) (by omega)
  rw[bt (jg2 k1 k2 k3),Ue8 k1 k2 k3];cases g3 p.n==1 with
  |false=>rfl
  |true =>
   simp only[List.all_cons,List.all_nil,Qii,smb,Bool.true_and];rw[g7];by_cases ha:p.b < -2097152
   ·rw[bf (decide_eq_false (by omega)),show decide (p.b < -2097152)=true from decide_eq_true ha];rfl
   ·rw[bt (decide_eq_true (by omega)),show decide (p.b < -2097152)=false from decide_eq_false ha]
    congr 3;by_cases hc:p.b<=2097152
    ·rw[decide_eq_true hc,decide_eq_false (by omega)];rfl
    ·rw[decide_eq_false hc,decide_eq_true (by omega)];rfl
theorem Bf5(p:Pln):ac6 p=okp p:=by unfold ac6;rw[he8 p];rfl
theorem Bf6(p:Pln):ac7 p=true:=by unfold ac7;rw[he8 p];rfl
def chk(l:PLq):Int:=if (l.length:Int)>48 then 2 else if l.all okp then 0 else 12
theorem Ge7(l:PLq)(hl:l.length<=1000000000):rb6 l=some (i (chk l),[]):=by
 have hk1:∀p,Ua1 p=some (b (!okp p),[]):=λp=>by unfold Ua1;rw[Qf5,Qf4];rfl
 have hp1:∀p,rb4 p=!okp p:=λp=>by unfold rb4;rw[hk1];rfl
 have hg1:∀p,rb5 p=true:=λp=>by unfold rb5;rw[hk1];rfl
 have h:=jb8 (step:=O5 ⟨l,(l.length:Int)⟩) (mk:=λj=>(⟨(j:Int)⟩:B8)) (c:=λp=>!okp p) (u:=1) (fin:=2) tP l hl
  (λj hj=>by
   simp only[O5,W8,Int.toNat_natCast,hp1,hg1,A5 hj (by omega)]
   rw[bt (Hc8 hj),bt (l0 hj),g7])
  (by simp only[O5,W8];rw[bf (sc2 (Qie _))]) 0 (Qbv _)
 rw[Qic] at h;have e:(l.any λx=>!okp x)=!l.all okp:=by rw[Qih]
 unfold rb6 ma4 ma3 ua3 ua2 chk;simp only[l9,s7];rw[show (⟨0⟩:B8)=⟨((0:Nat):Int)⟩ from rfl,h,e]
 by_cases hn:(l.length:Int)>48
 ·rw[bt (decide_eq_true hn),if_pos hn]
 ·rw[bf (decide_eq_false hn),if_neg hn];cases l.all okp with
  |true=>rfl
  |false =>
   simp only[Qit,if_true,Qar];show sl true (sl (Nat.beq 1 1) (sl (decide (((l.findIdx λp=>!okp p:Nat):Int)>=0)) _ _) _) _=_
   rw[show decide (((l.findIdx λp=>!okp p:Nat):Int)>=0)=true from decide_eq_true (by omega)]
   rfl
theorem Fd6(l:PLq)(hl:l.length<=1000000000):Ka3 l=chk l:=by unfold Ka3;rw[Ge7 l hl];rfl
theorem se2(l:PLq)(hl:l.length<=1000000000):rb7 l=true:=by unfold rb7;rw[Ge7 l hl];rfl
theorem he9(l:PLq)(hl:l.length<=1000000000):Cb9 l=some (i (chk l),[]):=by
 have h:=sc4 (step:=Ta1 ⟨l⟩) (mk:=λj=>(⟨(j:Int)⟩:ha5)) (c:=λp=>!okp p) (u:=1) (fin:=2) tP l hl
  (λj hj=>by
   simp only[Ta1,jb2,Int.toNat_natCast,Bf5,Bf6,A5 hj (by omega)]
   rw[bt (Hc8 hj),bt (l0 hj),g7])
  (by simp only[Ta1,jb2];rw[bf (sc2 (Qie _))]) 0 (Qbv _)
 rw[Qic] at h;have e:(l.any λx=>!okp x)=!l.all okp:=by rw[Qih]
 unfold Cb9 chk;simp only[l9,s7];rw[show (⟨0⟩:ha5)=⟨((0:Nat):Int)⟩ from rfl,h,e]
 by_cases hn:(l.length:Int)>48
 ·rw[bt (decide_eq_true hn),if_pos hn]
 ·rw[bf (decide_eq_false hn),if_neg hn];cases l.all okp<;>rfl
theorem sb9(l:PLq)(hl:l.length<=1000000000):W5 l=chk l:=by unfold W5;rw[he9 l hl];rfl
theorem Ub8(l:PLq)(hl:l.length<=1000000000):qa6 l=true:=by unfold qa6;rw[he9 l hl];rfl
theorem Fb3{l:PLq}:chk l=0↔l.length<=48/\∀p∈l,okp p=true:=by
 unfold chk;by_cases hn:(l.length:Int)>48
 ·rw[if_pos hn];exact⟨λh=>absurd h (by decide),λh=>by omega⟩
 ·rw[if_neg hn];cases h:l.all okp with
  |true=>exact⟨λ_=>⟨by omega,Qcc.1 h⟩,λ_=>rfl⟩
  |false=>exact⟨λh=>absurd h (by decide),λh'=>by rw[Qcc.2 h'.2] at h;cases h⟩
theorem btD{p:Prop}{inst:Decidable p}(h:p){α:Type}(t e:α):sl (@decide p inst) t e=t:=bt (decide_eq_true h) t e
theorem bfD{p:Prop}{inst:Decidable p}(h:¬ p){α:Type}(t e:α):sl (@decide p inst) t e=e:=bf (decide_eq_false h) t e
theorem n8{j n:Nat}(h:j<n):(j:Int)<(n:Int):=Qiz.2 h
theorem w8{j n:Nat}(h:¬ j<n):¬ (j:Int)<(n:Int):=λh'=>h (Qiz.1 h')
theorem tb0{σ τ α:Type}{step:σ->Stp σ}{mk:Nat->τ->σ}{f:α->List α->τ->τ}{g:List α->τ->τ}{fin:τ->Nat}(l:List α)(I:Nat->τ->Prop)(hl:l.length<=1000000000)
  (g0:∀a,g [] a=a) (g1:∀x r a,g (x::r) a=g r (f x r a))
  (h:∀j a (hj:j<l.length),I j a->step (mk j a)=.next (mk (j+1) (f l[j] (l.drop (j+1)) a))/\I (j+1) (f l[j] (l.drop (j+1)) a))
  (hf:∀j a,l.length<=j->I j a->step (mk j a)=.exit (fin a)) (j0:Nat) (a:τ) (hi:I j0 a) :
  lp step (mk j0 a)=(fin (g (l.drop j0) a),mk (max j0 l.length) (g (l.drop j0) a))/\I (max j0 l.length) (g (l.drop j0) a):=by
 have key:=sc3 (step:=step) (I:=λm s=>∃j b,m=l.length-j/\max j l.length=max j0 l.length/\s=mk j b/\I j b/\g (l.drop j) b=g (l.drop j0) a)
  (Q:=λu s=>u=fin (g (l.drop j0) a)/\s=mk (max j0 l.length) (g (l.drop j0) a)/\I (max j0 l.length) (g (l.drop j0) a)) (λm s ⟨j,b,hm,hj,hs,hb,he⟩=>by
   subst hs;by_cases hlt:j<l.length
   ·obtain⟨h1,h2⟩:=h j b hlt hb;refine .inr ⟨_,l.length-(j+1),by omega,h1,j+1,_,rfl,by omega,rfl,h2,?_⟩
    rw[<- he,Qid hlt,g1]
   ·have hd:l.drop j=[]:=Qik (by omega)
    rw[hd,g0] at he;have hj':j=max j0 l.length:=by omega
    subst he;rw[<- hj'];exact .inl ⟨_,hf j _ (by omega) hb,rfl,rfl,hb⟩) (l.length-j0) (mk j0 a) (by omega) ⟨j0,a,rfl,rfl,rfl,hi,rfl⟩
 exact⟨Prod.ext key.1 key.2.1,key.2.2⟩
def Wa1(r:PLq)(p q:Pln)(out:List Pt)(s:Pln):List Pt :=
 if (mpt p q s).2&&(!Hc9 out (mpt p q s).1&&inn r (mpt p q s).1) then out++[(mpt p q s).1] else out
def Jb8(r:PLq)(p q:Pln)(l:PLq)(out:List Pt):List Pt:=l.foldl (Wa1 r p q) out
def tb1(r:PLq)(p:Pln):PLq->List Pt->List Pt
 |[],out=>out
 |q::l,out=>tb1 r p l (Jb8 r p q l out)
def jd0(r:PLq):PLq->List Pt->List Pt
 |[],out=>out
 |p::l,out=>jd0 r l (tb1 r p l out)
def cor(r:PLq):List Pt:=jd0 r r []
def Bds(r:PLq):Prop:=∀p∈r,Bd p
theorem sd2(r:PLq)(p q:Pln)(out:List Pt)(s:Pln):(Wa1 r p q out s).length<=out.length+1:=by
 unfold Wa1;split
 ·simp
 ·omega
theorem jd1(r:PLq)(p q:Pln):∀(l:PLq) (out:List Pt),(Jb8 r p q l out).length<=out.length+l.length
 |[],out=>Qaf _
 |s::l,out=>by
  have h1:=sd2 r p q out s;have h2:=jd1 r p q l (Wa1 r p q out s);show (Jb8 r p q l (Wa1 r p q out s)).length<=_;simp only[List.length_cons];omega
theorem Od1(r:PLq)(p:Pln):∀(l:PLq) (out:List Pt),l.length<=200->(tb1 r p l out).length<=out.length+200*l.length
 |[],out,_=>by simp[tb1]
 |q::l,out,h=>by
  simp only[List.length_cons] at h ⊢;have h1:=jd1 r p q l out;have h2:=Od1 r p l (Jb8 r p q l out) (by omega)
  show (tb1 r p l (Jb8 r p q l out)).length<=_;omega
theorem Ge8(r:PLq):∀(l:PLq) (out:List Pt),l.length<=200->(jd0 r l out).length<=out.length+40000*l.length
 |[],out,_=>by simp[jd0]
 |p::l,out,h=>by
  simp only[List.length_cons] at h ⊢;have h1:=Od1 r p l out (by omega)
  have h2:=Ge8 r l (tb1 r p l out) (by omega)
  show (jd0 r l (tb1 r p l out)).length<=_;omega
theorem se3(r:PLq)(_:Bds r)(hr:r.length<=200):(cor r).length<=8000000:=by
 have:=Ge8 r r [] hr
 rw[List.length_nil] at this;show (jd0 r r []).length<=_;omega
def ph(out:List Pt):Nat:=match out with
 |[]=>0
 |_::_=>1
theorem Ge9(x:Pt):Hc9 [] x=false:=rfl
theorem jd2{α:Type}(t:Ty α)(l:List α)(n k:Nat):gL t (l.drop n) k=gL t l (n+k):=by simp[gL,Qda,Qbg]
theorem He0{n:Nat}{l:List Pt}(hn:n=l.length)(h:l.length<=1000000000):(Nat.beq n (len (bL tX l))&&Nat.ble ((n+1)*32) room)=true:=by
 subst hn;rw[J2,Qim,Bool.true_and];exact Ea0 (by omega)
theorem cf2(l:List Pt)(x:Pt):app (bL tX l) [[i x.px,i x.py,i x.pz,i x.pw]]=bL tX (l++[x]):=ra4 tX l [x]
@[reducible] noncomputable def Sc5(k:Nat)(out:List Pt):E4:=⟨ph out,(k:Int),out.length,bL tX out⟩
theorem jg3(l:List Pt):slR tX (bL tX l) 0 l.length=l:=pc4 tX l
theorem Qf6(r:PLq)(hb:Bds r)(hr:r.length<=200)(a c k:Nat)(ha:a<r.length)(hc:c<r.length)(out:List Pt)(ho:out.length<=1000000000)(hk:k<r.length) :
  aa3 ⟨r,a,c⟩ (Sc5 k out)=.next (Sc5 (k+1) (Wa1 r r[a] r[c] out r[k])):=by
 have hin:∀x,jc8 r x=inn r x:=λx=>Mg6 r x (by omega)
 have hig:∀x,jc9 r x=true:=λx=>Mg7 r x (by omega)
 have hth:∀x,mb6 out x=Hc9 out x:=λx=>Qf2 out x ho
 have htg:∀x,mb7 out x=true:=λx=>Qf3 out x ho
 have hme:=Pf9 (hb _ (Qif ha)) (hb _ (Qif hc)) (hb _ (Qif hk));have hmg:=Qf0 (hb _ (Qif ha)) (hb _ (Qif hc)) (hb _ (Qif hk));unfold aa3;cases out with
 |nil =>
  show ka3 Stp.next Stp.exit Stp.fail _ (Sc5 k [])=_;simp only[ka3,Sc5,Int.toNat_natCast,l9,A3,gb5 tP ha,gb5 tP hc,gb5 tP hk,hme,hmg,hin,hig,hth,htg,A5 hk (by omega)]
  rw[btD (n8 hk),bt (l0 ha),bt (l0 hc),bt (l0 hk),g7];unfold Wa1;rw[Ge9];cases (mpt r[a] r[c] r[k]).2 with
  |false=>rfl
  |true =>
   cases inn r (mpt r[a] r[c] r[k]).1 with
   |false=>rfl
   |true=>rfl
 |cons o os =>
  show ka4 Stp.next Stp.exit Stp.fail _ (Sc5 k (o::os))=_;simp only[ka4,Sc5,Int.toNat_natCast,l9,A3,gb5 tP ha,gb5 tP hc,gb5 tP hk,hme,hmg,hin,hig,jg3,pc5,hth,htg,A5 hk (by omega)]
  rw[btD (n8 hk),bt (l0 ha),bt (l0 hc),bt (l0 hk),g7,He0 rfl ho,cf2];unfold Wa1;cases (mpt r[a] r[c] r[k]).2 with
  |false=>rfl
  |true =>
   cases inn r (mpt r[a] r[c] r[k]).1 with
   |false=>cases Hc9 (o::os) (mpt r[a] r[c] r[k]).1<;>rfl
   |true =>
    cases Hc9 (o::os) (mpt r[a] r[c] r[k]).1 with
    |true=>rfl
    |false =>
     show Stp.next (⟨1,((k+1:Nat):Int),(o::os).length+1,bL tX (o::os++[(mpt r[a] r[c] r[k]).1])⟩:E4)=_;simp[ph]
theorem jg4(r:PLq)(a c k:Nat)(out:List Pt)(hk:r.length<=k):aa3 ⟨r,a,c⟩ (Sc5 k out)=.exit (ph out+1):=by
 unfold aa3;have this:¬ ((k:Int)<(r.length:Int)):=by omega
 cases out with
 |nil =>
  show ka3 Stp.next Stp.exit Stp.fail _ (Sc5 k [])=_;simp only[ka3,Sc5];rw[bfD this];rfl
 |cons o os =>
  show ka4 Stp.next Stp.exit Stp.fail _ (Sc5 k (o::os))=_;simp only[ka4,Sc5];rw[bfD this];rfl
theorem Qf7(r:PLq)(hb:Bds r)(hr:r.length<=200)(a c:Nat)(ha:a<r.length)(hc:c<r.length)(k:Nat)(out:List Pt)(ho:out.length<=100000000) :
  ∃m,lp (aa3 ⟨r,a,c⟩) (Sc5 k out)=(ph (Jb8 r r[a] r[c] (r.drop k) out)+1,Sc5 m (Jb8 r r[a] r[c] (r.drop k) out)) :=
 ⟨_,(tb0 (mk:=Sc5) (f:=λs _ out=>Wa1 r r[a] r[c] out s) (g:=λl out=>Jb8 r r[a] r[c] l out) (fin:=λout=>ph out+1) r (λj o=>o.length+k<=out.length+j) (by omega)
  (λ_=>rfl) (λ_ _ _=>rfl) (λj o hj hi=>⟨Qf6 r hb hr a c j ha hc o (by omega) hj,by have:=sd2 r r[a] r[c] o r[j];show (Wa1 r r[a] r[c] o r[j]).length+k<=out.length+(j+1);omega⟩)
  (λj o hj _=>jg4 r a c j o hj) k out (by omega)).1⟩
@[reducible] noncomputable def Sc6(r:PLq)(j:Nat)(out:List Pt):G2:=⟨ph out,r,(j:Int),out.length,bL tX out⟩
theorem Qf8(r:PLq)(hb:Bds r)(hr:r.length<=200)(a j:Nat)(ha:a<r.length)(out:List Pt)(ho:out.length<=100000000)(hj:j<r.length) :
  U6 ⟨a⟩ (Sc6 r j out)=.next (Sc6 r (j+1) (Jb8 r r[a] r[j] (r.drop (j+1)) out)):=by
 obtain⟨m,hm⟩:=Qf7 r hb hr a j ha hj (j+1) out ho;unfold U6;generalize Jb8 r r[a] r[j] (r.drop (j+1)) out=res at *
 cases out with
 |nil =>
  show ka5 Stp.next Stp.exit Stp.fail _ (Sc6 r j [])=_;simp only[ka5,Sc6,l9,s7,A5 hj (by omega)]
  rw[show (⟨0,((j+1:Nat):Int),0,[]⟩:E4)=Sc5 (j+1) [] from rfl,hm,btD (n8 hj)]
  cases res<;>rfl
 |cons o os =>
  show ka6 Stp.next Stp.exit Stp.fail _ (Sc6 r j (o::os))=_;simp only[ka6,Sc6,l9,s7,A5 hj (by omega)]
  rw[show (⟨1,((j+1:Nat):Int),(o::os).length,bL tX (o::os)⟩:E4)=Sc5 (j+1) (o::os) from rfl,hm,btD (n8 hj)]
  cases res<;>rfl
theorem jg5(r:PLq)(a j:Nat)(out:List Pt)(hj:r.length<=j):U6 ⟨a⟩ (Sc6 r j out)=.exit (ph out+1):=by
 unfold U6;have this:¬ ((j:Int)<(r.length:Int)):=by omega
 cases out with
 |nil =>
  show ka5 Stp.next Stp.exit Stp.fail _ (Sc6 r j [])=_;simp only[ka5,Sc6];rw[bfD this];rfl
 |cons o os =>
  show ka6 Stp.next Stp.exit Stp.fail _ (Sc6 r j (o::os))=_;simp only[ka6,Sc6];rw[bfD this];rfl
theorem Qf9(r:PLq)(hb:Bds r)(hr:r.length<=200)(a:Nat)(ha:a<r.length)(j:Nat)(out:List Pt)(ho:out.length<=40000*a) :
  ∃m,lp (U6 ⟨a⟩) (Sc6 r j out)=(ph (tb1 r r[a] (r.drop j) out)+1,Sc6 r m (tb1 r r[a] (r.drop j) out))/\(tb1 r r[a] (r.drop j) out).length<=40000*(a+1):=by
 have hk:=tb0 (step:=U6 ⟨a⟩) (mk:=Sc6 r) (f:=λq l out=>Jb8 r r[a] q l out) (g:=λl out=>tb1 r r[a] l out) (fin:=λout=>ph out+1) r (λk o=>o.length<=40000*a+200*(k-j)/\j<=k/\k<=j+r.length) (by omega)
  (λ_=>rfl) (λ_ _ _=>rfl) (λk o hj hi=>⟨Qf8 r hb hr a k ha o (by omega) hj,by
   have:=jd1 r r[a] r[k] (r.drop (k+1)) o
   rw[Qib] at this;show (Jb8 r r[a] r[k] (r.drop (k+1)) o).length<=40000*a+200*(k+1-j)/\j<=k+1/\k+1<=j+r.length
   omega⟩)
  (λk o hj _=>jg5 r a k o hj) j out (by omega)
 exact⟨_,hk.1,by have:=hk.2;omega⟩
@[reducible] noncomputable def Zc7(r:PLq)(j:Nat)(out:List Pt):J3:=⟨ph out,r,(j:Int),out.length,bL tX out⟩
theorem cf3(r:PLq)(hb:Bds r)(hr:r.length<=200)(a:Nat)(ha:a<r.length)(out:List Pt)(ho:out.length<=40000*a) :
  aa4 ⟨⟩ (Zc7 r a out)=.next (Zc7 r (a+1) (tb1 r r[a] (r.drop (a+1)) out))/\(tb1 r r[a] (r.drop (a+1)) out).length<=40000*(a+1):=by
 obtain⟨m,hm,hl⟩:=Qf9 r hb hr a ha (a+1) out ho;refine⟨?_,hl⟩
 clear hl
 unfold aa4;generalize tb1 r r[a] (r.drop (a+1)) out=res at *
 cases out with
 |nil =>
  show ka7 Stp.next Stp.exit Stp.fail _ (Zc7 r a [])=_;simp only[ka7,Zc7,l9,s7,A5 ha (by omega)]
  rw[show (⟨0,r,((a+1:Nat):Int),0,[]⟩:G2)=Sc6 r (a+1) [] from rfl,hm,btD (n8 ha)]
  cases res<;>rfl
 |cons o os =>
  show ka8 Stp.next Stp.exit Stp.fail _ (Zc7 r a (o::os))=_;simp only[ka8,Zc7,l9,s7,A5 ha (by omega)]
  rw[show (⟨1,r,((a+1:Nat):Int),(o::os).length,bL tX (o::os)⟩:G2)=Sc6 r (a+1) (o::os) from rfl,hm,btD (n8 ha)]
  cases res<;>rfl
theorem jg6(r:PLq)(j:Nat)(out:List Pt)(hj:r.length<=j):aa4 ⟨⟩ (Zc7 r j out)=.exit (ph out+1):=by
 unfold aa4;have this:¬ ((j:Int)<(r.length:Int)):=by omega
 cases out with
 |nil =>
  show ka7 Stp.next Stp.exit Stp.fail _ (Zc7 r j [])=_;simp only[ka7,Zc7];rw[bfD this];rfl
 |cons o os =>
  show ka8 Stp.next Stp.exit Stp.fail _ (Zc7 r j (o::os))=_;simp only[ka8,Zc7];rw[bfD this];rfl
theorem Rf0(r:PLq)(hb:Bds r)(hr:r.length<=200):∃m,lp (aa4 ⟨⟩) (Zc7 r 0 [])=(ph (cor r)+1,Zc7 r m (cor r))/\(cor r).length<=8000000:=by
 have hk:=tb0 (step:=aa4 ⟨⟩) (mk:=Zc7 r) (f:=λq l out=>tb1 r q l out) (g:=λl out=>jd0 r l out) (fin:=λout=>ph out+1) r (λk o=>o.length<=40000*k/\k<=r.length) (by omega)
  (λ_=>rfl) (λ_ _ _=>rfl) (λk o hj hi=>⟨(cf3 r hb hr k hj o hi.1).1,(cf3 r hb hr k hj o hi.1).2,hj⟩)
  (λk o hj _=>jg6 r k o hj) 0 [] (by simp)
 exact⟨_,hk.1,by have:=hk.2;rw[show max 0 r.length=r.length by omega] at this;have h1:=this.1;show (jd0 r r []).length<=_;rw[Qic] at h1;omega⟩
def slX(l:List Pt):b7×List c7:=match l with
 |[]=>(.v (.slice none 0 0),[])
 |_::_=>(.sl 0 0 l.length 0,[⟨114,4,bL tX l,true,false,0⟩])
theorem se4(l:List Pt):(one (r1L tX)).rd (slX l)=some l:=by
 cases l with
 |nil=>rfl
 |cons x l =>
  show Bool.rec (motive:=λ_=>Option (List Pt)) none (some (slR tX (bL tX (x::l)) 0 (x::l).length)) (Bool.and true (okS tX (bL tX (x::l)) 0 (x::l).length))=_
  rw[pc4,pc5];rfl
theorem yd0(r:PLq)(hb:Bds r)(hr:r.length<=200):eb9 r=some (slX (cor r)):=by
 obtain⟨m,hm,_⟩:=Rf0 r hb hr;unfold eb9;simp only[l9,s7];rw[show (⟨0,r,0,0,[]⟩:J3)=Zc7 r 0 [] from rfl,hm]
 cases cor r<;>rfl
theorem ab7{ρ:Type}(R:RR ρ){x:b7×List c7}{r:ρ}(h:R.rd x=some r):L9 R (some x)=r:=by
 show Option.rec (motive:=λ_=>ρ) R.d (λx=>x) (R.rd x)=r
 rw[h]
theorem tb2{ρ:Type}(R:RR ρ){x:b7×List c7}{r:ρ}(h:R.rd x=some r):okO R (some x)=true:=by
 show Option.rec (motive:=λ_=>Bool) false (λ_=>true) (R.rd x)=true
 rw[h]
theorem Od2(r:PLq)(hb:Bds r)(hr:r.length<=200):fb0 r=cor r:=by unfold fb0;rw[yd0 r hb hr];exact ab7 _ (se4 _)
theorem Od3(r:PLq)(hb:Bds r)(hr:r.length<=200):fb1 r=true:=by unfold fb1;rw[yd0 r hb hr];exact tb2 _ (se4 _)
def Yd1(x:Pt):List b7:=[i x.px,i x.py,i x.pz,i x.pw,b true]
def xc3(l:List Pt):List (List b7):=l.map Yd1
@[reducible] noncomputable def flK:List (Nat×CK):=[(0,.int .i64),(1,.int .i64),(2,.int .i64),(3,.int .i64)]
theorem He1(x q:Pt):Sc0 flK [i x.px,i x.py,i x.pz,i x.pw] (Yd1 q)=eqX x q:=by
 show Bool.and (decide (x.px=q.px)) (Bool.and (decide (x.py=q.py)) (Bool.and (decide (x.pz=q.pz)) (Bool.and (decide (x.pw=q.pw)) true)))=_;unfold eqX;have h:∀a c:Int,decide (a=c)=(c==a):=λa c=>by rw[Bool.eq_iff_iff,decide_eq_true_eq,beq_iff_eq];exact eq_comm
 rw[h,h,h,h]
theorem Od4(x:Pt):∀l,cd6 4 flK [i x.px,i x.py,i x.pz,i x.pw] (xc3 l)=Hc9 l x
 |[]=>rfl
 |q::l=>by
  have ih:=Od4 x l;unfold cd6 at ih ⊢;show Option.rec (motive:=λ_=>Bool) false (λr=>toB (hdA (s9 r 4))) (Bool.rec (motive:=λ_=>Option (List b7)) (vd0 flK [i x.px,i x.py,i x.pz,i x.pw] (xc3 l)) (some (Yd1 q)) (Sc0 flK [i x.px,i x.py,i x.pz,i x.pw] (Yd1 q)))=Hc9 (q::l) x
  rw[He1];unfold Hc9 at ih ⊢;rw[List.any_cons];cases eqX x q with
  |true=>rfl
  |false=>exact ih
theorem ie0(x:Pt):∀l,Hc9 l x=false->dc1 flK [i x.px,i x.py,i x.pz,i x.pw] (Yd1 x) (xc3 l)=xc3 (l++[x])
 |[],_=>rfl
 |q::l,h=>by
  unfold Hc9 at h;rw[List.any_cons,Bool.or_eq_false_iff] at h;show Bool.rec (motive:=λ_=>List (List b7)) (Yd1 q::dc1 flK [i x.px,i x.py,i x.pz,i x.pw] (Yd1 x) (xc3 l)) (Yd1 x::xc3 l) (Sc0 flK [i x.px,i x.py,i x.pz,i x.pw] (Yd1 q))=_
  rw[He1,h.1,ie0 x l h.2];rfl
@[reducible] noncomputable def Sc7(k:Nat)(out:List Pt):s6:=⟨ph out,(k:Int),out.length,bL tX out,xc3 out⟩
structure C2(P:o8)(r:PLq)(p q:Pln)(lo:Nat):Prop where
 ns:P.Jf9=(r.drop lo).length
 gs:P.Kf0=λk=>tP.row (gL tP r (lo+k))
 is:P.Tc6=((r.drop lo).length:Int)
 p1:(⟨⟨P.Ba0,P.Ba1,P.Ba2⟩,P.Ba3⟩:Pln)=p
 q1:(⟨⟨P.vc0,P.X4,P.vc1⟩,P.md9⟩:Pln)=q
 r1:P.bb5=r
theorem se5(s:Pln):(⟨⟨toI (hdA (tP.row s)),toI (hdA (tlA (tP.row s))),toI (hdA (tlA (tlA (tP.row s))))⟩,toI (hdA (tlA (tlA (tlA (tP.row s)))))⟩:Pln)=s:=rfl
theorem se6(s:Pln):((Nat.ble 4 (len (tP.row s)))&&(ka1 [CK.int .i64,CK.int .i64,CK.int .i64,CK.int .i64] (tP.row s)))=true:=rfl
theorem Rf1{P:o8}{r:PLq}{p q:Pln}{lo:Nat}(h:C2 P r p q lo)(hb:Bds r)(hr:r.length<=200)(hp:Bd p)(hq:Bd q)(k:Nat)(out:List Pt)(ho:out.length<=1000000000)(hk:k<(r.drop lo).length) :
  H7 P (Sc7 k out)=.next (Sc7 (k+1) (Wa1 r p q out (r.drop lo)[k])):=by
 have hwi:∀x,Pa0 r x=inn r x:=λx=>Bf1 r x (by omega)
 have hwg:∀x,Pa1 r x=true:=λx=>Bf2 r x (by omega)
 have hs:gL tP r (lo+k)=(r.drop lo)[k]:=by rw[<- jd2,gb5 tP hk]
 have hbs:Bd (r.drop lo)[k]:=hb _ (List.mem_of_mem_drop (Qif hk));have hd:(r.drop lo).length<=200:=by rw[Qib];omega
 have hme:=ig9 hp hq hbs;have hmg:=jg0 hp hq hbs;obtain⟨x1,x2,x3,x4,x5,x6,x7,x8,x9,x10,x11,x12,x13,x14,x15,x16,x17,x18,x19,x20,x21⟩:=P;obtain⟨ns,gs,is,p1,q1,r1⟩:=h
 simp only at ns gs is p1 q1 r1
 have r1:=r1.symm;subst ns gs is r1;unfold H7;cases out with
 |nil =>
  show M8 Stp.next Stp.exit Stp.fail _ (Sc7 k [])=_;simp only[M8,Sc7,Int.toNat_natCast,l9,A3,p1,q1,hs,se5,se6,hme,hmg,hwi,hwg,A5 hk (by omega)]
  rw[btD (n8 hk),bt (l0 hk),g7,g7];unfold Wa1;rw[Ge9];cases (mpt p q (r.drop lo)[k]).2 with
  |false=>rfl
  |true =>
   cases inn r (mpt p q (r.drop lo)[k]).1 with
   |false=>rfl
   |true=>rfl
 |cons o os =>
  show M9 Stp.next Stp.exit Stp.fail _ (Sc7 k (o::os))=_;simp only[M9,Sc7,Int.toNat_natCast,l9,A3,p1,q1,hs,se5,se6,hme,hmg,hwi,hwg,A5 hk (by omega),Od4]
  rw[btD (n8 hk),bt (l0 hk),g7,g7,He0 rfl ho,cf2];unfold Wa1;cases (mpt p q (r.drop lo)[k]).2 with
  |false=>rfl
  |true =>
   cases hx:Hc9 (o::os) (mpt p q (r.drop lo)[k]).1 with
   |true=>rfl
   |false =>
    cases inn r (mpt p q (r.drop lo)[k]).1 with
    |false=>rfl
    |true =>
     show Stp.next (⟨1,((k+1:Nat):Int),(o::os).length+1,bL tX (o::os++[(mpt p q (r.drop lo)[k]).1]),dc1 flK [i (mpt p q (r.drop lo)[k]).1.px,i (mpt p q (r.drop lo)[k]).1.py,i (mpt p q (r.drop lo)[k]).1.pz,i (mpt p q (r.drop lo)[k]).1.pw] (Yd1 (mpt p q (r.drop lo)[k]).1) (xc3 (o::os))⟩:s6)=_;rw[ie0 _ _ hx];simp[ph]
theorem jg7{P:o8}{r:PLq}{p q:Pln}{lo:Nat}(h:C2 P r p q lo)(k:Nat)(out:List Pt)(hk:(r.drop lo).length<=k):H7 P (Sc7 k out)=.exit (ph out+1):=by
 obtain⟨x1,x2,x3,x4,x5,x6,x7,x8,x9,x10,x11,x12,x13,x14,x15,x16,x17,x18,x19,x20,x21⟩:=P;obtain⟨ns,gs,is,p1,q1,r1⟩:=h
 simp only at ns gs is p1 q1 r1
 have r1:=r1.symm;subst ns gs is r1;unfold H7;have this:¬ ((k:Int)<((r.drop lo).length:Int)):=by omega
 cases out with
 |nil =>
  show M8 Stp.next Stp.exit Stp.fail _ (Sc7 k [])=_;simp only[M8,Sc7];rw[bfD this];rfl
 |cons o os =>
  show M9 Stp.next Stp.exit Stp.fail _ (Sc7 k (o::os))=_;simp only[M9,Sc7];rw[bfD this];rfl
theorem Rf2{P:o8}{r:PLq}{p q:Pln}{lo:Nat}(h:C2 P r p q lo)(hb:Bds r)(hr:r.length<=200)(hp:Bd p)(hq:Bd q)(out:List Pt)(ho:out.length<=100000000) :
  ∃m,lp (H7 P) (Sc7 0 out)=(ph (Jb8 r p q (r.drop lo) out)+1,Sc7 m (Jb8 r p q (r.drop lo) out)):=by
 have hd:(r.drop lo).length<=200:=by rw[Qib];omega
 exact⟨_,(tb0 (mk:=Sc7) (f:=λs _ out=>Wa1 r p q out s) (g:=λl out=>Jb8 r p q l out) (fin:=λout=>ph out+1) (r.drop lo) (λj o=>o.length<=out.length+j) (by omega)
  (λ_=>rfl) (λ_ _ _=>rfl) (λj o hj hi=>⟨Rf1 h hb hr hp hq j o (by omega) hj,by have:=sd2 r p q o (r.drop lo)[j];show (Wa1 r p q o (r.drop lo)[j]).length<=out.length+(j+1);omega⟩)
  (λj o hj _=>jg7 h j o hj) 0 out (by omega)).1⟩
@[reducible] noncomputable def Sc8(r:PLq)(j:Nat)(out:List Pt):w7:=⟨ph out,r,(j:Int),r,r,out.length,bL tX out,xc3 out⟩
structure C1(P:o9)(r:PLq)(p:Pln)(a:Nat):Prop where
 i3:P.is3=(a:Int)
 ns:P.be7=(r.drop (a+1)).length
 gs:P.be8=λk=>tP.row (gL tP r (a+1+k))
 is:P.Dd6=((r.drop (a+1)).length:Int)
 p1:(⟨⟨P.Ba0,P.Ba1,P.Ba2⟩,P.Ba3⟩:Pln)=p
theorem Rf3{P:o9}{r:PLq}{p:Pln}{a:Nat}(h:C1 P r p a)(hb:Bds r)(hr:r.length<=200)(hp:Bd p)(j:Nat)(out:List Pt)(ho:out.length<=100000000)(hj:j<(r.drop (a+1)).length) :
  H8 P (Sc8 r j out)=.next (Sc8 r (j+1) (Jb8 r p (r.drop (a+1))[j] ((r.drop (a+1)).drop (j+1)) out)):=by
 have hs:gL tP r (a+1+j)=(r.drop (a+1))[j]:=by rw[<- jd2,gb5 tP hj]
 have hbs:Bd (r.drop (a+1))[j]:=hb _ (List.mem_of_mem_drop (Qif hj));have hd:=hj;rw[Qib] at hd;have hW:W (W ((a:Int)+(j:Int))+2)=((a+1+(j+1):Nat):Int):=by rw[Hc7,ia9 (by omega) (by omega)];omega
 have hdl:(r.drop (a+1)).length<=4611686018427387904:=by rw[Qib];omega
 have hlo:inB ((a+1+(j+1):Nat):Int) (r.length+1)=true:=l0 (by omega)
 rw[Qiaf];generalize hq:(r.drop (a+1))[j]=q at *
 obtain⟨x1,x2,x3,x4,x5,x6,x7,x8,x9,x10⟩:=P;obtain⟨i3,ns,gs,is,p1⟩:=h
 simp only at i3 ns gs is p1
 subst i3 ns gs is;unfold H8;have key:∀(P2:o8),C2 P2 r p q (a+1+(j+1))->_:=λP2 h2=>Rf2 h2 hb hr hp hbs out ho
 cases out with
 |nil =>
  show N0 Stp.next Stp.exit Stp.fail _ (Sc8 r j [])=_;simp only[N0,Sc8,l9,s7,A5 hj hdl,hW,Int.toNat_natCast,hs,se6,hlo];rw[show (⟨0,0,0,[],[]⟩:s6)=Sc7 0 [] from rfl]
  generalize hP:o8.mk _ _ _ _ _ _ _ _ _ _ _ _ _ _ _ _ _ _ _ _ _=P2;obtain⟨m,hm⟩:=key P2 (by
   subst hP;exact⟨by simp,rfl,by simp,p1,se5 q,rfl⟩)
  rw[hm,btD (n8 hj),bt (l0 hj)];cases Jb8 r p q (r.drop (a+1+(j+1))) []<;>rfl
 |cons o os =>
  show N1 Stp.next Stp.exit Stp.fail _ (Sc8 r j (o::os))=_;simp only[N1,Sc8,l9,s7,A5 hj hdl,hW,Int.toNat_natCast,hs,se6,hlo];rw[show (⟨1,0,(o::os).length,bL tX (o::os),xc3 (o::os)⟩:s6)=Sc7 0 (o::os) from rfl]
  generalize hP:o8.mk _ _ _ _ _ _ _ _ _ _ _ _ _ _ _ _ _ _ _ _ _=P2;obtain⟨m,hm⟩:=key P2 (by
   subst hP;exact⟨by simp,rfl,by simp,p1,se5 q,rfl⟩)
  rw[hm,btD (n8 hj),bt (l0 hj)];cases Jb8 r p q (r.drop (a+1+(j+1))) (o::os)<;>rfl
theorem jg8{P:o9}{r:PLq}{p:Pln}{a:Nat}(h:C1 P r p a)(j:Nat)(out:List Pt)(hj:(r.drop (a+1)).length<=j):H8 P (Sc8 r j out)=.exit (ph out+1):=by
 obtain⟨x1,x2,x3,x4,x5,x6,x7,x8,x9,x10⟩:=P;obtain⟨i3,ns,gs,is,p1⟩:=h
 simp only at i3 ns gs is p1
 subst i3 ns gs is;unfold H8;have this:¬ ((j:Int)<((r.drop (a+1)).length:Int)):=by omega
 cases out with
 |nil =>
  show N0 Stp.next Stp.exit Stp.fail _ (Sc8 r j [])=_;simp only[N0,Sc8];rw[bfD this];rfl
 |cons o os =>
  show N1 Stp.next Stp.exit Stp.fail _ (Sc8 r j (o::os))=_;simp only[N1,Sc8];rw[bfD this];rfl
theorem Rf4{P:o9}{r:PLq}{p:Pln}{a:Nat}(h:C1 P r p a)(hb:Bds r)(hr:r.length<=200)(hp:Bd p)(out:List Pt)(ho:out.length<=10000000) :
  ∃m,lp (H8 P) (Sc8 r 0 out)=(ph (tb1 r p (r.drop (a+1)) out)+1,Sc8 r m (tb1 r p (r.drop (a+1)) out)):=by
 have hd:(r.drop (a+1)).length<=200:=by rw[Qib];omega
 exact⟨_,(tb0 (mk:=Sc8 r) (f:=λq l out=>Jb8 r p q l out) (g:=λl out=>tb1 r p l out) (fin:=λout=>ph out+1) (r.drop (a+1)) (λk o=>o.length<=out.length+200*k) (by omega)
  (λ_=>rfl) (λ_ _ _=>rfl) (λk o hj hi=>⟨Rf3 h hb hr hp k o (by omega) hj,by
   have:=jd1 r p (r.drop (a+1))[k] ((r.drop (a+1)).drop (k+1)) o
   rw[Qib] at this;show (Jb8 r p (r.drop (a+1))[k] ((r.drop (a+1)).drop (k+1)) o).length<=out.length+200*(k+1)
   omega⟩)
  (λk o hj _=>jg8 h k o hj) 0 out (by omega)).1⟩
@[reducible] noncomputable def Zc8(r:PLq)(j:Nat)(out:List Pt):A8:=⟨ph out,r,(j:Int),r,r,out.length,bL tX out,xc3 out⟩
theorem Rf5{P:D5}(r:PLq)(h:P.ka0=(r.length:Int))(hb:Bds r)(hr:r.length<=200)(a:Nat)(ha:a<r.length)(out:List Pt)(ho:out.length<=40000*a) :
  H9 P (Zc8 r a out)=.next (Zc8 r (a+1) (tb1 r r[a] (r.drop (a+1)) out)):=by
 have hbs:Bd r[a]:=hb _ (Qif ha);have hlo:inB ((a+1:Nat):Int) (r.length+1)=true:=l0 (by omega)
 have key:∀(P2:o9),C1 P2 r r[a] a->_:=λP2 h2=>Rf4 h2 hb hr hbs out (by omega)
 obtain⟨x1⟩:=P
 simp only at h
 subst h;unfold H9;cases out with
 |nil =>
  show N2 Stp.next Stp.exit Stp.fail _ (Zc8 r a [])=_;simp only[N2,Zc8,l9,s7,A5 ha (by omega),Int.toNat_natCast,hlo,gb5 tP ha]
  rw[show (⟨0,r,0,r,r,0,[],[]⟩:w7)=Sc8 r 0 [] from rfl]
  generalize hP:o9.mk _ _ _ _ _ _ _ _ _ _=P2;obtain⟨m,hm⟩:=key P2 (by
   subst hP;exact⟨rfl,by simp,rfl,by simp,rfl⟩)
  rw[hm,btD (n8 ha),bt (l0 ha)];cases tb1 r r[a] (r.drop (a+1)) []<;>rfl
 |cons o os =>
  show N4 Stp.next Stp.exit Stp.fail _ (Zc8 r a (o::os))=_;simp only[N4,Zc8,l9,s7,A5 ha (by omega),Int.toNat_natCast,hlo,gb5 tP ha]
  rw[show (⟨1,r,0,r,r,(o::os).length,bL tX (o::os),xc3 (o::os)⟩:w7)=Sc8 r 0 (o::os) from rfl]
  generalize hP:o9.mk _ _ _ _ _ _ _ _ _ _=P2;obtain⟨m,hm⟩:=key P2 (by
   subst hP;exact⟨rfl,by simp,rfl,by simp,rfl⟩)
  rw[hm,btD (n8 ha),bt (l0 ha)];cases tb1 r r[a] (r.drop (a+1)) (o::os)<;>rfl
theorem jg9{P:D5}(r:PLq)(h:P.ka0=(r.length:Int))(j:Nat)(out:List Pt)(hj:r.length<=j):H9 P (Zc8 r j out)=.exit (ph out+1):=by
 obtain⟨x1⟩:=P
 simp only at h
 subst h;unfold H9;have this:¬ ((j:Int)<(r.length:Int)):=by omega
 cases out with
 |nil =>
  show N2 Stp.next Stp.exit Stp.fail _ (Zc8 r j [])=_;simp only[N2,Zc8];rw[bfD this];rfl
 |cons o os =>
  show N4 Stp.next Stp.exit Stp.fail _ (Zc8 r j (o::os))=_;simp only[N4,Zc8];rw[bfD this];rfl
theorem Rf6(r:PLq)(hb:Bds r)(hr:r.length<=200):∃m,lp (H9 ⟨(r.length:Int)⟩) (Zc8 r 0 [])=(ph (cor r)+1,Zc8 r m (cor r)) :=
 ⟨_,(tb0 (step:=H9 ⟨(r.length:Int)⟩) (mk:=Zc8 r) (f:=λq l out=>tb1 r q l out) (g:=λl out=>jd0 r l out) (fin:=λout=>ph out+1) r (λk o=>o.length<=40000*k) (by omega)
  (λ_=>rfl) (λ_ _ _=>rfl) (λk o hj hi=>⟨Rf5 r rfl hb hr k hj o hi,by
   have h1:=Od1 r r[k] (r.drop (k+1)) o (by rw[Qib];omega)
   rw[Qib] at h1;show (tb1 r r[k] (r.drop (k+1)) o).length<=40000*(k+1)
   omega⟩)
  (λk o hj _=>jg9 r rfl k o hj) 0 [] (by simp)).1⟩
theorem Od5(r:PLq)(hb:Bds r)(hr:r.length<=200):fa9 r=some (slX (cor r)):=by
 obtain⟨m,hm⟩:=Rf6 r hb hr;unfold fa9;simp only[l9,s7];rw[show (⟨0,r,0,r,r,0,[],[]⟩:A8)=Zc8 r 0 [] from rfl,hm]
 cases cor r<;>rfl
theorem ie1(r:PLq)(hb:Bds r)(hr:r.length<=200):ga0 r=cor r:=by unfold ga0;rw[Od5 r hb hr];exact ab7 _ (se4 _)
theorem ie2(r:PLq)(hb:Bds r)(hr:r.length<=200):ga1 r=true:=by unfold ga1;rw[Od5 r hb hr];exact tb2 _ (se4 _)
def slP(l:PLq):b7×List c7:=(.sl 0 0 l.length 0,[⟨66,4,bL tP l,true,false,0⟩])
theorem Zc9(l:PLq):(one (r1L tP)).rd (slP l)=some l:=by
 show Bool.rec (motive:=λ_=>Option PLq) none (some (slR tP (bL tP l) 0 l.length)) (Bool.and true (okS tP (bL tP l) 0 l.length))=_
 rw[pc4,pc5];rfl
theorem ie3{α:Type}(t:Ty α)(l:List α):(one (r1L t)).rd (eL t l,[])=some l:=by
 show Bool.rec (motive:=λ_=>Option (List α)) none (some (rt t l)) (Bool.and (Nat.beq t.es t.es) (okE t l))=_
 rw[l9,A3,Qim];rfl
def ws:PLq:=[⟨⟨1,0,0⟩,24⟩,⟨⟨-1,0,0⟩,24⟩,⟨⟨0,1,0⟩,24⟩,⟨⟨0,-1,0⟩,24⟩,⟨⟨0,0,1⟩,24⟩,⟨⟨0,0,-1⟩,24⟩]
theorem ag2:Bds ws:=by
 intro p hp
 have:okp p=true:=by
  have h:ws.all okp=true:=by decide
  exact Qcc.1 h p hp
 exact sd0 this
def Rf7(lo hi:V3):PLq:=[⟨⟨1,0,0⟩,hi.x⟩,⟨⟨-1,0,0⟩,W (0-lo.x)⟩,⟨⟨0,1,0⟩,hi.y⟩,⟨⟨0,-1,0⟩,W (0-lo.y)⟩,⟨⟨0,0,1⟩,hi.z⟩,⟨⟨0,0,-1⟩,W (0-lo.z)⟩]
theorem Bf7(lo hi:V3):Qc0 lo hi=some (slP (Rf7 lo hi)):=rfl
theorem zg0(lo hi:V3):Qc1 lo hi=Rf7 lo hi:=by unfold Qc1;rw[Bf7];exact ab7 _ (Zc9 _)
theorem zg1(lo hi:V3):Qc2 lo hi=true:=by unfold Qc2;rw[Bf7];exact tb2 _ (Zc9 _)
theorem kg0:Rf7 ⟨-24,-24,-24⟩ ⟨24,24,24⟩=ws:=by
 simp only[Rf7,ws];rw[show W (0 - -24)=24 from by rw[Af3];rfl]
theorem cf4{l:PLq}:Nat.beq (len (bL tP l)) 0=l.isEmpty:=by rw[J2];cases l<;>rfl
theorem Bf8(c:PLq)(hc:c.length<=1000000000):kc0 c=some (slP (c++ws)):=by
 unfold kc0;simp only[ra5,zg0,zg1,kg0,cf4];have h6:(0+len (bL tP c))=c.length:=by rw[J2];omega
 have hw:len (bL tP ws)=6:=rfl;rw[h6,hw];have e1:Nat.ble (c.length*32) room=true:=Ea0 (by omega)
 have e2:Nat.ble ((c.length+6)*32) room=true:=Ea0 (by omega)
 have e3:app (app [] (bL tP c)) (bL tP ws)=bL tP (c++ws):=ra4 tP c ws;have e4:Nat.beq c.length (len (app [] (bL tP c)))=true:=by
  rw[show app [] (bL tP c)=bL tP c from rfl,J2,Qim]
 rw[e1,e2,e3,e4];cases c with
 |nil=>rfl
 |cons p c =>
  show some (b7.sl 0 0 ((p::c).length+6) 0,[(⟨66,4,bL tP (p::c++ws),true,false,0⟩:c7)])=_;unfold slP;rw[Qdc];rfl
theorem ie4(c:PLq)(hc:c.length<=1000000000):Qb0 c=c++ws:=by unfold Qb0;rw[Bf8 c hc];exact ab7 _ (Zc9 _)
theorem ie5(c:PLq)(hc:c.length<=1000000000):Qb1 c=true:=by unfold Qb1;rw[Bf8 c hc];exact tb2 _ (Zc9 _)
theorem Bf9{l:LPq}{j:Nat}(h:j<l.length):gL tLq l j=l[j]:=gb5 tLq h
theorem Cf0(ls:LPq)(hn:ls.length<=1000000000)(hl:ls.flatten.length<=1000000000):∃m,lp (P5 ⟨ls,ls,(ls.length:Int)⟩) ⟨0,0⟩=(1,⟨(ls.flatten.length:Int),m⟩):=by
 have h:=tb0 (step:=P5 ⟨ls,ls,(ls.length:Int)⟩) (mk:=λj (n:Nat)=>(⟨(n:Int),(j:Int)⟩:F9)) (f:=λl _ n=>n+l.length) (g:=λl n=>n+l.flatten.length) (fin:=λ_=>1) ls
  (λj n=>n+(ls.drop j).flatten.length=ls.flatten.length) hn (λ_=>rfl) (λx r a=>by simp only[List.flatten_cons,Qdc];omega)
  (λj n hj hi=>by
   rw[Qid hj,List.flatten_cons,Qdc] at hi;have hW:W ((n:Int)+(ls[j].length:Int))=((n+ls[j].length:Nat):Int):=by rw[ia9 (by omega) (by omega)];omega
   refine⟨?_,by show n+ls[j].length+(ls.drop (j+1)).flatten.length=_;omega⟩
   simp only[P5,fa6,Int.toNat_natCast,Bf9 hj,hW,A5 hj (by omega)]
   rw[btD (n8 hj),bt (l0 hj),bfD (by omega)])
  (λj n hj _=>by
   simp only[P5,fa6];rw[bfD (by omega)]) 0 0 (by simp)
 have h:=h.1;rw[Qic,Qar] at h;exact⟨_,h⟩
theorem Cf1{ls:LPq}(h:ls.flatten=[]){j:Nat}(hj:j<ls.length):ls[j]=[]:=by
 rw[List.flatten_eq_nil_iff] at h;exact h _ (Qif hj)
theorem Rf8(ls:LPq)(hn:ls.length<=1000000000)(hl:ls.flatten=[]):∃s,lp (K0 ⟨ls,(ls.length:Int)⟩) ⟨0,0,0,[]⟩=(1,s):=by
 have h:=tb0 (step:=K0 ⟨ls,(ls.length:Int)⟩) (mk:=λj (_:Unit)=>(⟨0,(j:Int),0,[]⟩:A0)) (f:=λ_ _ n=>n) (g:=λ_ n=>n) (fin:=λ_=>1) ls
  (λ_ _=>True) hn (λ_=>rfl) (λx r a=>rfl)
  (λj n hj hi=>by
   refine⟨?_,trivial⟩;show N5 Stp.next Stp.exit Stp.fail _ _=_;simp only[N5,Int.toNat_natCast,Bf9 hj,Cf1 hl hj,A5 hj (by omega)]
   rw[btD (n8 hj),bt (l0 hj)]
   rfl)
  (λj n hj _=>by
   show N5 Stp.next Stp.exit Stp.fail _ _=_;simp only[N5];rw[bfD (by omega)]) 0 () trivial
 exact⟨_,h.1⟩
def fc9(t:Nat)(d:PLq):List (List b7):=app (bL tP d) (List.replicate (t-d.length) qe7)
theorem Cf2(t:Nat)(d:PLq)(h:d.length<=t):len (fc9 t d)=t:=by
 unfold fc9;rw[K6,z6,Qdc,<- z6,J2,Qbn];omega
theorem Cf3(t:Nat)(d l:PLq)(h:d.length+l.length<=t):app (J6 (fc9 t d) d.length) (app (bL tP l) (s9 (fc9 t d) (d.length+len (bL tP l))))=fc9 t (d++l):=by
 have hd:(bL tP d).length=d.length:=by rw[<- z6,J2]
 unfold fc9;rw[J2,<- ra4];simp only[K6,J7,I9];rw[List.take_left' hd,Qio];congr 2;rw[List.drop_append,Qik (by omega),List.nil_append,hd,List.drop_replicate,Qdc]
 congr 1;omega
theorem Cf4(ls:LPq)(hn:ls.length<=1000000000):∃m,lp (K0 ⟨ls,(ls.length:Int)⟩) ⟨1,0,0,List.replicate ls.flatten.length qe7⟩=(2,⟨1,m,ls.flatten.length,bL tP ls.flatten⟩):=by
 have h:=tb0 (step:=K0 ⟨ls,(ls.length:Int)⟩) (mk:=λj (d:PLq)=>(⟨1,(j:Int),d.length,fc9 ls.flatten.length d⟩:A0)) (f:=λl _ d=>d++l) (g:=λl d=>d++l.flatten) (fin:=λ_=>2) ls
  (λj d=>d.length+(ls.drop j).flatten.length=ls.flatten.length) hn (λ_=>by simp) (λx r a=>by simp)
  (λj d hj hi=>by
   rw[Qid hj,List.flatten_cons,Qdc] at hi;refine⟨?_,by show (d++ls[j]).length+(ls.drop (j+1)).flatten.length=_;rw[Qdc];omega⟩
   show N6 Stp.next Stp.exit Stp.fail _ _=_;simp only[N6,Int.toNat_natCast,Bf9 hj,A5 hj (by omega),ra5]
   rw[Cf3 _ _ _ (by omega),Cf2 _ _ (by omega),J2,btD (n8 hj),bt (l0 hj),bt (by rw[Qiy];omega),Qdc])
  (λj d hj _=>by
   show N6 Stp.next Stp.exit Stp.fail _ _=_;simp only[N6];rw[bfD (by omega)]) 0 [] (by simp)
 have h:=h.1;rw[Qic,List.nil_append] at h;have e:fc9 ls.flatten.length ls.flatten=bL tP ls.flatten:=by unfold fc9;rw[Nat.sub_self,K6];simp
 rw[e] at h;exact⟨_,h⟩
theorem ag3(ls:LPq)(hn:ls.length<=1000000000)(hl:ls.flatten.length<=1000000000):kc6 ls=some (slP (ls.flatten++ws)):=by
 have hc:ta6 ls=if ls.flatten=[] then ⟨1,0,[]⟩ else ⟨2,ls.flatten.length,bL tP ls.flatten⟩:=by
  unfold ta6 Qa3;simp only[l9,s7];obtain⟨m,hm⟩:=Cf0 ls hn hl;rw[hm];by_cases h0:ls.flatten=[]
  ·obtain⟨s,hs⟩:=Rf8 ls hn h0;rw[if_pos h0,hs];rw[show (⟨(ls.flatten.length:Int),m⟩:F9)=⟨0,m⟩ by rw[h0];rfl]
   rfl
  ·obtain⟨m',hm'⟩:=Cf4 ls hn;rw[if_neg h0];simp only[Int.toNat_natCast];rw[hm'];have h1:0<ls.flatten.length:=List.length_pos_iff.2 h0;have e1:((ls.flatten.length:Int)==0)=false:=by rw[beq_eq_false_iff_ne];omega
   have e2:Bool.and (decide ((0:Int)<(ls.flatten.length:Int))) (Nat.ble (ls.flatten.length*32) room)=true:=by
    rw[Ea0 (by omega),decide_eq_true (by omega)]
    rfl
   rw[e1,e2];rfl
 unfold kc6;simp only[l9,A3,hc];by_cases h0:ls.flatten=[]
 ·rw[if_pos h0,h0];rfl
 ·rw[if_neg h0];generalize ls.flatten=c at *
  have e:∀(d:PLq) (p:Pln),app (bL tP d) [[i p.n.x,i p.n.y,i p.n.z,i p.b]]=bL tP (d++[p]):=λd p=>ra4 tP d [p]
  have c1:=e c ⟨⟨1,0,0⟩,24⟩;have c2:=e (c++[⟨⟨1,0,0⟩,24⟩]) ⟨⟨-1,0,0⟩,24⟩;have c3:=e (c++[⟨⟨1,0,0⟩,24⟩]++[⟨⟨-1,0,0⟩,24⟩]) ⟨⟨0,1,0⟩,24⟩;have c4:=e (c++[⟨⟨1,0,0⟩,24⟩]++[⟨⟨-1,0,0⟩,24⟩]++[⟨⟨0,1,0⟩,24⟩]) ⟨⟨0,-1,0⟩,24⟩;have c5:=e (c++[⟨⟨1,0,0⟩,24⟩]++[⟨⟨-1,0,0⟩,24⟩]++[⟨⟨0,1,0⟩,24⟩]++[⟨⟨0,-1,0⟩,24⟩]) ⟨⟨0,0,1⟩,24⟩;have c6:=e (c++[⟨⟨1,0,0⟩,24⟩]++[⟨⟨-1,0,0⟩,24⟩]++[⟨⟨0,1,0⟩,24⟩]++[⟨⟨0,-1,0⟩,24⟩]++[⟨⟨0,0,1⟩,24⟩]) ⟨⟨0,0,-1⟩,24⟩
  simp only at c1 c2 c3 c4 c5 c6
  simp only[c1,c2,c3,c4,c5,c6,J2,Qdc,List.length_singleton];have g:∀n:Nat,n<=1000000010->(Nat.beq n n&&Nat.ble ((n+1)*32) room)=true:=λn h=>by rw[Qim,Ea0 (by omega)];rfl
  rw[g _ (by omega),g _ (by omega),g _ (by omega),g _ (by omega),g _ (by omega),g _ (by omega)]
  show some (b7.sl 0 0 (c.length+1+1+1+1+1+1) 0,[(⟨66,4,bL tP _,true,false,0⟩:c7)])=_;unfold slP;rw[Qdc];simp only[Qio];rfl
theorem zg2(ls:LPq)(hn:ls.length<=1000000000)(hl:ls.flatten.length<=1000000000):zb1 ls=ls.flatten++ws:=by unfold zb1;rw[ag3 ls hn hl];exact ab7 _ (Zc9 _)
theorem zg3(ls:LPq)(hn:ls.length<=1000000000)(hl:ls.flatten.length<=1000000000):zb2 ls=true:=by unfold zb2;rw[ag3 ls hn hl];exact tb2 _ (Zc9 _)
theorem ag4(c:PLq)(hc:c.length<=1000000000):zb1 [c]=c++ws:=by
 have:[c].flatten=c:=by simp
 rw[zg2 [c] (by simp) (by rw[this];exact hc),this]
theorem ag5(c:PLq)(hc:c.length<=1000000000):zb2 [c]=true:=by
 have:[c].flatten=c:=by simp
 exact zg3 [c] (by simp) (by rw[this];exact hc)
theorem ie6(ls:LPq)(hn:ls.length<=1000000000)(hl:∀c∈ls,c.length<=1000000000):sb1 ls=some (b (ls.all λc=>chk c==0),[]):=by
 have hv:∀c∈ls,rb8 c=!(chk c==0)/\rb9 c=true:=λc hc=>by
  have:Ua4 c=some (b (!(chk c==0)),[]):=by
   unfold Ua4;simp only[l9,A3,Fd6 c (hl c hc),se2 c (hl c hc)];rfl
  unfold rb8 rb9;rw[this];exact⟨rfl,rfl⟩
 have h:=jb8 (step:=O6 ⟨ls,(ls.length:Int)⟩) (mk:=λj=>(⟨(j:Int)⟩:B8)) (c:=λc=>!(chk c==0)) (u:=1) (fin:=2) tLq ls hn
  (λj hj=>by
   have hm:=hv _ (M1 tLq hj);simp only[O6,W9,Int.toNat_natCast,l9,A3,hm.1,hm.2,A5 hj (by omega)]
   rw[btD (n8 hj),bt (l0 hj),g7,g7])
  (by simp only[O6,W9];rw[bfD (w8 (Qie _))]) 0 (Qbv _)
 rw[Qic] at h;have e:(ls.any λc=>!(chk c==0))=!ls.all λc=>chk c==0:=by rw[Qih]
 unfold sb1 ma8 ma7 ua7 ua6;simp only[l9,s7];rw[show (⟨0⟩:B8)=⟨((0:Nat):Int)⟩ from rfl,h,e]
 cases ls.all λc=>chk c==0 with
 |true=>rfl
 |false =>
  simp only[Qit,if_true,Qar];show sl true (sl (Nat.beq 1 1) (some (b (!(decide (((ls.findIdx λc=>!(chk c==0):Nat):Int)>=0))),[])) _) _=_
  rw[show decide (((ls.findIdx λc=>!(chk c==0):Nat):Int)>=0)=true from decide_eq_true (by omega)]
  rfl
theorem He2(ls:LPq)(hn:ls.length<=1000000000)(hl:∀c∈ls,c.length<=1000000000):Ka4 ls=ls.all λc=>chk c==0:=by unfold Ka4;rw[ie6 ls hn hl];rfl
theorem He3(ls:LPq)(hn:ls.length<=1000000000)(hl:∀c∈ls,c.length<=1000000000):Ka5 ls=true:=by unfold Ka5;rw[ie6 ls hn hl];rfl
theorem He4(c:PLq)(hc:c.length<=1000000000):Ka4 [c]=(chk c==0):=by
 rw[He2 [c] (by simp) (by simpa using hc)]
 simp
theorem He5(c:PLq)(hc:c.length<=1000000000):Ka5 [c]=true:=He3 [c] (by simp) (by simpa using hc)
def pos(X:List Pt)(p:Pln):Bool:=X.any λx=>decide (rm p x>0)
def Cd0(r:PLq):Bool:=r.all (pos (cor r))
theorem Cf5(p:Pln)(X:List Pt)(hX:X.length<=1000000000):ya9 ⟨p.n.x,p.n.y,p.n.z,p.b,X⟩=⟨1,!pos X p⟩:=by
 have hw:∀x:Pt,Ka7 ⟨x.px,x.py,x.pz,x.pw,p.n.x,p.n.y,p.n.z,p.b⟩=⟨decide (rm p x>0)⟩:=λx=>by
  show jb3.mk (decide (Ia6 p x>0))=_;rw[se0]
 have h:=jb8 (step:=Q8 ⟨X,(X.length:Int),p.n.x,p.n.y,p.n.z,p.b⟩) (mk:=λj=>(⟨(j:Int)⟩:B8)) (c:=λx=>decide (rm p x>0)) (u:=1) (fin:=2) tX X hX
  (λj hj=>by
   simp only[Q8,Y6,Int.toNat_natCast,hw,A5 hj (by omega)]
   rw[btD (n8 hj),bt (l0 hj)])
  (by simp only[Q8,Y6];rw[bfD (w8 (Qie _))]) 0 (Qbv _)
 rw[Qic] at h;unfold ya9 Ua8 pa1 pa0 Ca4 Ca3 pos;simp only[l9,s7];rw[show (⟨0⟩:B8)=⟨((0:Nat):Int)⟩ from rfl,h]
 cases X.any λx=>decide (rm p x>0) with
 |false=>rfl
 |true =>
  simp only[if_true,Qar];show la8.mk 1 (!(decide (((X.findIdx λx=>decide (rm p x>0):Nat):Int)>=0)))=_
  rw[show decide (((X.findIdx λx=>decide (rm p x>0):Nat):Int)>=0)=true from decide_eq_true (by omega)]
theorem cf5(r:PLq)(hb:Bds r)(hr:r.length<=200):ra8 r=some (b (Cd0 r),[]):=by
 have hX:(cor r).length<=1000000000:=Qai (se3 r hb hr) (by omega)
 have h:=jb8 (step:=O7 ⟨r,(r.length:Int)⟩) (mk:=λj=>(⟨(j:Int),cor r⟩:C4)) (c:=λp=>!pos (cor r) p) (u:=1) (fin:=2) tP r (by omega)
  (λj hj=>by
   simp only[O7,X0,Int.toNat_natCast,l9,s7,Cf5 _ _ hX,A5 hj (by omega)]
   rw[btD (n8 hj),bt (l0 hj)]
   rfl)
  (by simp only[O7,X0];rw[bfD (w8 (Qie _))]) 0 (Qbv _)
 rw[Qic] at h;have e:(r.any λp=>!pos (cor r) p)=!r.all (pos (cor r)):=by rw[Qih]
 unfold ra8 na2 na1 va1 va0 Cd0;simp only[l9,s7,A3,ie1 r hb hr,ie2 r hb hr];rw[show (⟨0,cor r⟩:C4)=⟨((0:Nat):Int),cor r⟩ from rfl,h,e]
 cases r.all (pos (cor r)) with
 |true=>rfl
 |false =>
  simp only[Qit,if_true,Qar];show some (b (!(decide (((r.findIdx λp=>!pos (cor r) p:Nat):Int)>=0))),[])=_
  rw[show decide (((r.findIdx λp=>!pos (cor r) p:Nat):Int)>=0)=true from decide_eq_true (by omega)]
  rfl
theorem Cf6(r:PLq)(hb:Bds r)(hr:r.length<=200):ra9 r=Cd0 r:=by unfold ra9;rw[cf5 r hb hr];rfl
theorem Cf7(r:PLq)(hb:Bds r)(hr:r.length<=200):sa0 r=true:=by unfold sa0;rw[cf5 r hb hr];rfl
theorem Ue9(r:PLq)(X:List Pt)(hr:r.length<=200)(hX:X.length<=1000000000)(a:Nat)(ha:a<r.length):∃m,lp (Oa8 ⟨r,X,(a:Int)⟩) ⟨false,0⟩=(1,⟨pos X r[a],m⟩):=by
 have h:=id6 (step:=Oa8 ⟨r,X,(a:Int)⟩) (mk:=λj (c:Bool)=>(⟨c,(j:Int)⟩:ya2)) (f:=λc x=>c||decide (rm r[a] x>0)) (fin:=1) tX X (λ_ _=>True) hX
  (λj c hj _=>⟨by
   simp only[Oa8,qb4,Int.toNat_natCast,Fd3,A5 hj (by omega),gb5 tP ha,l0 ha,l0 hj]
   rw[btD (n8 hj)];cases c<;>rfl,trivial⟩)
  (λc _=>by simp only[Oa8,qb4];rw[bfD (w8 (Qie _))]) 0 (Qbv _) false trivial
 have h:=h.1;rw[Qic] at h;have e:∀(l:List Pt) (c:Bool),l.foldl (λc x=>c||decide (rm r[a] x>0)) c=(c||l.any λx=>decide (rm r[a] x>0)):=by
  intro l
  induction l with
  |nil=>intro c;simp
  |cons x l ih=>intro c;rw[List.foldl_cons,ih,List.any_cons,Bool.or_assoc]
 rw[e,Bool.false_or] at h;exact⟨_,h⟩
theorem cf6(r:PLq)(hb:Bds r)(hr:r.length<=200):Sb9 r=some (b (Cd0 r),[]):=by
 have hX:(cor r).length<=1000000000:=Qai (se3 r hb hr) (by omega)
 have h:=sc4 (step:=fb3 ⟨⟩) (mk:=λj=>(⟨r,cor r,(j:Int)⟩:qb3)) (c:=λp=>!pos (cor r) p) (u:=1) (fin:=2) tP r (by omega)
  (λj hj=>by
   obtain⟨m,hm⟩:=Ue9 r (cor r) hr hX j hj;simp only[fb3,qb6,l9,s7,hm,A5 hj (by omega),gb5 tP hj]
   rw[btD (n8 hj)]
   rfl)
  (by simp only[fb3,qb6];rw[bfD (w8 (Qie _))]) 0 (Qbv _)
 rw[Qic] at h;have e:(r.any λp=>!pos (cor r) p)=!r.all (pos (cor r)):=by rw[Qih]
 unfold Sb9 Cd0;simp only[l9,s7,A3,Od2 r hb hr,Od3 r hb hr];rw[show (⟨r,cor r,0⟩:qb3)=⟨r,cor r,((0:Nat):Int)⟩ from rfl,h,e]
 cases r.all (pos (cor r))<;>rfl
theorem Cf8(r:PLq)(hb:Bds r)(hr:r.length<=200):Tb0 r=Cd0 r:=by unfold Tb0;rw[cf6 r hb hr];rfl
theorem Cf9(r:PLq)(hb:Bds r)(hr:r.length<=200):Tb1 r=true:=by unfold Tb1;rw[cf6 r hb hr];rfl
theorem Ob5{c:PLq}(h:(chk c==0)=true):Bds (c++ws)/\(c++ws).length<=200:=by
 rw[beq_iff_eq,Fb3] at h;refine⟨λp hp=>?_,by rw[Qdc,show ws.length=6 from rfl];omega⟩
 rcases Qis.1 hp with hp|hp
 ·exact sd0 (h.2 p hp)
 ·exact ag2 p hp
def pts(c:PLq):List Pt:=if chk c==0 then cor (c++ws) else []
def ful(c:PLq):Bool:=(chk c==0)&&Cd0 (c++ws)
theorem He6{c:PLq}(hc:c.length<=1000000000):∃x,fb9 c=some x/\(one (r1L tX)).rd x=some (pts c):=by
 unfold fb9 pts;simp only[l9,A3,He4 c hc,He5 c hc,ag4 c hc,ag5 c hc];cases h:chk c==0 with
 |false=>exact⟨_,rfl,rfl⟩
 |true =>
  obtain⟨h1,h2⟩:=Ob5 h;rw[ie1 _ h1 h2,ie2 _ h1 h2];exact⟨_,rfl,ie3 tX _⟩
theorem Od6{c:PLq}(hc:c.length<=1000000000):Pa2 c=pts c:=by
 obtain⟨x,h1,h2⟩:=He6 hc;unfold Pa2;rw[h1];exact ab7 _ h2
theorem Od7{c:PLq}(hc:c.length<=1000000000):Pa3 c=true:=by
 obtain⟨x,h1,h2⟩:=He6 hc;unfold Pa3;rw[h1];exact tb2 _ h2
theorem ie7{c:PLq}(hc:c.length<=1000000000):∃x,qb2 c=some x/\(one (r1L tX)).rd x=some (pts c):=by
 unfold qb2 pts;simp only[l9,A3,sb9 c hc,Ub8 c hc,ie4 c hc,ie5 c hc];have e:(chk c != 0)=!(chk c==0):=rfl;rw[e];cases h:chk c==0 with
 |false=>exact⟨_,rfl,rfl⟩
 |true =>
  obtain⟨h1,h2⟩:=Ob5 h;rw[Od2 _ h1 h2,Od3 _ h1 h2];exact⟨_,rfl,ie3 tX _⟩
theorem of4{c:PLq}(hc:c.length<=1000000000):Nb2 c=pts c:=by
 obtain⟨x,h1,h2⟩:=ie7 hc;unfold Nb2;rw[h1];exact ab7 _ h2
theorem of5{c:PLq}(hc:c.length<=1000000000):Nb3 c=true:=by
 obtain⟨x,h1,h2⟩:=ie7 hc;unfold Nb3;rw[h1];exact tb2 _ h2
theorem cf7{c:PLq}(hc:c.length<=1000000000):Eb4 c=some (b (ful c),[]):=by
 unfold Eb4 ful;simp only[l9,A3,He4 c hc,He5 c hc,ag4 c hc,ag5 c hc];cases h:chk c==0 with
 |false=>rfl
 |true =>
  obtain⟨h1,h2⟩:=Ob5 h;rw[Cf6 _ h1 h2,Cf7 _ h1 h2];rfl
theorem Od8{c:PLq}(hc:c.length<=1000000000):Va1 c=ful c:=by unfold Va1;rw[cf7 hc];rfl
theorem Od9{c:PLq}(hc:c.length<=1000000000):Va2 c=true:=by unfold Va2;rw[cf7 hc];rfl
theorem He7{c:PLq}(hc:c.length<=1000000000):Tb2 c=some (b (ful c),[]):=by
 unfold Tb2 ful;simp only[l9,A3,sb9 c hc,Ub8 c hc,ie4 c hc,ie5 c hc];cases h:chk c==0 with
 |false=>rfl
 |true =>
  obtain⟨h1,h2⟩:=Ob5 h;rw[Cf8 _ h1 h2,Cf9 _ h1 h2];rfl
theorem Qc9{c:PLq}(hc:c.length<=1000000000):Ka0 c=ful c:=by unfold Ka0;rw[He7 hc];rfl
theorem Rc0{c:PLq}(hc:c.length<=1000000000):Ka1 c=true:=by unfold Ka1;rw[He7 hc];rfl
theorem He8{Q:Pt->Prop}(r:PLq)(p q:Pln):∀(l:PLq) (out:List Pt),(∀s∈l,(mpt p q s).2=true->inn r (mpt p q s).1=true->Q (mpt p q s).1)->(∀x∈out,Q x)->∀x∈Jb8 r p q l out,Q x
 |[],out,_,h=>h
 |s::l,out,hs,h=>He8 r p q l (Wa1 r p q out s) (λt ht=>hs t (Qcm _ ht)) λx hx=>by
  unfold Wa1 at hx
  split at hx
  ·rename_i hc;rw[Qas,Qas] at hc
   rcases Qis.1 hx with hx|hx
   ·exact h x hx
   ·rw[List.mem_singleton] at hx;subst hx;exact hs s Qcj hc.1 hc.2.2
  ·exact h x hx
theorem He9{Q:Pt->Prop}(r:PLq)(p:Pln):∀(l:PLq) (out:List Pt),(∀q∈l,∀s∈l,(mpt p q s).2=true->inn r (mpt p q s).1=true->Q (mpt p q s).1)->(∀x∈out,Q x)->∀x∈tb1 r p l out,Q x
 |[],out,_,h=>h
 |q::l,out,hs,h=>He9 r p l _ (λa ha t ht=>hs a (Qcm _ ha) t (Qcm _ ht)) (He8 r p q l out (λt ht=>hs q Qcj t (Qcm _ ht)) h)
theorem Ie0{Q:Pt->Prop}(r:PLq):∀(l:PLq) (out:List Pt),(∀p∈l,∀q∈l,∀s∈l,(mpt p q s).2=true->inn r (mpt p q s).1=true->Q (mpt p q s).1)->(∀x∈out,Q x)->∀x∈jd0 r l out,Q x
 |[],out,_,h=>h
 |p::l,out,hs,h=>Ie0 r l _ (λa ha c hc t ht=>hs a (Qcm _ ha) c (Qcm _ hc) t (Qcm _ ht)) (He9 r p l out (λc hc t ht=>hs p Qcj c (Qcm _ hc) t (Qcm _ ht)) h)
theorem cf8{Q:Pt->Prop}{r:PLq}(hs:∀p∈r,∀q∈r,∀s∈r,(mpt p q s).2=true->inn r (mpt p q s).1=true->Q (mpt p q s).1):∀x∈cor r,Q x :=
 Ie0 r r [] hs λx hx=>by cases hx
structure Okx(x:Pt):Prop where
 w1:0<x.pw
 w2:x.pw<=600000000000
 c1:Sm 300000000000000 x.px
 c2:Sm 300000000000000 x.py
 c3:Sm 300000000000000 x.pz
theorem se7{r:PLq}(hb:Bds r):∀x∈cor r,Okx x:=cf8 λp hp q hq s hs h _=>by
 obtain⟨h1,h2,h3,h4,h5⟩:=Ue6 (hb p hp) (hb q hq) (hb s hs) h;exact⟨h1,h5,h2,h3,h4⟩
theorem se8(c:PLq):(pts c).length<=8000000:=by
 unfold pts;cases h:chk c==0 with
 |false=>exact Qbv _
 |true=>exact se3 _ (Ob5 h).1 (Ob5 h).2
theorem Df0{x y:Int}(hy:0<y):Int.tmod x y+y*Int.tdiv x y=x/\-y<Int.tmod x y/\Int.tmod x y<y:=by
 refine⟨Int.tmod_add_mul_tdiv x y,?_,Int.tmod_lt_of_pos x hy⟩
 have:=Int.lt_tmod_of_pos x hy
 omega
theorem Df1(x:Int){y:Int}(hy:0<y)(hy2:y<=4000000000000000000):kc1 x y=some (i (x % y),[]):=by
 have hz:(y==0)=false:=by rw[beq_eq_false_iff_ne];omega
 obtain⟨h1,h2,h3⟩:=Df0 (x:=x) hy;unfold kc1;rw[bfD (by omega),bf hz,bf hz,ia9 (by omega) (by omega),Int.tmod_eq_emod_of_nonneg (by omega)]
 congr 3;rw[Int.add_emod_right]
 conv=>rhs;rw[<- h1]
 rw[Int.add_mul_emod_self_left]
theorem Ic2(x:Int){y:Int}(hy:0<y)(hy2:y<=4000000000000000000):B4 x y=x % y:=by unfold B4;rw[Df1 x hy hy2];rfl
theorem lc6(x:Int){y:Int}(hy:0<y)(hy2:y<=4000000000000000000):F4 x y=true:=by unfold F4;rw[Df1 x hy hy2];rfl
theorem Sm.neg{n x:Int}(h:Sm n x):Sm n (-x):=⟨by have:=h.2;omega,by have:=h.1;omega⟩
theorem Df2(x:Pln):(x.n.x==x.n.x&&(x.n.y==x.n.y&&(x.n.z==x.n.z&&(x.b==x.b&&true))))=true:=by simp
theorem cf9(l:PLq)(hl:l.length<=1000000000):Ub7 l l=some (b true,[]):=by
 have h:=sc4 (step:=gb4 ⟨l,l⟩) (mk:=λj=>(⟨(j:Int)⟩:Ja9)) (c:=λ_=>false) (u:=1) (fin:=2) tP l hl
  (λj hj=>by
   simp only[gb4,sb7,Int.toNat_natCast,A5 hj (by omega),Df2]
   rw[btD (n8 hj),bt (l0 hj),bt (l0 hj)]
   rfl)
  (by simp only[gb4,sb7];rw[bfD (w8 (Qie _))]) 0 (Qbv _)
 rw[Qic,show (l.any λ_=>false)=false by simp] at h
 unfold Ub7;simp only[l9,s7];rw[show (⟨0⟩:Ja9)=⟨((0:Nat):Int)⟩ from rfl,h,bf (by simp)]
 rfl
theorem kg1(l:PLq)(hl:l.length<=1000000000):sc0 l l=true:=by unfold sc0;rw[cf9 l hl];rfl
theorem kg2(l:PLq)(hl:l.length<=1000000000):sc1 l l=true:=by unfold sc1;rw[cf9 l hl];rfl
def Nx{σ:Type}(x:Stp σ)(E:Nat->Prop)(N:σ->Prop):Prop:=(∃t,x=.exit t/\E t)\/∃s,x=.next s/\N s
theorem Nx.sl{σ:Type}{c:Bool}{t e:Stp σ}{E:Nat->Prop}{N:σ->Prop}(h1:c=true->Nx t E N)(h2:c=false->Nx e E N):Nx (sl c t e) E N:=by cases c;exact h2 rfl;exact h1 rfl
theorem Nx.ex{σ:Type}{t:Nat}{E:Nat->Prop}{N:σ->Prop}(h:E t):Nx (.exit t) E N:=.inl ⟨t,rfl,h⟩
theorem Nx.nx{σ:Type}{s:σ}{E:Nat->Prop}{N:σ->Prop}(h:N s):Nx (.next s) E N:=.inr ⟨s,rfl,h⟩
theorem da0{σ τ:Type}{step:σ->Stp σ}{mk:Nat->τ->σ}(n:Nat)(I:Nat->τ->Prop)(E:Nat->σ->Prop)(hn:n<=1000000000)
  (h:∀j a,j<n->I j a->Nx (step (mk j a)) (λt=>E t (mk j a)) (λs=>∃a',s=mk (j+1) a'/\I (j+1) a'))
  (hf:∀j a,n<=j->I j a->∃t,step (mk j a)=.exit t/\E t (mk j a)) (j0:Nat) (a:τ) (hi:I j0 a):∃t s,lp step (mk j0 a)=(t,s)/\E t s:=by
 have key:=sc3 (step:=step) (I:=λm s=>∃j a,m=n-j/\s=mk j a/\I j a) (Q:=E) (λm s ⟨j,a,hm,hs,ha⟩=>by
  subst hs;by_cases hlt:j<n
  ·rcases h j a hlt ha with h1|⟨s',h1,a',h2,h3⟩
   ·exact .inl h1
   ·subst h2;exact .inr ⟨_,n-(j+1),by omega,h1,j+1,a',rfl,rfl,h3⟩
  ·exact .inl (hf j a (by omega) ha)) (n-j0) (mk j0 a) (by omega) ⟨j0,a,rfl,rfl,hi⟩
 exact⟨_,_,rfl,key⟩
def Rd{ρ:Type}(R:RR ρ)(o:ROq)(P:ρ->Prop):Prop:=∃x r,o=some x/\R.rd x=some r/\P r
theorem Rd.p{ρ:Type}{R:RR ρ}{o:ROq}{P:ρ->Prop}(h:Rd R o P):P (L9 R o):=by
 obtain⟨x,r,h1,h2,h3⟩:=h;rw[h1,ab7 R h2];exact h3
theorem Rd.g{ρ:Type}{R:RR ρ}{o:ROq}{P:ρ->Prop}(h:Rd R o P):okO R o=true:=by
 obtain⟨x,r,h1,h2,h3⟩:=h;rw[h1];exact tb2 R h2
theorem Rd.sl{ρ:Type}{R:RR ρ}{c:Bool}{t e:ROq}{P:ρ->Prop}(h1:c=true->Rd R t P)(h2:c=false->Rd R e P):Rd R (sl c t e) P:=by cases c;exact h2 rfl;exact h1 rfl
theorem pa6(n:Int)(l:List Int)(j:Int)(h1:0<=j)(h2:j<=1000000)(hn:0<n)(hn2:n<=1000000) :
  ∃v j',g8 ⟨n,l,j⟩=⟨1,v,j'⟩/\0<=v/\v<n/\j<=j'/\j'<=j+1:=by
 unfold g8 Jb5
 simp only
 by_cases h:j>=(l.length:Int)
 ·rw[btD h];exact⟨0,j,rfl,by omega,hn,by omega,by omega⟩
 ·rw[bfD h];have hW:W (W (j+1)-1)=j:=by rw[Nd6,ia9 (by omega) (by omega)];omega
  have hW2:W (j+1)=j+1:=ia9 (by omega) (by omega)
  have hin:inB j l.length=true:=by rw[bf6];exact decide_eq_true (by omega)
  rw[hW,hW2,hin,lc6 _ hn (by omega),Ic2 _ hn (by omega)]
  exact⟨_,_,rfl,Qiae _ (by omega),Qiv _ hn,by omega,by omega⟩
def inV(v:V3):Bool:=smb 24 v.x&&(smb 24 v.y&&smb 24 v.z)
def sub(a b:V3):V3:=⟨a.x-b.x,a.y-b.y,a.z-b.z⟩
def Ve0(a b c:V3):Pln×Bool :=
 if inV a&&(inV b&&inV c) then
  if g3 (C8 (sub b a) (sub c a))=0 then (⟨⟨0,0,0⟩,0⟩,false)
  else (⟨⟨Int.tdiv (C8 (sub b a) (sub c a)).x (g3 (C8 (sub b a) (sub c a))),Int.tdiv (C8 (sub b a) (sub c a)).y (g3 (C8 (sub b a) (sub c a))),Int.tdiv (C8 (sub b a) (sub c a)).z (g3 (C8 (sub b a) (sub c a)))⟩,
   dot ⟨Int.tdiv (C8 (sub b a) (sub c a)).x (g3 (C8 (sub b a) (sub c a))),Int.tdiv (C8 (sub b a) (sub c a)).y (g3 (C8 (sub b a) (sub c a))),Int.tdiv (C8 (sub b a) (sub c a)).z (g3 (C8 (sub b a) (sub c a)))⟩ a⟩,true)
 else (⟨⟨0,0,0⟩,0⟩,false)
theorem kg3(p q:Pln):Rd (one r1I) (Da0 p q) (λ_=>True):=by
 have key:∃t s,lp (P6 ⟨p.n.x,p.n.y,p.n.z,p.b,q.n.x,q.n.y,q.n.z,q.b⟩) ⟨0⟩=(t,s)/\(t=1\/t=2\/t=3):=by
  refine da0 (step:=P6 ⟨p.n.x,p.n.y,p.n.z,p.b,q.n.x,q.n.y,q.n.z,q.b⟩) (mk:=λj (_:Unit)=>(⟨(j:Int)⟩:Y8)) 4 (λ_ _=>True) (λt s=>t=1\/t=2\/t=3) (by omega) (λj x hj _=>?_) (λj x hj _=>?_) 0 () trivial
  ·have hn:=A5 hj (show 4<=4611686018427387904 by omega)
   simp only[P6,la0,Int.toNat_natCast,hn];have hlt:(j:Int)<4:=by omega
   have hin:=l0 hj;have g:∀x1 x2 x3 x4:Int,((Nat.ble ((0+(j*1))+1) 4)&&(ka1 [CK.int .i64] (s9 [i x1,i x2,i x3,i x4] (0+(j*1)))))=true:=by
    intro x1 x2 x3 x4
    match j,hj with
    |0,_=>rfl
    |1,_=>rfl
    |2,_=>rfl
    |3,_=>rfl
   rw[btD hlt];simp only[hin,g,g7];exact Nx.sl (λ_=>.ex (by simp)) λ_=>Nx.sl (λ_=>.ex (by simp)) λ_=>.nx ⟨(),rfl,trivial⟩
  ·simp only[P6,la0];rw[bfD (by omega)]
   exact⟨_,rfl,by simp⟩
 obtain⟨t,s,h1,h2⟩:=key;unfold Da0
 simp only
 rw[h1]
 rcases h2 with rfl|rfl|rfl<;>exact⟨_,_,rfl,rfl,trivial⟩
theorem kg4(p q:Pln):fc7 p q=true:=(kg3 p q).g
theorem Ve1(l:PLq)(n:Nat)(h:n<=l.length):s5 (λk=>(λk=>tP.row (gL tP l k)) (0+k)) (List.range (n-0))=bL tP (l.take n):=by
 rw[<- ra5,s8,s8,Qia,Nat.min_eq_left h,Nat.sub_zero];apply Qcn;intro k hk;rw[Qca] at hk;show tP.row (gL tP l (0+k))=tP.row (gL tP (l.take n) k);congr 1;simp[gL,Qda,Qap,hk]
theorem Ve2(l:PLq)(n:Nat):s5 (λk=>(λk=>tP.row (gL tP l k)) (n+k)) (List.range (l.length-n))=bL tP (l.drop n):=by
 rw[<- ra5,s8,s8,Qib];apply Qcn;intro k hk;show tP.row (gL tP l (n+k))=tP.row (gL tP (l.drop n) k);rw[jd2]
theorem jd3(l:PLq)(x1 x2 x3 x4:Int):app (bL tP l) [[i x1,i x2,i x3,i x4]]=bL tP (l++[⟨⟨x1,x2,x3⟩,x4⟩]):=ra4 tP l [⟨⟨x1,x2,x3⟩,x4⟩]
def Ie1(x:PLq)(y:Pln)(n:Nat):PLq:=x.take n++(y::x.drop n)
theorem Ic3{l:PLq}{n:Nat}{r:List (List b7)}{P:PLq->Prop}(hn:n=l.length)(hr:r=bL tP l)(h:P l):Rd (one (r1L tP)) (some (.sl 0 0 n 0,[⟨66,4,r,true,false,0⟩])) P:=by
 subst hn hr;exact⟨_,l,rfl,Zc9 l,h⟩
structure Fc(ph:Nat)(out:PLq)(m:Nat):Prop where
 h:(ph=0/\out=[])\/ph=1
 l:out.length<=m
theorem Fc.more{ph m m':Nat}{out:PLq}(h:Fc ph out m)(hm:m<=m'):Fc ph out m':=⟨h.h,Qai h.l hm⟩
theorem jd4{l:PLq}{k:Nat}(h:k<l.length):ldR tP (bL tP l) (0+k)=true:=by rw[Qar];exact oe1 tP h
theorem Rc1{l:PLq}{k:Nat}(h:k<l.length):rdR tP (bL tP l) (0+k)=gL tP l k:=by rw[Qar];exact oe0 tP h
theorem Df3{α:Type}(t:Ty α)(k:Nat)(l:List α):(one (r1L t)).rd (.sl 0 0 l.length 0,[⟨k,t.es,bL t l,true,false,0⟩])=some l:=by
 show Bool.rec (motive:=λ_=>Option (List α)) none (some (slR t (bL t l) 0 l.length)) (Bool.and (Nat.beq t.es t.es) (okS t (bL t l) 0 l.length))=_
 rw[pc4,pc5,Qim];rfl
theorem Ve3{l:PLq}{n:Nat}{r:List (List b7)}{P:PLq->Prop}(hn:n<=l.length)(hr:r=bL tP l)(h:P (l.take n)):Rd (one (r1L tP)) (some (.sl 0 0 n 0,[⟨66,4,r,true,false,0⟩])) P:=by
 subst hr;have e1:slR tP (bL tP l) 0 n=l.take n:=Ec3 tP (by rw[Qia];omega) λk hk=>by
  rw[Qar,X5 tP (by omega)]
  congr 1;simp[gL,Qda,Qap,hk]
 have e2:okS tP (bL tP l) 0 n=true:=pc3 tP (f:=λk=>gL tP l k) λk hk=>by rw[Qar,X5 tP (by omega)]
 refine⟨_,l.take n,rfl,?_,h⟩;show Bool.rec (motive:=λ_=>Option PLq) none (some (slR tP (bL tP l) 0 n)) (Bool.and true (okS tP (bL tP l) 0 n))=_
 rw[e1,e2];rfl
theorem Df4(k:Nat)(l:PLq)(hk:k<l.length):∃s:Ja1,lp (sb8 ⟨(k:Int)⟩) ⟨l.length,bL tP l⟩=(1,s)/\∃out:PLq,s=⟨out.length,bL tP out⟩/\out.length<=l.length+49:=by
 have key:=sc3 (step:=sb8 ⟨(k:Int)⟩) (I:=λm s=>∃out:PLq,s=⟨out.length,bL tP out⟩/\k<out.length/\(out.length<=49\/out=l)/\m=49-out.length) (Q:=λt s=>t=1/\∃out:PLq,s=⟨out.length,bL tP out⟩/\out.length<=l.length+49) (λm s ⟨out,hs,hk,ho,hm⟩=>by
  subst hs;simp only[sb8,fc8,Int.toNat_natCast,jd4 hk,Rc1 hk,l0 hk,g7,jd3];by_cases h:(out.length:Int)<=48
  ·rw[btD h,J2,Qim,Ea0 (by omega)]
   refine .inr ⟨_,49-(out.length+1),by omega,rfl,out++[gL tP out k],by rw[Qdc];rfl,by rw[Qdc];omega,.inl (by rw[Qdc];simp only[List.length_singleton];omega),by rw[Qdc];rfl⟩
  ·rw[bfD h];exact .inl ⟨1,rfl,rfl,out,rfl,by rcases ho with ho | rfl<;>omega⟩) (49-l.length) ⟨l.length,bL tP l⟩ (by omega) ⟨l,rfl,hk,.inr rfl,rfl⟩
 exact⟨_,Prod.ext key.1 rfl,key.2⟩
theorem kg5(p:Pln)(v:V3):Rd (one r1P) (lc3 p v) (λ_=>True):=by
 have h1:=Qiae v.z (show (9:Int)≠0 by omega)
 have h2:=Qiv v.z (show (0:Int)<9 by omega)
 unfold lc3;simp only[lc6 _ (show (0:Int)<9 by omega) (by omega),lc6 _ (show (0:Int)<5 by omega) (by omega),Ic2 _ (show (0:Int)<9 by omega) (by omega),Ic2 _ (show (0:Int)<5 by omega) (by omega)]
 have hin:inB (v.z % 9) 9=true:=by rw[bf6];exact decide_eq_true (by omega)
 have hck:∀(x1 x2 x3 x4 x5 x6 x7 x8 x9:Int) (k:Nat),k<9->((Nat.ble 1 (len (c8 [[i x1],[i x2],[i x3],[i x4],[i x5],[i x6],[i x7],[i x8],[i x9]] (0+k))))&&(ka1 [CK.int .i64] (c8 [[i x1],[i x2],[i x3],[i x4],[i x5],[i x6],[i x7],[i x8],[i x9]] (0+k))))=true:=by
  intro x1 x2 x3 x4 x5 x6 x7 x8 x9 k hk
  match k,hk with
  |0,_=>rfl
  |1,_=>rfl
  |2,_=>rfl
  |3,_=>rfl
  |4,_=>rfl
  |5,_=>rfl
  |6,_=>rfl
  |7,_=>rfl
  |8,_=>rfl
 rw[hin,hck _ _ _ _ _ _ _ _ _ _ (by omega)]
 simp only[g7];exact Rd.sl (λ_=>⟨_,_,rfl,rfl,trivial⟩) λ_=>Rd.sl (λ_=>⟨_,_,rfl,rfl,trivial⟩) λ_=>Rd.sl (λ_=>⟨_,_,rfl,rfl,trivial⟩) λ_=>Rd.sl (λ_=>⟨_,_,rfl,rfl,trivial⟩) λ_=>Rd.sl (λ_=>⟨_,_,rfl,rfl,trivial⟩) λ_=>⟨_,_,rfl,rfl,trivial⟩
theorem kg6(p:Pln)(v:V3):rd7 p v=true:=(kg5 p v).g
theorem Df5(x:PLq)(y:V3)(hx:x.length<=1000000):Rd (one (r1L tP)) (lc4 x y) (λr=>r.length<=x.length+50):=by
 have ea:app [] (bL tP x)=bL tP x:=rfl;have one0:Rd (one (r1L tP)) (some (.sl 0 0 1 0,[⟨66,4,[[i 0,i 0,i 0,i 0]],true,false,0⟩])) (λr=>r.length<=x.length+50):=Ic3 (l:=[⟨⟨0,0,0⟩,0⟩]) rfl rfl (by simp only[List.length_singleton];omega)
 unfold lc4;simp only[ra5,ea,J2,Qar];rw[bt (show (Nat.beq 0 0&&Nat.ble (x.length*32) room)=true by rw[Ea0 (by omega)];rfl)]
 by_cases h0:x.length=0
 ·rw[show ((x.length:Int)==0)=true from by rw[h0];rfl]
  exact one0
 ·have zi:((x.length:Int)==0)=false:=by rw[beq_eq_false_iff_ne];omega
  have hk1:=Qiae y.y (show (x.length:Int)≠0 by omega)
  have hk2:=Qiv y.y (show (0:Int)<(x.length:Int) by omega)
  rw[zi,Ic2 y.y (show (0:Int)<(x.length:Int) by omega) (by omega),lc6 y.y (show (0:Int)<(x.length:Int) by omega) (by omega),lc6 y.x (show (0:Int)<6 by omega) (by omega),lc6 y.z (show (0:Int)<9 by omega) (by omega)]
  obtain⟨k,hk⟩:=Int.eq_ofNat_of_zero_le hk1;rw[hk] at hk2 ⊢;have hkx:k<x.length:=by omega
  have i1:inB (k:Int) x.length=true:=l0 hkx;have i2:inB (k:Int) (x.length+1)=true:=l0 (by omega)
  have w1:W ((k:Int)+1)=((k+1:Nat):Int):=A5 hkx (by omega)
  have i3:inB ((k+1:Nat):Int) (x.length+1)=true:=l0 (by omega)
  have hrow:c8 (bL tP x) k=tP.row (gL tP x k):=X5 tP hkx;have hb:Nat.blt k x.length=true:=by rw[Qch];exact hkx
  have hld:ldR tP (bL tP x) k=true:=oe1 tP hkx;have hrd:rdR tP (bL tP x) k=gL tP x k:=oe0 tP hkx;have sp:∀(v:Pln) (x1 x2 x3 x4:Int),Q0 (tP.row v) 0 [i x1,i x2,i x3,i x4]=tP.row ⟨⟨x1,x2,x3⟩,x4⟩:=λ_ _ _ _ _=>rfl
  have sp3:∀(v:Pln) (x4:Int),Q0 (tP.row v) 3 [i x4]=tP.row ⟨v.n,x4⟩:=λ_ _=>rfl
  have rl:∀v:Pln,Nat.ble 4 (len (tP.row v))=true:=λ_=>rfl
  have rl3:∀v:Pln,Nat.ble (3+1) (len (tP.row v))=true:=λ_=>rfl
  have ck3:∀v:Pln,ka1 [CK.int .i64] (s9 (tP.row v) 3)=true:=λ_=>rfl
  have b0:Nat.ble (x.length*32) room=true:=Ea0 (by omega)
  have b1:Nat.ble ((x.length+1)*32) room=true:=Ea0 (by omega)
  obtain⟨s,l1,out,l2,l3⟩:=Df4 k x hkx;have cutL:J6 (s9 (bL tP x) (k+1)) (x.length-(k+1))=bL tP (x.drop (k+1)):=by
   have hl:(bL tP x).length=x.length:=by rw[<- z6,J2]
   rw[J7,I9,Qip (by rw[Qib,hl];omega)]
   unfold bL;rw[s8,s8,Qiah]
  have cutT:J6 (bL tP x) (k-0)=bL tP (x.take k):=by
   unfold bL;rw[J7,s8,s8,List.map_take,Nat.sub_zero]
  have cutD:∀n,s9 (bL tP x) n=bL tP (x.drop n):=λn=>by
   unfold bL;rw[I9,s8,s8,Qiah]
  simp only[Int.toNat_natCast,i1,i2,w1,i3,hrow,hb,hld,hrd,sp,sp3,rl,rl3,ck3,b0,b1,Qim,Bool.and_self,Qii,g7,A7,kg6,Ec4,jd3,l1,l2,cutL];refine Rd.sl (λ_=>Ic3 (by rw[Qig]) rfl (by rw[Qig];omega)) λ_=>Rd.sl (λ_=>?_) λ_=>Rd.sl (λ_=>Ic3 (by rw[Qig]) rfl (by rw[Qig];omega)) λ_ =>
   Rd.sl (λ_=>Ic3 (by rw[Qdc];rfl) rfl (by rw[Qdc];simp only[List.length_singleton];omega)) λ_=>Rd.sl (λ_=>Ic3 (by rw[Qig]) rfl (by rw[Qig];omega)) λ_ =>
   Rd.sl (λ_=>Ic3 rfl rfl (by omega)) λ_=>Ic3 rfl rfl (by omega)
  rw[cutT,cutD,J2,ra4,ra4,Qib,bt (by rw[Qiy];omega)]
  refine Ve3 ?_ rfl ?_
  ·simp only[Qdc,Qia,Qib];omega
  ·rw[Qia];simp only[Qdc,Qia,Qib];omega
theorem zg4(x:PLq)(y:V3)(hx:x.length<=1000000):rd8 x y=true:=(Df5 x y hx).g
theorem zg5(x:PLq)(y:V3)(hx:x.length<=1000000):(Qc6 x y).length<=x.length+50:=(Df5 x y hx).p
def has(c:PLq)(v:V3):Bool:=(chk c==0)&&(inV v&&inn c ⟨v.x,v.y,v.z,1⟩)
theorem Pd0{a c:PLq}(ha:(chk a==0)=true)(hc:(chk c==0)=true):Bds (a++c++ws)/\(a++c++ws).length<=200:=by
 rw[beq_iff_eq,Fb3] at ha hc;refine⟨λp hp=>?_,by rw[Qdc,Qdc,show ws.length=6 from rfl];omega⟩
 rcases Qis.1 hp with hp|hp
 ·rcases Qis.1 hp with hp|hp
  ·exact sd0 (ha.2 p hp)
  ·exact sd0 (hc.2 p hp)
 ·exact ag2 p hp
def apart(a c:PLq):Bool:=!((chk a==0)&&(chk c==0))||!Cd0 (a++c++ws)
theorem Ie2{a c:PLq}(ha:a.length<=100000000)(hc:c.length<=100000000):sb5 a c=some (b (apart a c),[]):=by
 have hn:[a,c].length<=1000000000:=by simp
 have hl:∀x∈[a,c],x.length<=1000000000:=by
  intro x hx;simp only[Qbh,Qiab,or_false] at hx
  rcases hx with rfl|rfl<;>omega
 have hf:[a,c].flatten=a++c:=by simp
 have hfl:[a,c].flatten.length<=1000000000:=by rw[hf,Qdc];omega
 unfold sb5 apart;simp only[l9,A3,He2 _ hn hl,He3 _ hn hl,zg2 _ hn hfl,zg3 _ hn hfl,hf,List.all_cons,List.all_nil,Qii];cases h1:chk a==0 with
 |false=>rfl
 |true =>
  cases h2:chk c==0 with
  |false=>rfl
  |true =>
   obtain⟨q1,q2⟩:=Pd0 h1 h2;rw[Cf6 _ q1 q2,Cf7 _ q1 q2];rfl
theorem df0{a c:PLq}(ha:a.length<=100000000)(hc:c.length<=100000000):Ob2 a c=apart a c:=by unfold Ob2;rw[Ie2 ha hc];rfl
theorem df1{a c:PLq}(ha:a.length<=100000000)(hc:c.length<=100000000):Ob3 a c=true:=by unfold Ob3;rw[Ie2 ha hc];rfl
def lies(a c:PLq):Bool:=ful a&&((chk c==0)&&(pts a).all (inn c))
def onc(X:List Pt)(p:Pln):Nat:=X.countP λx=>rm p x==0
def keep(X:List Pt)(p:Pln):Bool:=!decide ((onc X p:Int)<3)
theorem Pd1(p:Pln)(X:List Pt)(hX:X.length<=1000000000):Ca5 ⟨p.n.x,p.n.y,p.n.z,p.b,X⟩=⟨1,!keep X p,X⟩:=by
 have h:=id6 (step:=Fa9 ⟨X,(X.length:Int),X,p.n.x,p.n.y,p.n.z,p.b⟩) (mk:=λj (n:Nat)=>(⟨(n:Int),(j:Int)⟩:Y7)) (f:=λn x=>if rm p x==0 then n+1 else n) (fin:=1) tX X (λj n=>n<=j) hX
  (λj n hj hi=>by
   have hW:W ((n:Int)+1)=((n+1:Nat):Int):=by rw[ia9 (by omega) (by omega)];omega
   refine⟨?_,by show (if rm p (gL tX X j)==0 then n+1 else n)<=j+1;split<;>omega⟩
   simp only[Fa9,Ra2,Int.toNat_natCast,se0,hW,A5 hj (show X.length<=4611686018427387904 by omega)]
   rw[btD (n8 hj),bt (l0 hj)];cases rm p (gL tX X j)==0<;>rfl)
  (λn _=>by simp only[Fa9,Ra2];rw[bfD (w8 (Qie _))]) 0 (Qbv _) 0 (Qaf _)
 have h:=h.1;have e:∀(l:List Pt) (n:Nat),l.foldl (λn x=>if rm p x==0 then n+1 else n) n=n+l.countP λx=>rm p x==0:=by
  intro l
  induction l with
  |nil=>intro n;rfl
  |cons x l ih =>
   intro n;rw[List.foldl_cons,ih,List.countP_cons]
   split<;>omega
 rw[Qic,e,Qar] at h;unfold Ca5 fc5 keep onc;simp only[l9,s7];rw[show (⟨0,0⟩:Y7)=⟨((0:Nat):Int),((0:Nat):Int)⟩ from rfl,h]
 show na0.mk 1 (decide _) X=na0.mk 1 (!(!(decide _))) X;rw[Bool.not_not]
theorem Rf9(l:PLq)(X:List Pt)(hl:l.length<=1000000000)(hX:X.length<=1000000000):fa7 ⟨l.length,bL tP l,X⟩=⟨1,if l.any (λp=>!keep X p) then ((l.findIdx (λp=>!keep X p):Nat):Int) else -1,X⟩:=by
 have h:=jb8 (step:=O8 ⟨l.length,(l.length:Int),bL tP l⟩) (mk:=λj=>(⟨(j:Int),X⟩:C6)) (c:=λp=>!keep X p) (u:=1) (fin:=2) tP l hl
  (λj hj=>by
   simp only[O8,X1,Int.toNat_natCast,l9,s7,jd4 hj,Rc1 hj,Pd1 _ _ hX,A5 hj (show l.length<=4611686018427387904 by omega)]
   rw[btD (n8 hj),bt (l0 hj)]
   rfl)
  (by simp only[O8,X1];rw[bfD (w8 (Qie _))]) 0 (Qbv _)
 rw[Qic] at h;unfold fa7 va4;simp only[l9,s7];rw[show (⟨0,X⟩:C6)=⟨((0:Nat):Int),X⟩ from rfl,h]
 cases ha:l.any λp=>!keep X p with
 |false=>rfl
 |true =>
  have hf:l.findIdx (λp=>!keep X p)<l.length:=by
   rw[Qiad] at ha;obtain⟨p,hp,hc⟩:=ha;exact Qiq ⟨p,hp,hc⟩
  simp only[if_true,Qar,Int.toNat_natCast,Rc1 hf,Pd1 _ _ hX,l9];rfl
theorem jd5{α:Type}(c:α->Bool):∀l:List α,(l.take (l.findIdx c)).filter (λx=>!c x)=l.take (l.findIdx c)
 |[]=>rfl
 |x::l=>by
  rw[List.findIdx_cons];cases h:c x with
  |true=>rfl
  |false =>
   simp only[cond_false,List.take_succ_cons,Qir,h,Qit,if_true];rw[jd5 c l]
theorem Ve4{α:Type}(l:List α)(j:Nat)(h:j<l.length):l.take (j+1)=l.take j++[l[j]]:=by rw[Qij h]
theorem sc5{α:Type}(t:Ty α){l:List α}{j:Nat}(h:j<l.length):l.take (j+1)=l.take j++[gL t l j]:=by rw[Ve4 l j h,gb5 t h]
theorem sd3{α:Type}(t:Ty α){l r:List α}{j:Nat}(h:l.drop j=r.drop j):gL t l j=gL t r j:=by
 have h1:=jd2 t l j 0;have h2:=jd2 t r j 0;rw[Nat.add_zero] at h1 h2;rw[<- h1,<- h2,h]
theorem jd6{α:Type}{l r:List α}{j:Nat}(h:l.drop j=r.drop j)(k:Nat):l.drop (j+k)=r.drop (j+k):=by rw[<- Qiaf,<- Qiaf,h]
structure Del(l:PLq)(f:Pln->Bool)(cur:PLq)(m j:Nat):Prop where
 len:cur.length=l.length
 t:cur.take m=(l.take j).filter f
 d:cur.drop j=l.drop j
 le:m<=j
 lm:m<=l.length
theorem Ie3(l:PLq)(X:List Pt)(hl:l.length<=1000000000)(hX:X.length<=1000000000)(m j:Nat)(cur:PLq)(hd:Del l (keep X) cur m j) :
  ∃t s,lp (J4 ⟨l.length⟩) ⟨(m:Int),(j:Int),bL tP cur,X⟩=(t,s)/\(t=1/\∃m' cur' k,s=⟨((m':Nat):Int),((k:Nat):Int),bL tP cur',X⟩/\Del l (keep X) cur' m' k/\l.length<=k):=by
 refine da0 (step:=J4 ⟨l.length⟩) (mk:=λj (x:Nat×PLq)=>(⟨(x.1:Int),(j:Int),bL tP x.2,X⟩:E0)) l.length (λj x=>Del l (keep X) x.2 x.1 j) (λt s=>t=1/\∃m' cur' k,s=⟨((m':Nat):Int),((k:Nat):Int),bL tP cur',X⟩/\Del l (keep X) cur' m' k/\l.length<=k) hl (λj x hj hx=>?_) (λj x hj hx=>?_) j (m,cur) hd
 ·obtain⟨m,cur⟩:=x;obtain⟨h1,h2,h3,h4,h5⟩:=hx
  simp only at h1 h2 h3 h4 h5
  have hjc:j<cur.length:=by omega
  have hmc:m<cur.length:=by omega
  have hg:gL tP cur j=gL tP l j:=sd3 tP h3;have hWm:W ((m:Int)+1)=((m+1:Nat):Int):=by rw[ia9 (by omega) (by omega)];omega
  have hb:Nat.blt m cur.length=true:=by rw[Qch];exact hmc
  have hrow:c8 (bL tP cur) m=tP.row (gL tP cur m):=X5 tP hmc;have sp:∀(v:Pln) (x1 x2 x3 x4:Int),Q0 (tP.row v) 0 [i x1,i x2,i x3,i x4]=tP.row ⟨⟨x1,x2,x3⟩,x4⟩:=λ_ _ _ _ _=>rfl
  have rl:∀v:Pln,Nat.ble (0+4) (len (tP.row v))=true:=λ_=>rfl
  simp only[J4,X2,Int.toNat_natCast,l9,s7,jd4 hjc,Rc1 hjc,Pd1 _ _ hX,A5 hj (show l.length<=4611686018427387904 by omega),hWm]
  rw[btD (n8 hj),bt (l0 hj)];simp only[Qar,hrow,J2,hb,sp,Ec4,l0 (show m<l.length by omega),hg]
  have ht:=sc5 tP hj;have hd1:cur.drop (j+1)=l.drop (j+1):=jd6 h3 1;cases hk:keep X (gL tP l j) with
  |true =>
   refine .nx ⟨(m+1,cur.set m (gL tP l j)),rfl,⟨by rw[Qig];exact h1,?_,?_,by omega,by show m+1<=l.length;omega⟩⟩
   ·show (cur.set m (gL tP l j)).take (m+1)=_;rw[ht,Qiw,Qij (by rw[Qig];exact hmc),Qiag,List.take_set_of_le (Qaf _),h2,Qir,hk,if_pos rfl,List.filter_nil]
   ·show (cur.set m (gL tP l j)).drop (j+1)=_;rw[List.drop_set_of_lt (by omega),hd1]
  |false =>
   refine .nx ⟨(m,cur),rfl,⟨h1,?_,hd1,by omega,h5⟩⟩
   show cur.take m=_;rw[ht,Qiw,h2,Qir,hk,if_neg (by simp),List.filter_nil,Qbu]
 ·obtain⟨m,cur⟩:=x;refine⟨1,?_,rfl,m,cur,j,rfl,hx,hj⟩;simp only[J4,X2];rw[bfD (by omega)]
theorem df2(l:PLq)(n:Nat):J6 (bL tP l) n=bL tP (l.take n):=by unfold bL;rw[J7,s8,s8,List.map_take]
theorem se9(l:PLq)(n:Nat):s9 (bL tP l) n=bL tP (l.drop n):=by unfold bL;rw[I9,s8,s8,Qiah]
theorem df3(n:Nat):List.replicate n [i 0,i 0,i 0,i 0]=bL tP (List.replicate n ⟨⟨0,0,0⟩,0⟩):=by unfold bL;rw[s8,List.map_replicate];rfl
theorem ie8(l:PLq)(X:List Pt)(hl:l.length<=1000000000)(hX:X.length<=1000000000) :
  ∃m r,N7 ⟨l.length,bL tP l,X⟩=⟨1,m,bL tP r,X⟩/\m<=r.length/\r.take m=l.filter (keep X)/\r.length=l.length:=by
 unfold N7 va7;simp only[l9,s7,Rf9 l X hl hX];cases ha:l.any λp=>!keep X p with
 |false =>
  refine⟨l.length,l,rfl,Qaf _,?_,rfl⟩;rw[List.take_length]
  symm
  rw[List.filter_eq_self];intro p hp
  have:=Qbk.1 ha p hp
  simpa using this
 |true =>
  have hf:l.findIdx (λp=>!keep X p)<l.length:=by
   rw[Qiad] at ha;obtain⟨p,hp,hc⟩:=ha;exact Qiq ⟨p,hp,hc⟩
  have hk:keep X (gL tP l (l.findIdx λp=>!keep X p))=false:=by
   have:=List.findIdx_getElem (xs:=l) (p:=λp=>!keep X p) (w:=hf)
   rw[gb5 tP hf];simpa using this
  have ht:=jd5 (λp=>!keep X p) l
  simp only[Bool.not_not] at ht;generalize hF:l.findIdx (λp=>!keep X p)=F at *
  have hW:W ((F:Int)+1)=((F+1:Nat):Int):=A5 hf (by omega)
  have hne:((F:Int)==-1)=false:=by rw[beq_eq_false_iff_ne];omega
  obtain⟨t,s,e1,rfl,m,cur,k,e2,e3,e4⟩:=Ie3 l X hl hX F (F+1) l ⟨rfl,by rw[sc5 tP hf,Qiw,ht,Qir,hk,if_neg (by simp),List.filter_nil,Qbu],rfl,by omega,by omega⟩
  have hm:m<=l.length:=e3.lm;have hin:inB (m:Int) (l.length+1)=true:=l0 (by omega)
  have hfin:cur.take m=l.filter (keep X):=by rw[e3.t,Qip e4]
  simp only[if_true,hW,hne,e1,e2,Int.toNat_natCast,hin,Qar,Nat.sub_zero];refine⟨m,cur.take m++(List.replicate (l.length-m) ⟨⟨0,0,0⟩,0⟩++cur.drop (m+(l.length-m))),?_,?_,?_,?_⟩
  ·rw[df2,df3,se9,ra4,ra4];rfl
  ·rw[Qdc,Qdc,Qia,Qbn,e3.len];omega
  ·rw[Qil (by rw[Qia,e3.len];omega),List.take_take,Nat.min_self,hfin]
  ·rw[Qdc,Qdc,Qia,Qbn,Qib,e3.len];omega
def eqP(x y:Pln):Bool:=x.n.x==y.n.x&&(x.n.y==y.n.y&&(x.n.z==y.n.z&&(x.b==y.b&&true)))
theorem Rc2(x y:Pln):eqP x y=true↔x=y:=by
 unfold eqP;simp only[Qii,Qas,beq_iff_eq];refine⟨λ⟨h1,h2,h3,h4⟩=>?_,λh=>by subst h;exact⟨rfl,rfl,rfl,rfl⟩⟩
 obtain⟨⟨x1,x2,x3⟩,x4⟩:=x;obtain⟨⟨y1,y2,y3⟩,y4⟩:=y
 simp only at h1 h2 h3 h4
 subst h1 h2 h3 h4;rfl
def ddF:Pln->PLq->PLq
 |_,[]=>[]
 |a,x::l=>if eqP x a then ddF x l else x::ddF x l
def dd:PLq->PLq
 |[]=>[]
 |x::l=>x::ddF x l
theorem df4:∀(a:Pln) (l:PLq),(ddF a l).length<=l.length
 |_,[]=>Qaf _
 |a,x::l=>by
  have:=df4 x l
  unfold ddF
  split<;>simp only[List.length_cons]<;>omega
structure Cmp(l:PLq)(n:Nat)(cur:PLq)(m j:Nat)(R:PLq):Prop where
 len:cur.length=l.length
 t:cur.take m++ddF (gL tP l (j-1)) ((l.take n).drop j)=R
 d:cur.drop (j-1)=l.drop (j-1)
 le:m+1<=j
theorem te0(l:PLq)(n o:Nat)(hn:n<=l.length)(hl:l.length<=1000000000)(ho:o<n)(m:Nat)(cur:PLq)(R:PLq)(hd:Cmp l n cur m (o+1) R) :
  ∃t s,lp (D7 ⟨n,0+o,n-o⟩) ⟨(m:Int),((1:Nat):Int),bL tP cur⟩=(t,s)/\(t=1/\∃m' cur' k,s=⟨((m':Nat):Int),k,bL tP cur'⟩/\cur'.length=l.length/\cur'.take m'=R/\m'<=n):=by
 refine da0 (step:=D7 ⟨n,0+o,n-o⟩) (mk:=λj (x:Nat×PLq)=>(⟨(x.1:Int),(j:Int),bL tP x.2⟩:C9)) (n-o) (λj x=>Cmp l n x.2 x.1 (o+j) R/\1<=j/\x.1<=n) (λt s=>t=1/\∃m' cur' k,s=⟨((m':Nat):Int),k,bL tP cur'⟩/\cur'.length=l.length/\cur'.take m'=R/\m'<=n) (by omega) (λj x hj hx=>?_) (λj x hj hx=>?_) 1 (m,cur) ⟨hd,Qaf _,by have:=hd.le;show m<=n;omega⟩
 ·obtain⟨m,cur⟩:=x;obtain⟨⟨h1,h2,h3,h4⟩,hj1,hmn⟩:=hx
  simp only at h1 h2 h3 h4 hmn
  have hoj:o+j<n:=by omega
  have hjc:o+j<cur.length:=by omega
  have hjc':o+(j-1)<cur.length:=by omega
  have hmc:m<cur.length:=by omega
  have hg':gL tP cur (o+(j-1))=gL tP l (o+j-1):=by rw[show o+(j-1)=o+j-1 by omega];exact sd3 tP h3
  have hd1:cur.drop (o+j)=l.drop (o+j):=by have:=jd6 h3 1;rw[show o+j-1+1=o+j by omega] at this;exact this
  have hg:gL tP cur (o+j)=gL tP l (o+j):=sd3 tP hd1;have hWm:W ((m:Int)+1)=((m+1:Nat):Int):=by rw[ia9 (by omega) (by omega)];omega
  have hWj:W ((j:Int)-1)=((j-1:Nat):Int):=by rw[ia9 (by omega) (by omega)];omega
  have hb:Nat.blt m cur.length=true:=by rw[Qch];exact hmc
  have hrow:c8 (bL tP cur) m=tP.row (gL tP cur m):=X5 tP hmc;have sp:∀(v:Pln) (x1 x2 x3 x4:Int),Q0 (tP.row v) 0 [i x1,i x2,i x3,i x4]=tP.row ⟨⟨x1,x2,x3⟩,x4⟩:=λ_ _ _ _ _=>rfl
  have rl:∀v:Pln,Nat.ble 4 (len (tP.row v))=true:=λ_=>rfl
  simp only[D7,ca7,Int.toNat_natCast,Qar,hWj,oe1 tP hjc,oe1 tP hjc',oe0 tP hjc,oe0 tP hjc',A5 hj (show n-o<=4611686018427387904 by omega),hWm,hg,hg',hrow,J2,hb,sp,rl,Ec4,l0 (show m<n by omega)]
  rw[btD (n8 hj)];simp only[l0 hj,l0 (show j-1<n-o by omega),g7,Bool.and_self]
  rw[show ((gL tP l (o+j)).n.x==(gL tP l (o+j-1)).n.x&&((gL tP l (o+j)).n.y==(gL tP l (o+j-1)).n.y&&((gL tP l (o+j)).n.z==(gL tP l (o+j-1)).n.z&&((gL tP l (o+j)).b==(gL tP l (o+j-1)).b&&true))))=eqP (gL tP l (o+j)) (gL tP l (o+j-1)) from rfl]
  have hcons:(l.take n).drop (o+j)=gL tP l (o+j)::(l.take n).drop (o+(j+1)):=by
   rw[Qid (by rw[Qia];omega),List.getElem_take,gb5 tP (by omega)]
   rfl
  rw[hcons] at h2;have hlast:o+(j+1)-1=o+j:=by omega
  unfold ddF at h2;cases he:eqP (gL tP l (o+j)) (gL tP l (o+j-1)) with
  |true =>
   rw[he] at h2;simp only[if_true] at h2;refine .nx ⟨(m,cur),rfl,⟨⟨h1,?_,?_,by show m+1<=o+(j+1);omega⟩,by omega,hmn⟩⟩
   ·rw[hlast];exact h2
   ·rw[hlast];exact hd1
  |false =>
   rw[he] at h2;simp only[Qiu,if_false] at h2;refine .nx ⟨(m+1,cur.set m (gL tP l (o+j))),rfl,⟨⟨by rw[Qig];exact h1,?_,?_,by show m+1+1<=o+(j+1);omega⟩,by omega,by show m+1<=n;omega⟩⟩
   ·rw[hlast];show (cur.set m (gL tP l (o+j))).take (m+1)++_=R;rw[Qij (by rw[Qig];exact hmc),Qiag,List.take_set_of_le (Qaf _),Qio]
    exact h2
   ·rw[hlast];show (cur.set m (gL tP l (o+j))).drop (o+j)=_;rw[List.drop_set_of_lt (by omega),hd1]
 ·obtain⟨m,cur⟩:=x;obtain⟨⟨h1,h2,h3,h4⟩,hj1,hmn⟩:=hx
  simp only at h1 h2 h3 h4 hmn
  refine⟨1,?_,rfl,m,cur,_,rfl,h1,?_,hmn⟩
  ·simp only[D7,ca7];rw[bfD (by omega)]
  ·rw[Qik (by rw[Qia];omega)] at h2
   unfold ddF at h2;rw[Qbu] at h2;exact h2
theorem Pd2(l:PLq)(n:Nat)(hn:n<=l.length)(hl:l.length<=1000000000) :
  ∃m r,ca9 ⟨n,bL tP l⟩=⟨1,m,bL tP r⟩/\m<=r.length/\r.take m=dd (l.take n):=by
 unfold ca9 La0
 simp only
 by_cases h2:(n:Int)<2
 ·rw[btD h2];refine⟨n,l,rfl,hn,?_⟩
  have:n=0\/n=1:=by omega
  rcases this with rfl|rfl
  ·rfl
  ·cases l with
   |nil=>rfl
   |cons x l=>rfl
 ·rw[bfD h2];have h1n:1<=n:=by omega
  have hI : ∀ j, j < n → 1 ≤ j → l.take j ++ ddF (gL tP l (j - 1)) ((l.take n).drop j) = dd (l.take n) →
    (eqP (gL tP l j) (gL tP l (j-1))=true->Cmp l n l j (j+1) (dd (l.take n)))/\(eqP (gL tP l j) (gL tP l (j-1))=false->l.take (j+1)++ddF (gL tP l (j+1-1)) ((l.take n).drop (j+1))=dd (l.take n)):=by
   intro j hj hj1 hR;have hcons:(l.take n).drop j=gL tP l j::(l.take n).drop (j+1):=by
    rw[Qid (by rw[Qia];omega),List.getElem_take,gb5 tP (by omega)]
   rw[hcons] at hR;unfold ddF at hR;constructor
   ·intro he;rw[he] at hR;simp only[if_true] at hR;exact⟨rfl,hR,rfl,Qaf _⟩
   ·intro he;rw[he] at hR;simp only[Qiu,if_false] at hR;rw[sc5 tP (show j<l.length by omega),Qio]
    exact hR
  have inner:∀k,k<n->1<=k->Cmp l n l k (k+1) (dd (l.take n))->∃m' cur' k',lp (D7 ⟨n,0+k,n-k⟩) ⟨(k:Int),1,bL tP l⟩=(1,⟨((m':Nat):Int),k',bL tP cur'⟩)/\cur'.length=l.length/\cur'.take m'=dd (l.take n)/\m'<=n:=by
   intro k hk hk1 hc;obtain⟨t,s,e1,rfl,m',cur',k',rfl,e2,e3,e4⟩:=te0 l n k hn hl hk k l _ hc;exact⟨m',cur',k',e1,e2,e3,e4⟩
  have key:=da0 (step:=V4 ⟨n,bL tP l⟩) (mk:=λj (_:Unit)=>(⟨(j:Int)⟩:ha5)) n (λj _=>1<=j/\j<=n/\l.take j++ddF (gL tP l (j-1)) ((l.take n).drop j)=dd (l.take n))
   (λt s=>(t=1/\∃k:Nat,s=⟨(k:Int)⟩/\k<n/\1<=k/\Cmp l n l k (k+1) (dd (l.take n)))\/(t=2/\l.take n=dd (l.take n))) (by omega) (λj x hj hx=>?_) (λj x hj hx=>?_) 1 () ⟨Qaf _,h1n,by
    cases l with
    |nil=>simp only[List.length_nil] at hn;omega
    |cons x l =>
     cases n with
     |zero=>omega
     |succ n=>rfl⟩
  ·obtain⟨t,s,e1,e2⟩:=key;rw[show (⟨1⟩:ha5)=⟨((1:Nat):Int)⟩ from rfl,e1]
   rcases e2 with⟨rfl,k,rfl,hk,hk1,hc⟩|⟨rfl,he⟩
   ·obtain⟨m',cur',k',e2,e3,e4,e5⟩:=inner k hk hk1 hc;simp only[Int.toNat_natCast,e2];simp only[Qar,Nat.sub_zero];refine⟨m',cur'.take m'++(List.replicate (n-m') ⟨⟨0,0,0⟩,0⟩++cur'.drop (m'+(n-m'))),?_,?_,?_⟩
    ·rw[df2,df3,se9,ra4,ra4];rfl
    ·rw[Qdc,Qia,e3];omega
    ·rw[Qil (by rw[Qia,e3];omega),List.take_take,Nat.min_self,e4]
   ·exact⟨n,l,rfl,hn,he⟩
  ·obtain⟨hj1,hjn,hR⟩:=hx;obtain⟨i1,i2⟩:=hI j hj hj1 hR;have hWj:W ((j:Int)-1)=((j-1:Nat):Int):=by rw[ia9 (by omega) (by omega)];omega
   have hjl:j<l.length:=by omega
   have hjl':j-1<l.length:=by omega
   simp only[V4,ca8,Int.toNat_natCast,hWj,jd4 hjl,jd4 hjl',Rc1 hjl,Rc1 hjl',A5 hj (show n<=4611686018427387904 by omega)]
   rw[btD (n8 hj),bt (l0 hj),bt (l0 (show j-1<n by omega)),bt (l0 (show j<n+1 by omega))]
   simp only[g7];rw[show ((gL tP l j).n.x==(gL tP l (j-1)).n.x&&((gL tP l j).n.y==(gL tP l (j-1)).n.y&&((gL tP l j).n.z==(gL tP l (j-1)).n.z&&((gL tP l j).b==(gL tP l (j-1)).b&&true))))=eqP (gL tP l j) (gL tP l (j-1)) from rfl]
   cases he:eqP (gL tP l j) (gL tP l (j-1)) with
   |false=>exact .nx ⟨(),rfl,by omega,by omega,i2 he⟩
   |true =>
    obtain⟨m',cur',k',e2,e3,e4,e5⟩:=inner j hj hj1 (i1 he);rw[e2];simp only[l0 (show m'<n+1 by omega)]
    exact .ex (.inl ⟨rfl,j,rfl,hj,hj1,i1 he⟩)
  ·obtain⟨hj1,hjn,hR⟩:=hx;refine⟨2,?_,.inr ⟨rfl,?_⟩⟩
   ·simp only[V4,ca8];rw[bfD (by omega)]
   ·have:j=n:=by omega
    subst this;rw[Qik (by rw[Qia];omega)] at hR
    unfold ddF at hR;rw[Qbu] at hR;exact hR
theorem Df6(l:PLq)(n:Nat)(hn:n<=l.length):slR tP (bL tP l) 0 n=l.take n:=Ec3 tP (by rw[Qia];omega) λk hk=>by
 rw[Qar,X5 tP (by omega)]
 congr 1;simp[gL,Qda,Qap,hk]
theorem Df7(l:PLq)(n:Nat)(hn:n<=l.length):okS tP (bL tP l) 0 n=true:=pc3 tP (f:=λk=>gL tP l k) λk hk=>by rw[Qar,X5 tP (by omega)]
def lean(c:PLq):PLq:=if ful c then dd (nb4 (c.filter (keep (pts c)))) else []
theorem df5(p:Pln)(c:PLq)(hc:c.length<=1000000):Rd (one (r1L tP)) (Eb9 (p,c)) (λr=>r=lean (p::c)):=by
 have hl:(p::c).length<=1000000000:=by simp only[List.length_cons];omega
 have hX:=se8 (p::c);unfold Eb9 lean;simp only[l9,A3,s7,rg3,rg4,Od8 hl,Od9 hl,Od6 hl,Od7 hl];cases hf:ful (p::c) with
 |false=>exact⟨_,[],rfl,rfl,rfl⟩
 |true =>
  have ec:s5 (λk=>tP.row (gL tP (p::c) k)) (List.range (c.length+1))=bL tP (p::c):=ra5 tP (p::c)
  have hcl:za0 (p,c)=⟨1,(p::c).length,bL tP (p::c)⟩:=by
   unfold za0 Wa0;simp only[ec,J2];have r:Nat.ble ((0+(p::c).length)*32) room=true:=Ea0 (by simp only[List.length_cons];omega)
   rw[r,Qar];rfl
  obtain⟨m,r,e1,e2,e3,e4⟩:=ie8 (p::c) (pts (p::c)) hl (by omega)
  have hm:m<=(p::c).length:=by
   have h1:=congrArg List.length e3;have h2:=List.length_filter_le (keep (pts (p::c))) (p::c);rw[Qia] at h1;omega
  have hs:(nb4 (r.take m)).length=m:=by rw[Qc5,Qia];omega
  have hrows:app (bL tP (nb4 (r.take m))) (s9 (bL tP r) m)=bL tP (nb4 (r.take m)++r.drop m):=by rw[se9,ra4]
  have hok:okL tP (c.length+1) (λk=>tP.row (gL tP (p::c) k))=true:=pc3 tP (f:=λk=>gL tP (p::c) k) λ_ _=>rfl
  simp only[hcl,e1,Df6 r m e2,Df7 r m e2,hrows,hok];obtain⟨m2,r2,k1,k2,k3⟩:=Pd2 (nb4 (r.take m)++r.drop m) m (by rw[Qdc,hs];omega) (by rw[Qdc,hs,Qib,e4];omega)
  rw[k1,J2];have q1:Nat.ble m room=true:=by rw[Qiy];unfold room;simp only[List.length_cons] at hm;omega
  have q2:Nat.ble m r.length=true:=by rw[Qiy];exact e2
  rw[q1,q2];have hfin:r2.take m2=dd (nb4 ((p::c).filter (keep (pts (p::c))))):=by
   rw[k3,Qil (by rw[hs];omega),Qip (by rw[hs];omega),e3]
  exact Ve3 k2 rfl hfin
theorem kg7(p:Pln)(c:PLq)(hc:c.length<=1000000):xd5 (p,c)=lean (p::c):=(df5 p c hc).p
theorem kg8(p:Pln)(c:PLq)(hc:c.length<=1000000):xd6 (p,c)=true:=(df5 p c hc).g
end Go.Ev.Ce
namespace Go.Ev.Ce
open Go Go.Ev Go.Ev.L Go.Proofs Go.Sort
theorem Pd3(l:PLq):List.Perm (nb4 l) l:=List.mergeSort_perm l _
theorem of6(x y z:Pln)(h1:(!ltOf va9 y x)=true)(h2:(!ltOf va9 z y)=true):(!ltOf va9 z x)=true:=by
 simp only[Qcb,zb6,decide_eq_false_iff_not] at *
 unfold LtP at *
 omega
theorem of7(x y:Pln):((!ltOf va9 y x)||!ltOf va9 x y)=true:=by
 simp only[Qci,Qcb,zb6,decide_eq_false_iff_not];unfold LtP;omega
theorem te1(l:PLq):(nb4 l).Pairwise λx y=>(!ltOf va9 y x)=true:=List.pairwise_mergeSort of6 of7 l
instance:DecidableEq Pln:=λx y=>decidable_of_iff _ (Rc2 x y)
def PC:List Pt:=[⟨0,0,0,1⟩,⟨0,0,1,4⟩,⟨0,1,0,3⟩,⟨1,0,0,2⟩]
theorem Ve5:ful []=true:=by kernel_rfl
end Go.Ev.Ce
namespace Go.Ev.L
open Go Go.Ev
def kg9:Cod Unit where
 enc _:=.v (.slice none 0 0)
 dec x:=match x with
  |.v (.slice none 0 0)=>some ()
  |_=>none
 grd _:=true
 ok x a hx _:=by
  split at hx
  ·exact .refl _
  ·cases hx
def cE0:Cod (Addr×Nat) where
 enc z:=.v (.slice (some z.1) 0 z.2)
 dec x:=match x with
  |.v (.slice (some a) 0 c)=>some (a,c)
  |_=>none
 grd _:=true
 ok x a hx _:=by
  split at hx
  ·cases hx;exact .refl _
  ·cases hx
section
variable{α:Type}{t:Ty α}{P:Program}{G:Nat->List Value}{f:FuncId}
theorem Rc3{β:Type}{c:Cod β}{k k':β->DT (b7×List c7)}(h:l8 P G f (S7 c k))(hk:∀a r,(k' a).run=some r->(k a).run=some r):l8 P G f (S7 c k'):=h.le λargs blks r hr=>by
 unfold S7 at hr ⊢
 split at hr
 ·obtain⟨a,h1,hr⟩:=K4 hr;obtain⟨g,hr⟩:=DT.run_guard_some hr;simp only[h1,onO,g];exact hk a r hr
 ·cases hr
theorem lg0{k:List α->DT (b7×List c7)}(hA:l8 P G f (S7 (uf9 t) λz=>k (z.1::z.2)))(hN:l8 P G f (S7 kg9 λ_=>k []))(hE:l8 P G f (S7 cE0 λ_=>k [])):l8 P G f (S7 (M3 t) k):=by
 intro args blks r out he W ρ F w args' hH hlen hargs hG;unfold S7 at he
 split at he
 ·rename_i x;obtain⟨a,h1,he⟩:=K4 he;obtain⟨g1,hk⟩:=DT.run_guard_some he;have nilCase:∀v',args'[0]?=some v'->v'=.slice none 0 0->a=[]->Rb3 P f/\Calls P f args'.toArray w λe w'=>∃r',e=.returned r'/\U3 W ρ [] F w r out r' w':=λv' hv e ha=>by
   subst ha;refine hN [.v (.slice none 0 0)] [] r out ?_ W ρ F w args' hH hlen (λi x' y' hx hy=>?_) hG
   ·exact hk
   ·match i with
    |0=>cases hx;rw[hv] at hy;cases hy;rw[e];exact .val (.cell (.v _))
    |i+1=>cases hx
  have emptyCase:∀v' ad c,args'[0]?=some v'->v'=.slice (some ad) 0 c->a=[]->Rb3 P f/\Calls P f args'.toArray w λe w'=>∃r',e=.returned r'/\U3 W ρ [] F w r out r' w':=λv' ad c hv e ha=>by
   subst ha;refine hE [.v (.slice (some ad) 0 c)] [] r out ?_ W ρ F w args' hH hlen (λi x' y' hx hy=>?_) hG
   ·exact hk
   ·match i with
    |0=>cases hx;rw[hv] at hy;cases hy;rw[e];exact .val (.cell (.v _))
    |i+1=>cases hx
  obtain⟨v',hv⟩:∃v',args'[0]?=some v':=by
   cases args' with
   |nil=>simp at hlen
   |cons v' r'=>exact⟨v',rfl⟩
  cases x with
  |tree e n get =>
   have hb:Nat.beq e t.es=true/\a=lsL t n get:=by
    have h1:(Bool.rec none (some (lsL t n get)) (Nat.beq e t.es):Option (List α))=some a:=h1;cases hb:Nat.beq e t.es with
    |false=>rw[hb] at h1;cases h1
    |true =>
     simp_all
   cases n with
   |zero =>
    have ha:a=[]:=hb.2;have hm:=Ea8 (hargs 0 _ v' rfl hv);cases hm with
    |tree _ _ _ ad cap cs hs hcap hes hF hw hr=>exact emptyCase _ ad cap hv rfl ha
    |nil=>exact nilCase _ hv rfl ha
   |succ m =>
    have ha:a=hC t get::tC t m get:=hb.2.trans (Be8 t m get);subst ha;refine hA [.tree e (m+1) get] [] r out ?_ W ρ F w args' hH hlen hargs hG;have hc:(uf9 t).dec (.tree e (m+1) get)=some (hC t get,tC t m get):=by
     show (Bool.rec none (some (hC t get,tC t m get)) (Nat.beq e t.es):Option (α×List α))=_;rw[hb.1]
    have hg:(uf9 t).grd (.tree e (m+1) get)=true:=g1;simp only[S7,hc,onO,hg];exact hk
  |v q =>
   have hq:=fa0 (hargs 0 _ v' rfl hv);unfold M3 at h1
   grind
  |_=>cases h1
 ·cases he
end
end Go.Ev.L
namespace Go.Ev.Ce
open Go Go.Ev Go.Ev.L Go.Proofs
set_option maxRecDepth 100000
@[reducible] noncomputable def bc0:Sum:=ba9 (En tbN) ag0
theorem ad1:l8 prog G 153 bc0:=bd Mg0 ya0
@[reducible] noncomputable def bc1:Sum:=ba9 (En tbN) Zf9
theorem ad2:l8 prog G 152 bc1:=bd Lg9 ya0
def lc7:List (Nat×Sum):=[(152,bc1),(153,bc0)]
theorem jd7:A4 prog G lc7:=⟨ad2,ad1,trivial⟩
@[reducible] noncomputable def xc4:Sum:=ba9 (En lc7) Zf5
theorem sd4:l8 prog G 131 xc4:=bd Kg6 jd7
def ha3(p:Sa8)(s:Sa8):St:=⟨nlq::i 0::i 0::.fn 110 []::ra 4 (i 1::ra 44 []),[]⟩
def ga2{α:Type}(k:Sa8->α)(e:Nat->α)(z:α)(p:Sa8)(s:Sa8):α:=(e 1)
def R9(p:Sa8)(s:Sa8):Stp Sa8:=ga2 .next .exit .fail p s
def S9:Lo Sa8 Sa8:=⟨En tbN,0,Zf8,[1,4,4],[0,1,2,3,8],.p,[⟨.s (.o .nil)::.s (.o (.lit .i64 0))::.s (.o (.lit .i64 0))::.s (.o (.fn 110))::ru2 4 (.s (.o (.lit .i64 1))::ru2 44 []),[],λa H=>(⟨⟩,⟨⟩)⟩],R9,[(some 0,λp s=>upq (ha3 p s) [(12,i 1),(13,i 0),(14,b false)])],ha3⟩
theorem Sa2:S9.Ok:=Lo.okq [] .nil λp s=>(.ofq @ga2)
structure V7 where
 alt:Nat
def V8{α:Type}(kk:V7->α)(x:Sa8):α:=let t1:=(lp (R9 (⟨⟩:Sa8)) (⟨⟩:Sa8));(sl (Nat.beq t1.1 1) (kk ⟨1⟩) (kk ⟨0⟩))
def K9(x:Sa8):V7:=V8 (λr=>r) x
def la1(x:Sa8)(r:V7):DT (b7×List c7):=(Ma1 r.alt 1 (.tup [],[]) .fail)
def na8:Sum:=Sa6 ⟨[.s (.o .nil),.s (.o (.lit .i64 0)),.s (.o (.lit .i64 0)),.s (.o (.fn 110))],[],λa H=>(⟨⟩,())⟩ (λx=>la1 x (K9 x))
theorem ab8:l8 prog G 144 na8:=K3 (enc:=λx=>⟨[nlq,i 0,i 0,.fn 110 []],[]⟩) (λa H=>by kernel_rfl) (bd Lg8 ya0) λx=>Q3 (.s .p (.b (.u S9.ls))) [S9.pr] (.cons Sa2 .nil) (mEq @V8 (λr=>(la1 x r).run) x)
def Da5:List (Nat×Sum):=[(144,na8)]
theorem tb3:A4 prog G Da5:=⟨ab8,trivial⟩
def ob5(p:Sa8)(s:Sa8):St:=⟨nlq::i 0::i 0::i 0::.fn 110 []::ra 5 (b true::b true::ra 136 []),[]⟩
def Z9{α:Type}(k:Sa8->α)(e:Nat->α)(z:α)(p:Sa8)(s:Sa8):α:=let t1:=(K9 ⟨⟩);(sl (Nat.beq t1.alt 1) (e 1) z)
def P0(p:Sa8)(s:Sa8):Stp Sa8:=Z9 .next .exit .fail p s
def da1:Lo Sa8 Sa8:=⟨En Da5,0,Zf4,[1,1,4,4],[0,1,2,3,4,10,11],.p,[⟨.s (.o .nil)::.s (.o (.lit .i64 0))::.s (.o (.lit .i64 0))::.s (.o (.lit .i64 0))::.s (.o (.fn 110))::ru2 5 (.s (.o (.blit true))::.s (.o (.blit true))::ru2 136 []),[],λa H=>(⟨⟩,⟨⟩)⟩],P0,[(none,λp s=>⟨[.tup []],[]⟩)],ob5⟩
theorem ob6:da1.Ok:=Lo.okq [] .nil λp s=>(.ofq @Z9)
def ga9{α:Type}(kk:V7->α)(x:Sa8):α:=let t1:=(lp (P0 (⟨⟩:Sa8)) (⟨⟩:Sa8));(sl (Nat.beq t1.1 1) (kk ⟨1⟩) (kk ⟨0⟩))
def U8(x:Sa8):V7:=ga9 (λr=>r) x
def Da6(x:Sa8)(r:V7):DT (b7×List c7):=(Ma1 r.alt 1 (.tup [],[]) .fail)
def Ga1:Sum:=Sa6 ⟨[.s (.o .nil),.s (.o (.lit .i64 0)),.s (.o (.lit .i64 0)),.s (.o (.lit .i64 0)),.s (.o (.fn 110))],[],λa H=>(⟨⟩,())⟩ (λx=>Da6 x (U8 x))
theorem vb5:l8 prog G 130 Ga1:=K3 (enc:=λx=>⟨[nlq,i 0,i 0,i 0,.fn 110 []],[]⟩) (λa H=>by kernel_rfl) (bd Kg5 tb3) λx=>Q3 (.s .p (.s .p (.b (.u da1.ls)))) [da1.pr] (.cons ob6 .nil) (mEq @ga9 (λr=>(Da6 x r).run) x)
def Xb9:List (Nat×Sum):=[(130,Ga1),(131,xc4)]
theorem Ub9:A4 prog G Xb9:=⟨vb5,sd4,trivial⟩
def Da3{α:Type}(kk:V7->α)(x:Sa8):α:=let t1:=(U8 ⟨⟩);(sl (Nat.beq t1.alt 1) (kk ⟨1⟩) (kk ⟨0⟩))
def ha6(x:Sa8):V7:=Da3 (λr=>r) x
def db4(x:Sa8)(r:V7):DT (b7×List c7):=(Ma1 r.alt 1 (.tup [],[]) .fail)
def gb6:Sum:=Sa6 ⟨[.s (.o .nil),.s (.o (.fn 110))],[],λa H=>(⟨⟩,())⟩ (λx=>db4 x (ha6 x))
theorem Yb0:l8 prog G 109 gb6:=K3 (enc:=λx=>⟨[nlq,.fn 110 []],[]⟩) (λa H=>by kernel_rfl) (bd Ig6 Ub9) λx=>Fa0 (mEq @Da3 (λr=>(db4 x r).run) x)
structure wa0 where
 n9:List Pt
def Na8(p:wa0)(s:Sa8):St:=⟨nlq::.fn 108 [.ptr 0 0 0 0]::ra 5 (i 0::i 0::ra 10 []),[bq 0 1 [[eL tX p.n9]]]⟩
def Ja2{α:Type}(k:Sa8->α)(e:Nat->α)(z:α)(p:wa0)(s:Sa8):α:=(e 1)
def na3(p:wa0)(s:Sa8):Stp Sa8:=Ja2 .next .exit .fail p s
def pa7:Lo wa0 Sa8:=⟨En tbN,1,Ee4,[1,0,1,4,4],[0,1,7,8],.p,[⟨.s (.o .nil)::.fn 108 [.o (.ptr 0 0 0 0)]::ru2 5 (.s (.o (.lit .i64 0))::.s (.o (.lit .i64 0))::ru2 10 []),[⟨0,1,true,some [[.c 4 (nL tX)]]⟩],λa H=>(⟨hLq tX H 0 0 0⟩,⟨⟩)⟩],na3,[(some 0,λp s=>upq (Na8 p s) [(9,b false)])],Na8⟩
theorem Jb9:pa7.Ok:=Lo.okq [] .nil λp s=>(.ofq @Ja2)
structure wa1 where
 alt:Nat
 n9:List Pt
def wa2{α:Type}(kk:wa1->α)(x:wa0):α:=let t1:=(lp (na3 (⟨rt tX x.n9⟩:wa0)) (⟨⟩:Sa8));(sl ((cnE tX x.n9)&&true) (sl (Nat.beq t1.1 1) (kk ⟨1,rt tX x.n9⟩) (kk ⟨0,[]⟩)) (kk ⟨0,[]⟩))
def wa3(x:wa0):wa1:=wa2 (λr=>r) x
def Wa2(x:wa0)(r:wa1):DT (b7×List c7):=(Ma1 r.alt 1 (i (-1),[bq 0 1 [[eL tX r.n9]]]) .fail)
def db5:Sum:=Sa6 ⟨[.s (.o .nil),.fn 108 [.o (.ptr 0 0 0 0)]],[⟨0,1,true,some [[.c 4 (nL tX)]]⟩],λa H=>(⟨hLq tX H 0 0 0⟩,())⟩ (λx=>Wa2 x (wa3 x))
theorem Vb0:l8 prog G 118 db5:=K3 (enc:=λx=>⟨[nlq,.fn 108 [.ptr 0 0 0 0]],[bq 0 1 [[eL tX x.n9]]]⟩) (λa H=>by kernel_rfl) (bd Pf6 ya0) λx=>Q3 (.s .p (.s (.s .p (.b (.u pa7.ls))) .p)) [pa7.pr] (.cons Jb9 .nil) (mEq @wa2 (λr=>(Wa2 x r).run) x)
def Ob6:List (Nat×Sum):=[(118,db5)]
theorem Kb0:A4 prog G Ob6:=⟨Vb0,trivial⟩
def sa3{α:Type}(kk:wa1->α)(x:wa0):α:=let t1:=(wa3 ⟨rt tX x.n9⟩);(sl ((cnE tX x.n9)&&true) (sl (Nat.beq t1.alt 1) (kk ⟨1,t1.n9⟩) (kk ⟨0,[]⟩)) (kk ⟨0,[]⟩))
def da2(x:wa0):wa1:=sa3 (λr=>r) x
def Ra3(x:wa0)(r:wa1):DT (b7×List c7):=(Ma1 r.alt 1 (nlq,[bq 0 1 [[eL tX r.n9]]]) .fail)
def Wa3:Sum:=Sa6 ⟨[.s (.o .nil),.fn 108 [.o (.ptr 0 0 0 0)]],[⟨0,1,true,some [[.c 4 (nL tX)]]⟩],λa H=>(⟨hLq tX H 0 0 0⟩,())⟩ (λx=>Ra3 x (da2 x))
theorem Ob7:l8 prog G 107 Wa3:=K3 (enc:=λx=>⟨[nlq,.fn 108 [.ptr 0 0 0 0]],[bq 0 1 [[eL tX x.n9]]]⟩) (λa H=>by kernel_rfl) (bd yg0 Kb0) λx=>Q3 .p [] .nil (mEq @sa3 (λr=>(Ra3 x r).run) x)
def nb5{α:Type}(kk:Sa8->α)(x:Sa8):α:=(kk ⟨⟩)
def lc8(x:Sa8):Sa8:=nb5 (λr=>r) x
def gb7(x:Sa8)(r:Sa8):DT (b7×List c7):=.ret (nlq,[])
def nb6:Sum:=Sa6 ⟨[.s (.o .nil)],[],λa H=>(⟨⟩,())⟩ (λx=>gb7 x (lc8 x))
theorem gc0:l8 prog G 111 nb6:=K3 (enc:=λx=>⟨[nlq],[]⟩) (λa H=>by kernel_rfl) (bd yg1 ya0) λx=>Q3 .p [] .nil (mEq @nb5 (λr=>(gb7 x r).run) x)
def wb3{α:Type}(kk:Sa8->α)(x:Unit):α:=(kk ⟨⟩)
def Ac8(x:Unit):Sa8:=wb3 (λr=>r) x
def tb4(r:Sa8):DT (b7×List c7):=.ret (nlq,[])
def wb4:Sum:=S7 kg9 (λx=>tb4 (Ac8 x))
theorem sc6:l8 prog G 75 wb4:=Zb2 (bd b75 ya0) λx=>Fa0 (mEq @wb3 (λr=>(tb4 r).run) x)
def Yd2:List (Nat×Sum):=[(39,Eb5),(106,Bb8),(75,wb4),(107,Wa3),(109,gb6),(111,nb6)]
theorem Pd4:A4 prog G Yd2:=⟨sb4,Ub2,sc6,Ob7,Yb0,gc0,trivial⟩
def tb5(x:Unit):ROq:=let t1:=(Va1 []);let t2:=(Pa2 []);let t4:=(da2 ⟨rt tX t2⟩);let t5:=(ha6 ⟨⟩);(sl (Va2 []) (sl (!t1) (some (nlq,[])) (sl (Pa3 []) (sl ((cnE tX t2)&&true) (sl (Nat.beq t4.alt 1) (sl (Nat.beq t5.alt 1) (some (nlq,[])) none) none) none) none)) none)
def sc7(x:Unit):PLq:=L9 (one (r1L tP)) (tb5 x)
def sc8(x:Unit):Bool:=okO (one (r1L tP)) (tb5 x)
def te2:Sum:=S7 kg9 (λx=>.guard (sc8 x) (.ret ((one (r1L tP)).enc (sc7 x),[])))
theorem Yd3:l8 prog G 87 te2:=Sa7 (bd b87 Pd4) (one (r1L tP)) (o:=tb5)
def wb5{α:Type}(kk:Sa8->α)(x:Addr×Nat):α:=(kk ⟨⟩)
def Ac9(x:Addr×Nat):Sa8:=wb5 (λr=>r) x
def tb6(r:Sa8):DT (b7×List c7):=.ret (.sl 0 0 0 0,[bq 66 4 []])
def wb6:Sum:=S7 cE0 (λx=>tb6 (Ac9 x))
theorem sc9:l8 prog G 75 wb6:=Zb2 (bd b75 ya0) λx=>Fa0 (mEq @wb5 (λr=>(tb6 r).run) x)
def Yd4:List (Nat×Sum):=[(39,Eb5),(106,Bb8),(75,wb6),(107,va8),(109,Ga0),(111,La1)]
theorem Pd5:A4 prog G Yd4:=⟨sb4,Ub2,sc9,Va7,gb2,nb3,trivial⟩
def tb7(x:Addr×Nat):ROq:=let t1:=(Va1 []);let t2:=(Pa2 []);let t4:=(N7 ⟨0,[],rt tX t2⟩);let t5:=(ca9 ⟨t4.ns0,app (bL tP (nb4 (slR tP t4.eh0 0 t4.ns0))) (s9 t4.eh0 t4.ns0)⟩);(sl (Va2 []) (sl (!t1) (some (nlq,[])) (sl (Pa3 []) (sl ((cnE tX t2)&&true) (sl (Nat.beq t4.alt 1) (sl (Bool.and (Nat.ble t4.ns0 room) (Bool.and (Nat.ble t4.ns0 (len t4.eh0)) (okS tP t4.eh0 0 t4.ns0))) (sl (Nat.beq t5.alt 1) (some (.sl 0 0 t5.ns0 0,[bq 66 4 t5.eh0])) none) none) none) none) none)) none)
def jd8(x:Addr×Nat):PLq:=L9 (one (r1L tP)) (tb7 x)
def jd9(x:Addr×Nat):Bool:=okO (one (r1L tP)) (tb7 x)
def te3:Sum:=S7 cE0 (λx=>.guard (jd9 x) (.ret ((one (r1L tP)).enc (jd8 x),[])))
theorem Yd5:l8 prog G 87 te3:=Sa7 (bd b87 Pd5) (one (r1L tP)) (o:=tb7)
theorem te4{σ:Type}{step:σ->Stp σ}{s:σ}{t:Nat}(h:step s=.exit t):lp step s=(t,s):=by rw[uf3];exact Jd0 h
theorem ie9:nb4 []=[]:=Qbf (Qc5 [])
theorem Ie4:lean []=[]:=by
 unfold lean;rw[Ve5,if_pos rfl,List.filter_nil,ie9];rfl
theorem Mg8(X:List Pt):da2 ⟨X⟩=⟨1,X⟩:=by
 unfold da2 sa3 wa3 wa2;simp only[l9,s7];rw[te4 (step:=na3 ⟨X⟩) (s:=⟨⟩) (t:=1) rfl];rfl
theorem zg6:ha6 ⟨⟩=⟨1⟩:=by
 have h1:K9 ⟨⟩=⟨1⟩:=by
  unfold K9 V8
  simp only
  rw[te4 (step:=R9 ⟨⟩) (s:=⟨⟩) (t:=1) rfl];rfl
 have h2:U8 ⟨⟩=⟨1⟩:=by
  unfold U8 ga9
  simp only
  rw[te4 (step:=P0 ⟨⟩) (s:=⟨⟩) (t:=1) (by
   unfold P0 Z9;simp only[h1]
   rfl)]
  rfl
 unfold ha6 Da3;simp only[h2];rfl
theorem Ie5(x:Unit):tb5 x=some (.v (.slice none 0 0),[]):=by
 have hn:([]:PLq).length<=1000000000:=by simp
 unfold tb5;simp only[l9,s7,Od8 hn,Od9 hn,Od6 hn,Od7 hn,Ve5,Mg8,zg6];rfl
theorem Ie6(x:Addr×Nat):Rd (one (r1L tP)) (tb7 x) (λr=>r=[]):=by
 have hn:([]:PLq).length<=1000000000:=by simp
 have hX:=se8 [];obtain⟨m,r,e1,e2,e3,e4⟩:=ie8 [] (pts []) hn (by omega)
 have hr:r=[]:=Qbf (by simpa using e4)
 subst hr;have hm:m=0:=by simpa using e2
 subst hm;obtain⟨m2,r2,k1,k2,k3⟩:=Pd2 [] 0 (by simp) hn
 have e1:N7 ⟨0,[],pts []⟩=_:=e1;unfold tb7;simp only[l9,s7,Od8 hn,Od9 hn,Od6 hn,Od7 hn,Ve5,e1];have hs:app (bL tP (nb4 (slR tP (bL tP []) 0 0))) (s9 (bL tP []) 0)=bL tP []:=by
  rw[show slR tP (bL tP []) 0 0=[] from rfl,ie9];rfl
 rw[hs,k1];have hfin:r2.take m2=[]:=by rw[k3];rfl
 exact Ve3 (P:=λr=>r=[]) k2 rfl hfin
def kd0(l:PLq):PLq:=lean l
def kd1(l:PLq):Bool:=decide (l.length<=1000000)
def te5:Sum:=S7 (M3 tP) λl=>.guard (kd1 l) (.ret ((one (r1L tP)).enc (kd0 l),[]))
theorem Yd6:l8 prog G 87 te5:=by
 refine lg0 (Rc3 re4 λa r hr=>?_) (Rc3 Yd3 λa r hr=>?_) (Rc3 Yd5 λa r hr=>?_)
 ·obtain⟨p,c⟩:=a;obtain⟨hg,hr⟩:=DT.run_guard_some hr;have hl:c.length<=1000000:=by
   have:=of_decide_eq_true hg
   simp only[List.length_cons] at this;omega
  rw[kg7 p c hl,kg8 p c hl];exact hr
 ·obtain⟨hg,hr⟩:=DT.run_guard_some hr;have e:sc7 a=lean []:=by unfold sc7;rw[Ie5,Ie4];exact ab7 _ rfl
  have e2:sc8 a=true:=by unfold sc8;rw[Ie5];exact tb2 (r:=[]) _ rfl
  rw[e,e2];exact hr
 ·obtain⟨hg,hr⟩:=DT.run_guard_some hr;have e:jd8 a=lean []:=by rw[Ie4];exact (Ie6 a).p
  rw[e,show jd9 a=true from (Ie6 a).g]
  exact hr
structure rf9 where
 xe2:LPq
 ka0:Int
structure sf0 where
 na5:Int
@[reducible] noncomputable def Wc1:Sum:=ba9 (En tbN) Yf5
theorem Pd6:l8 prog G 112 Wc1:=bd Ig8 ya0
structure df6 where
 Aa9:PLq
 ka0:Int
 (Ng8 Ng9:PLq)
 Cg6:LPq
 (Og8 Og9:Int)
structure df7 where
 ph:Nat
 cc9:PLq
 na5:Int
 vb1:Nat
 eh3:List (List b7)
structure df8 where
 Yb2:Int
structure kd2 where
 ph:Nat
 (T7 Og2:PLq)
 Cg7:LPq
 Pg0:Int
 vb1:Nat
 eh3:List (List b7)
structure sf1 where
 Cg8:LPq
 Og0:Int
 m8:PLq
structure Cd1 where
 ph:Nat
 Cg2:Int
 Lb5:LPq
end Go.Ev.Ce
