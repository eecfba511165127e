/- Own work. -/
import Derived.Test.YtigadclidanicaaGreatEvOaX1
set_option linter.all false
noncomputable section
def Qka:=@Bool.and_self
def Qkb:=@List.take_length
def Qkc:=@List.ext_getElem
def Qkd:=@List.find?_eq_none
def Qke:=@List.findIdx_lt_length
def Qkf:=@List.exists_cons_of_ne_nil
def Qkg:=@Bool.not_true
def Qkh:=@List.take_add_one
def Qki:=@List.length_eq_zero_iff
def Qkj:=@Bool.eq_iff_iff
def Qkk:=@List.length_filter_le
def Qkl:=@Bool.true_and
def Qkm:=@List.length_pos_iff
def Qkn:=@List.getElem_range
namespace Go.Ev.Ce
open Go Go.Ev Go.Ev.L Go.Proofs
theorem Xe2(ls:LPq)(hn:ls.length<=1000000000)(hl:ls.flatten.length<=1000000000):F4 ls=if ls.flatten=[] then ⟨1,0,[]⟩ else ⟨2,ls.flatten.length,bL tP ls.flatten⟩:=by
 unfold F4 va2;simp only[j8,o7];obtain⟨m,hm⟩:=qe8 ls hn hl;rw[hm];by_cases h0:ls.flatten=[]
 ·obtain⟨s,hs⟩:=Le1 ls hn h0;rw[if_pos h0,hs];rw[show (⟨(ls.flatten.length:Int),m⟩:E5)=⟨0,m⟩ by rw[h0];rfl]
  rfl
 ·obtain⟨m',hm'⟩:=qe9 ls hn;rw[if_neg h0];simp only[Int.toNat_natCast];rw[hm'];have h1:0<ls.flatten.length:=Qkm.2 h0;have e1:((ls.flatten.length:Int)==0)=false:=by rw[beq_eq_false_iff_ne];omega
  have e2:Bool.and (decide ((0:Int)<(ls.flatten.length:Int))) (Nat.ble (ls.flatten.length*32) room)=true:=by
   rw[mc3 (by omega),decide_eq_true (by omega)]
   rfl
  rw[e1,e2];rfl
theorem Ne7(r:PLq)(p:Pln)(hr:r.length<=1000000):F4 [r,[p]]=⟨2,(r++[p]).length,bL tP (r++[p])⟩:=by
 have e:[r,[p]].flatten=r++[p]:=by simp
 rw[Xe2 [r,[p]] (by simp) (by rw[e,Qdc];simp only[List.length_singleton];omega),e,if_neg (by simp)]
theorem Ef3(r:PLq)(p:Pln):slR tP (bL tP (r++[p])) 0 (r++[p]).length=r++[p]:=Oc9 tP _
theorem Ef4(r:PLq)(p:Pln):okS tP (bL tP (r++[p])) 0 (r++[p]).length=true:=Pc0 tP _
theorem vd5{p:Pln}(h:Bd p):rb7 p=X9 p:=by
 unfold rb7 zc5 X9
 simp only
 have:=h.x1;have:=h.x2;have:=h.y1;have:=h.y2;have:=h.z1;have:=h.z2;have:=h.b1;have:=h.b2
 rw[ja8 (by omega) (by omega),ja8 (by omega) (by omega),ja8 (by omega) (by omega),ja8 (by omega) (by omega)]
 simp only[Int.zero_sub]
def phL(O:LPq):Nat:=match O with
 |[]=>0
 |_::_=>1
theorem Ab8(O:LPq)(c:PLq):phL (O++[c])=1:=by cases O<;>rfl
theorem Ud3(O:LPq)(c:PLq):app (bL tLq O) [[eL tP c]]=bL tLq (O++[c]):=ob5 tLq O [c]
theorem jd2(O:LPq)(h:O.length<=1000000):(Nat.beq O.length (len (bL tLq O))&&Nat.ble ((O.length+1)*24) room)=true:=by
 rw[O3,Qip,Qkl];exact Nat.ble_eq_true_of_le (by unfold room;omega)
theorem Xe3(x fs:PLq)(j:Nat):Va2 x fs (j+1)=Va2 x fs j++(if 0<(fb4 x fs j).length then [fb4 x fs j] else []):=by
 unfold Va2;rw[List.range_succ,List.map_append,Qiu];congr 1;by_cases h:0<(fb4 x fs j).length
 ·rw[if_pos h];simp[h]
 ·rw[if_neg h];simp[h]
theorem ue0(x fs:PLq)(j:Nat):(Va2 x fs j).length<=j:=by
 unfold Va2
 have:=Qkk (λc:PLq=>decide (0<c.length)) ((List.range j).map (fb4 x fs))
 simpa using this
theorem of7:Nat.beq 2 1=false:=rfl
theorem of8:Nat.beq 2 2=true:=rfl
theorem Ef5(x fs q:PLq)(xs:LPq)(a c:Int)(O:LPq)(hf:∀p∈fs,okp p=true)(hfl:fs.length<=1000)(hO:O.length<=900000) :
  ∃t s,lp (A4 ⟨fs,(fs.length:Int),q,fs,xs,a,c⟩) ⟨phL O,x,0,O.length,bL tLq O⟩=(t,s) /\
   ((Oa9 x fs=true->t=phL (O++Va2 x fs fs.length)*2+2/\s.K9=(O++Va2 x fs fs.length).length/\s.eh3=bL tLq (O++Va2 x fs fs.length))/\(Oa9 x fs=false->t=1\/t=3)):=by
 refine va3 (step:=A4 ⟨fs,(fs.length:Int),q,fs,xs,a,c⟩) (mk:=λj (O':LPq)=>(⟨phL O',M3 x fs j,(j:Int),O'.length,bL tLq O'⟩:o9)) fs.length
  (λj O'=>j<=fs.length/\O'=O++Va2 x fs j/\∀i,i<j->(M3 x fs i).length<48)
  (λt s=>(Oa9 x fs=true->t=phL (O++Va2 x fs fs.length)*2+2/\s.K9=(O++Va2 x fs fs.length).length/\s.eh3=bL tLq (O++Va2 x fs fs.length))/\(Oa9 x fs=false->t=1\/t=3)) (by omega)
  (λj O' hj hi=>?_) (λj O' hj hi=>?_) 0 O ⟨Qbw _,by simp[Va2],λi hi=>absurd hi (Qjq i)⟩
 ·obtain⟨_,hO',hr⟩:=hi;have hn:W ((j:Int)+1)=((j+1:Nat):Int):=D0 hj (by omega)
  have hp:=hf _ (S1 tP hj);have hb:=gd5 hp;have hOl:O'.length<=1000000:=by
   rw[hO',Qdc]
   have:=ue0 x fs j
   omega
  have hroom:=jd2 O' hOl;by_cases h48:(M3 x fs j).length<48
  ·have e1:decide (((M3 x fs j).length:Int)>=48)=false:=decide_eq_false (by omega)
   have c1:=Ne7 (M3 x fs j) (X9 (gL tP fs j)) (by omega)
   have c2:=Ne7 (M3 x fs j) (gL tP fs j) (by omega)
   have l1:W7 (M3 x fs j++[X9 (gL tP fs j)])=true:=decide_eq_true (by rw[Qdc];simp only[List.length_singleton];omega)
   have l2:W7 (M3 x fs j++[gL tP fs j])=true:=decide_eq_true (by rw[Qdc];simp only[List.length_singleton];omega)
   have m1:W6 (M3 x fs j++[X9 (gL tP fs j)])=fb4 x fs j:=rfl;have m2:W6 (M3 x fs j++[gL tP fs j])=M3 x fs (j+1):=rfl;have hnew:O++Va2 x fs (j+1)=O'++(if 0<(fb4 x fs j).length then [fb4 x fs j] else []):=by rw[Xe3,<- Qim,<- hO']
   have hnx : ∀ {s : o9}, s = ⟨phL (O ++ Va2 x fs (j + 1)), M3 x fs (j + 1), ((j + 1 : Nat) : Int), (O ++ Va2 x fs (j + 1)).length, bL tLq (O ++ Va2 x fs (j + 1))⟩ →
     Nx (.next s) (λt=>(Oa9 x fs=true->t=phL (O++Va2 x fs fs.length)*2+2/\(⟨phL O',M3 x fs j,(j:Int),O'.length,bL tLq O'⟩:o9).K9=(O++Va2 x fs fs.length).length/\(⟨phL O',M3 x fs j,(j:Int),O'.length,bL tLq O'⟩:o9).eh3=bL tLq (O++Va2 x fs fs.length))/\(Oa9 x fs=false->t=1\/t=3))
      (λs=>∃O'',s=(⟨phL O'',M3 x fs (j+1),((j+1:Nat):Int),O''.length,bL tLq O''⟩:o9)/\(j+1<=fs.length/\O''=O++Va2 x fs (j+1)/\∀i,i<j+1->(M3 x fs i).length<48)) :=
    λ{s} hs=>.nx ⟨_,hs,hj,rfl,λi hi=>by
     by_cases e:i=j
     ·subst e;exact h48
     ·exact hr i (by omega)⟩
   by_cases hc:0<(fb4 x fs j).length
   ·have e2:decide (((fb4 x fs j).length:Int)>0)=true:=decide_eq_true (by omega)
    have e3:Nat.beq (fb4 x fs j).length 0=false:=by
     cases h:(fb4 x fs j).length with
     |zero=>omega
     |succ n=>rfl
    rw[if_pos hc] at hnew;cases O' with
    |nil =>
     have e:A4 ⟨fs,(fs.length:Int),q,fs,xs,a,c⟩ ⟨phL [],M3 x fs j,(j:Int),([]:LPq).length,bL tLq []⟩=.next ⟨1,M3 x fs (j+1),((j+1:Nat):Int),1,[[eL tP (fb4 x fs j)]]⟩:=by
      show K5 Stp.next Stp.exit Stp.fail _ _=_;simp only[K5,Int.toNat_natCast,j8,B8,vd5 hb,c1,c2,hn,Ef3,Ef4,l1,l2,m1,m2,of7,of8,e1,e2,e3,i6,A6,Qka,Qis];rw[btD (s8 hj),bt (j9 hj)]
     rw[e];exact hnx (by rw[hnew];rfl)
    |cons o os =>
     have e:A4 ⟨fs,(fs.length:Int),q,fs,xs,a,c⟩ ⟨phL (o::os),M3 x fs j,(j:Int),(o::os).length,bL tLq (o::os)⟩=.next ⟨1,M3 x fs (j+1),((j+1:Nat):Int),(o::os).length+1,bL tLq (o::os++[fb4 x fs j])⟩:=by
      show K6 Stp.next Stp.exit Stp.fail _ _=_;simp only[K6,Int.toNat_natCast,j8,B8,vd5 hb,c1,c2,hn,Ef3,Ef4,l1,l2,m1,m2,of7,of8,e1,e2,e3,hroom,Ud3,i6,A6,Qka,Qis];rw[btD (s8 hj),bt (j9 hj)]
     rw[e];exact hnx (by rw[hnew,Ab8,Qdc];rfl)
   ·have e2:decide (((fb4 x fs j).length:Int)>0)=false:=decide_eq_false (by omega)
    rw[if_neg hc,Qbv] at hnew;cases O' with
    |nil =>
     have e:A4 ⟨fs,(fs.length:Int),q,fs,xs,a,c⟩ ⟨phL [],M3 x fs j,(j:Int),([]:LPq).length,bL tLq []⟩=.next ⟨0,M3 x fs (j+1),((j+1:Nat):Int),0,[]⟩:=by
      show K5 Stp.next Stp.exit Stp.fail _ _=_;simp only[K5,Int.toNat_natCast,j8,B8,vd5 hb,c1,c2,hn,Ef3,Ef4,l1,l2,m1,m2,of7,of8,e1,e2,i6,A6,Qka,Qis];rw[btD (s8 hj),bt (j9 hj)]
     rw[e];exact hnx (by rw[hnew];rfl)
    |cons o os =>
     have e:A4 ⟨fs,(fs.length:Int),q,fs,xs,a,c⟩ ⟨phL (o::os),M3 x fs j,(j:Int),(o::os).length,bL tLq (o::os)⟩=.next ⟨1,M3 x fs (j+1),((j+1:Nat):Int),(o::os).length,bL tLq (o::os)⟩:=by
      show K6 Stp.next Stp.exit Stp.fail _ _=_;simp only[K6,Int.toNat_natCast,j8,B8,vd5 hb,c1,c2,hn,Ef3,Ef4,l1,l2,m1,m2,of7,of8,e1,e2,i6,A6,Qka,Qis];rw[btD (s8 hj),bt (j9 hj)]
     rw[e];exact hnx (by rw[hnew];rfl)
  ·have e1:decide (((M3 x fs j).length:Int)>=48)=true:=decide_eq_true (by omega)
   have hno:Oa9 x fs=false:=by
    cases h:Oa9 x fs with
    |false=>rfl
    |true =>
     have:=Qcb.1 h j (Qca.2 hj)
     exact absurd (by simpa using this) h48
   have hex:∀{t:Nat},(t=1\/t=3)->(Oa9 x fs=true->t=phL (O++Va2 x fs fs.length)*2+2/\(⟨phL O',M3 x fs j,(j:Int),O'.length,bL tLq O'⟩:o9).K9=(O++Va2 x fs fs.length).length/\(⟨phL O',M3 x fs j,(j:Int),O'.length,bL tLq O'⟩:o9).eh3=bL tLq (O++Va2 x fs fs.length))/\(Oa9 x fs=false->t=1\/t=3):=λh=>⟨λh'=>(by rw[hno] at h';cases h'),λ_=>h⟩
   cases O' with
   |nil =>
    have e:A4 ⟨fs,(fs.length:Int),q,fs,xs,a,c⟩ ⟨phL [],M3 x fs j,(j:Int),([]:LPq).length,bL tLq []⟩=.exit 1:=by
     show K5 Stp.next Stp.exit Stp.fail _ _=_;simp only[K5,e1,i6];rw[btD (s8 hj),bt (j9 hj)]
    rw[e];exact .ex (hex (.inl rfl))
   |cons o os =>
    have e:A4 ⟨fs,(fs.length:Int),q,fs,xs,a,c⟩ ⟨phL (o::os),M3 x fs j,(j:Int),(o::os).length,bL tLq (o::os)⟩=.exit 3:=by
     show K6 Stp.next Stp.exit Stp.fail _ _=_;simp only[K6,e1,i6];rw[btD (s8 hj),bt (j9 hj)]
    rw[e];exact .ex (hex (.inr rfl))
 ·obtain⟨h1,hO',hr⟩:=hi;have hje:j=fs.length:=by omega
  subst hje;have hyes:Oa9 x fs=true:=Qcb.2 λi hi=>by simpa using hr i (Qca.1 hi)
  refine⟨phL O'*2+2,?_,λ_=>?_,λh=>(by rw[hyes] at h;cases h)⟩
  ·cases O' with
   |nil =>
    show K5 Stp.next Stp.exit Stp.fail _ _=_;simp only[K5];rw[bfD (E2 (Qid _))];rfl
   |cons o os =>
    show K6 Stp.next Stp.exit Stp.fail _ _=_;simp only[K6];rw[bfD (E2 (Qid _))];rfl
  ·rw[<- hO'];exact⟨rfl,rfl,rfl⟩
theorem Xe4{α β:Type}(t:Ty α)(l:List α)(f:α->List β){j:Nat}(hj:j<l.length):(l.take (j+1)).flatMap f=(l.take j).flatMap f++f (gL t l j):=by
 rw[Qkh,Qaa hj,List.flatMap_append];simp[gL,Qda,Qaa hj]
theorem Xe5{α:Type}(t:Ty α)(l:List α)(f:α->Bool){j:Nat}(hj:j<l.length):(l.take (j+1)).all f=((l.take j).all f&&f (gL t l j)):=by
 rw[Qkh,Qaa hj,List.all_append];simp[gL,Qda,Qaa hj]
theorem of9{q x:PLq}(h:(lean q).length<=48):(Va3 q x).length<=48:=by
 unfold Va3;split
 ·simp
 ·exact Qai (ue0 _ _ _) h
theorem ue1{q:PLq}(h:(lean q).length<=48):∀l:LPq,(l.flatMap (Va3 q)).length<=48*l.length
 |[]=>by simp
 |x::l=>by
  have:=ue1 h l
  have:=of9 (x:=x) h
  simp only[List.flatMap_cons,Qdc,List.length_cons];omega
structure W0(q:PLq)(xs:LPq)(t:Nat)(s:C0):Prop where
 y:xs.all (kb6 q)=true->t=phL (xs.flatMap (Va3 q))*3+3/\s.K9=(xs.flatMap (Va3 q)).length/\s.eh3=bL tLq (xs.flatMap (Va3 q))
 n:xs.all (kb6 q)=false->t=1\/t=2\/t=4\/t=5
theorem nbA:Nat.beq 1 2=false/\Nat.beq 1 3=false/\Nat.beq 1 4=false/\Nat.beq 1 1=true/\Nat.beq 3 1=false/\Nat.beq 3 2=false/\Nat.beq 3 3=true/\Nat.beq 4 1=false/\Nat.beq 4 2=false/\Nat.beq 4 3=false/\Nat.beq 4 4=true/\Nat.beq 2 3=false/\Nat.beq 2 4=false:=⟨rfl,rfl,rfl,rfl,rfl,rfl,rfl,rfl,rfl,rfl,rfl,rfl,rfl⟩
theorem Ef6(q:PLq)(xs:LPq)(hq:q.length<=1000000)(hxs:xs.length<=10000)(hx:∀x∈xs,x.length<=1000000)(hf:∀p∈lean q,okp p=true)(hfl:(lean q).length<=48) :
  ∃t s,lp (F7 ⟨(xs.length:Int)⟩) ⟨0,q,lean q,xs,0,0,[]⟩=(t,s)/\W0 q xs t s:=by
 refine va3 (step:=F7 ⟨(xs.length:Int)⟩) (mk:=λj (O':LPq)=>(⟨phL O',q,lean q,xs,(j:Int),O'.length,bL tLq O'⟩:C0)) xs.length
  (λj O'=>j<=xs.length/\O'=(xs.take j).flatMap (Va3 q)/\(xs.take j).all (kb6 q)=true) (W0 q xs) (by omega)
  (λj O' hj hi=>?_) (λj O' hj hi=>?_) 0 [] ⟨Qbw _,by simp,by simp⟩
 ·obtain⟨_,hO',hr⟩:=hi;have hn:W ((j:Int)+1)=((j+1:Nat):Int):=D0 hj (by omega)
  have hxl:=hx _ (S1 tLq hj);have hOl:O'.length<=800000:=by
   rw[hO']
   have:=ue1 hfl (xs.take j)
   have:=List.length_take_le j xs
   omega
  have hroom:=jd2 O' (by omega)
  have hA:=vd2 (a:=gL tLq xs j) (c:=q) (by omega) (by omega)
  have gA:=vd3 (a:=gL tLq xs j) (c:=q) (by omega) (by omega)
  have hnew:=Xe4 tLq xs (Va3 q) hj;have hall:=Xe5 tLq xs (kb6 q) hj;rw[<- hO'] at hnew;rw[hr,Qkl] at hall;have hfull:∀{v:Bool},kb6 q (gL tLq xs j)=v->v=false->xs.all (kb6 q)=false:=λ{v} h hv=>by
   rw[List.all_eq_false];exact⟨_,S1 tLq hj,by rw[h,hv];decide⟩
  have hnx : kb6 q (gL tLq xs j) = true → ∀ {s : C0}, s = ⟨phL ((xs.take (j + 1)).flatMap (Va3 q)), q, lean q, xs, ((j + 1 : Nat) : Int), ((xs.take (j + 1)).flatMap (Va3 q)).length, bL tLq ((xs.take (j + 1)).flatMap (Va3 q))⟩ →
    Nx (.next s) (λt=>W0 q xs t (⟨phL O',q,lean q,xs,(j:Int),O'.length,bL tLq O'⟩:C0))
     (λs=>∃O'',s=(⟨phL O'',q,lean q,xs,((j+1:Nat):Int),O''.length,bL tLq O''⟩:C0)/\(j+1<=xs.length/\O''=(xs.take (j+1)).flatMap (Va3 q)/\(xs.take (j+1)).all (kb6 q)=true)) :=
   λh {s} hs=>.nx ⟨_,hs,hj,rfl,by rw[hall,h]⟩
  have hex:kb6 q (gL tLq xs j)=false->∀{t:Nat},(t=1\/t=2\/t=4\/t=5)->W0 q xs t (⟨phL O',q,lean q,xs,(j:Int),O'.length,bL tLq O'⟩:C0):=λh {t} ht =>
   ⟨λh'=>(by rw[hfull h rfl] at h';cases h'),λ_=>ht⟩
  have hgx:inB (j:Int) xs.length=true:=j9 hj;have hlt:((j:Int)<(xs.length:Int)):=s8 hj;generalize hX:gL tLq xs j=x at *
  obtain⟨z1,z2,z3,z4,z5,z6,z7,z8,z9,zA,zB,zC,zD⟩:=nbA;cases hap:apart x q with
  |true =>
   have hp:Va3 q x=[x]:=by unfold Va3;rw[hap,if_pos rfl]
   have hro:kb6 q x=true:=by unfold kb6;rw[hap];rfl
   rw[hap] at hA;rw[hp] at hnew;cases O' with
   |nil =>
    have e:F7 ⟨(xs.length:Int)⟩ ⟨phL [],q,lean q,xs,(j:Int),([]:LPq).length,bL tLq []⟩=.next ⟨1,q,lean q,xs,((j+1:Nat):Int),1,[[eL tP x]]⟩:=by
     show C9 Stp.next Stp.exit Stp.fail _ _=_;simp only[C9,Int.toNat_natCast,j8,B8,hX,hA,gA,hn,hgx,i6];rw[btD hlt]
    rw[e];exact hnx hro (by rw[hnew];rfl)
   |cons o os =>
    have e:F7 ⟨(xs.length:Int)⟩ ⟨phL (o::os),q,lean q,xs,(j:Int),(o::os).length,bL tLq (o::os)⟩=.next ⟨1,q,lean q,xs,((j+1:Nat):Int),(o::os).length+1,bL tLq (o::os++[x])⟩:=by
     show F9 Stp.next Stp.exit Stp.fail _ _=_;simp only[F9,Int.toNat_natCast,j8,B8,hX,hA,gA,hn,hgx,hroom,Ud3,i6];rw[btD hlt]
    rw[e];exact hnx hro (by rw[hnew,Ab8,Qdc];rfl)
  |false =>
   have hp:Va3 q x=Va2 x (lean q) (lean q).length:=by unfold Va3;rw[hap,if_neg (by decide)]
   have hro:kb6 q x=Oa9 x (lean q):=by unfold kb6;rw[hap];rfl
   rw[hap] at hA;rw[hp] at hnew;obtain⟨t,s,hlp,hy,hno⟩:=Ef5 x (lean q) q xs (xs.length:Int) (j:Int) O' hf (by omega) (by omega)
   cases hr48:Oa9 x (lean q) with
   |true =>
    obtain⟨h1,h2,h3⟩:=hy hr48;rw[<- hnew] at h1 h2 h3;cases O' with
    |nil =>
     have hlp:lp (A4 ⟨lean q,((lean q).length:Int),q,lean q,xs,(xs.length:Int),(j:Int)⟩) ⟨0,x,0,0,[]⟩=(t,s):=hlp;by_cases hO:(xs.take (j+1)).flatMap (Va3 q)=[]
     ·rw[hO] at h1;have h1:t=2:=h1;subst h1;have e:F7 ⟨(xs.length:Int)⟩ ⟨phL [],q,lean q,xs,(j:Int),([]:LPq).length,bL tLq []⟩=.next ⟨0,q,lean q,xs,((j+1:Nat):Int),0,[]⟩:=by
       show C9 Stp.next Stp.exit Stp.fail _ _=_;simp only[C9,Int.toNat_natCast,j8,B8,o7,hX,hA,gA,hn,hgx,hlp,of7,of8,i6,A6,Qka];rw[btD hlt]
      rw[e];exact hnx (hro.trans hr48) (by rw[hO];rfl)
     ·obtain⟨o,os,hO⟩:=Qkf hO;rw[hO] at h1 h2 h3;have h1:t=4:=h1;subst h1;have e:F7 ⟨(xs.length:Int)⟩ ⟨phL [],q,lean q,xs,(j:Int),([]:LPq).length,bL tLq []⟩=.next ⟨1,q,lean q,xs,((j+1:Nat):Int),s.K9,s.eh3⟩:=by
       show C9 Stp.next Stp.exit Stp.fail _ _=_;simp only[C9,Int.toNat_natCast,j8,B8,o7,hX,hA,gA,hn,hgx,hlp,z8,z9,zA,zB,i6,A6,Qka];rw[btD hlt]
      rw[e];exact hnx (hro.trans hr48) (by rw[h2,h3,hO];rfl)
    |cons o os =>
     have hlp:lp (A4 ⟨lean q,((lean q).length:Int),q,lean q,xs,(xs.length:Int),(j:Int)⟩) ⟨1,x,0,(o::os).length,bL tLq (o::os)⟩=(t,s):=hlp;have h1:t=4:=by rw[h1,hnew];rfl
     subst h1;have e:F7 ⟨(xs.length:Int)⟩ ⟨phL (o::os),q,lean q,xs,(j:Int),(o::os).length,bL tLq (o::os)⟩=.next ⟨1,q,lean q,xs,((j+1:Nat):Int),s.K9,s.eh3⟩:=by
      show F9 Stp.next Stp.exit Stp.fail _ _=_;simp only[F9,Int.toNat_natCast,j8,B8,o7,hX,hA,gA,hn,hgx,hlp,z8,z9,zA,zB,i6,A6,Qka];rw[btD hlt]
     rw[e];exact hnx (hro.trans hr48) (by rw[h2,h3,hnew];rfl)
   |false =>
    have ht:=hno hr48;cases O' with
    |nil =>
     have hlp:lp (A4 ⟨lean q,((lean q).length:Int),q,lean q,xs,(xs.length:Int),(j:Int)⟩) ⟨0,x,0,0,[]⟩=(t,s):=hlp
     rcases ht with rfl|rfl
     ·have e : F7 ⟨(xs.length : Int)⟩ ⟨phL [], q, lean q, xs, (j : Int), ([] : LPq).length, bL tLq []⟩ = .exit 1 := by
       show C9 Stp.next Stp.exit Stp.fail _ _=_;simp only[C9,Int.toNat_natCast,j8,B8,o7,hX,hA,gA,hn,hgx,hlp,z4,i6,A6,Qka];rw[btD hlt]
      rw[e];exact .ex (hex (hro.trans hr48) (by simp))
     ·have e : F7 ⟨(xs.length : Int)⟩ ⟨phL [], q, lean q, xs, (j : Int), ([] : LPq).length, bL tLq []⟩ = .exit 2 := by
       show C9 Stp.next Stp.exit Stp.fail _ _=_;simp only[C9,Int.toNat_natCast,j8,B8,o7,hX,hA,gA,hn,hgx,hlp,z5,z6,z7,i6,A6,Qka];rw[btD hlt]
      rw[e];exact .ex (hex (hro.trans hr48) (by simp))
    |cons o os =>
     have hlp:lp (A4 ⟨lean q,((lean q).length:Int),q,lean q,xs,(xs.length:Int),(j:Int)⟩) ⟨1,x,0,(o::os).length,bL tLq (o::os)⟩=(t,s):=hlp
     rcases ht with rfl|rfl
     ·have e : F7 ⟨(xs.length : Int)⟩ ⟨phL (o :: os), q, lean q, xs, (j : Int), (o :: os).length, bL tLq (o :: os)⟩ = .exit 4 := by
       show F9 Stp.next Stp.exit Stp.fail _ _=_;simp only[F9,Int.toNat_natCast,j8,B8,o7,hX,hA,gA,hn,hgx,hlp,z4,i6,A6,Qka];rw[btD hlt]
      rw[e];exact .ex (hex (hro.trans hr48) (by simp))
     ·have e : F7 ⟨(xs.length : Int)⟩ ⟨phL (o :: os), q, lean q, xs, (j : Int), (o :: os).length, bL tLq (o :: os)⟩ = .exit 5 := by
       show F9 Stp.next Stp.exit Stp.fail _ _=_;simp only[F9,Int.toNat_natCast,j8,B8,o7,hX,hA,gA,hn,hgx,hlp,z5,z6,z7,i6,A6,Qka];rw[btD hlt]
      rw[e];exact .ex (hex (hro.trans hr48) (by simp))
 ·obtain⟨h1,hO',hr⟩:=hi;have hje:j=xs.length:=by omega
  subst hje;rw[Qkb] at hO' hr;refine⟨phL O'*3+3,?_,λ_=>?_,λh=>(by rw[hr] at h;cases h)⟩
  ·cases O' with
   |nil =>
    show C9 Stp.next Stp.exit Stp.fail _ _=_;simp only[C9];rw[bfD (E2 (Qid _))];rfl
   |cons o os =>
    show F9 Stp.next Stp.exit Stp.fail _ _=_;simp only[F9];rw[bfD (E2 (Qid _))];rfl
  ·rw[<- hO'];exact⟨rfl,rfl,rfl⟩
def ua8(x:LPq)(y:PLq):LPq×Int:=match T6 x y with
 |some r=>(r,0)
 |none=>([],9)
theorem Lf8{α:Type}(t:Ty α)(l:List α)(n:Int):(two (r1L t) r1I).rd (.tup [eL t l,i n],[])=some (l,n):=by
 have h:(r1L t).rd [] (eL t l)=some l:=by
  show Bool.rec (motive:=λ_=>Option (List α)) none (some (rt t l)) (Bool.and (Nat.beq t.es t.es) (okE t l))=_
  rw[j8,B8,Qip];rfl
 simp only[two,h];rfl
theorem fg5{α:Type}(t:Ty α)(l:List α)(n:Int):(two (r1L t) r1I).rd (.tup [.tree t.es l.length (λk=>g8 (bL t l) (0+k)),i n],[])=some (l,n):=by
 have h:(r1L t).rd [] (.tree t.es l.length (λk=>g8 (bL t l) (0+k)))=some l:=by
  show Bool.rec (motive:=λ_=>Option (List α)) none (some (lsL t l.length λk=>g8 (bL t l) (0+k))) (Bool.and (Nat.beq t.es t.es) (okL t l.length λk=>g8 (bL t l) (0+k)))=_
  rw[wc6 t (l:=l) rfl λk hk=>by rw[Qar,ba8 t hk],jc2 t (f:=λk=>gL t l k) λk hk=>by rw[Qar,ba8 t hk],Qip]
  rfl
 simp only[two,h];rfl
theorem fg6{α:Type}(t:Ty α)(k:Nat)(l:List α)(n:Int):(two (r1L t) r1I).rd (.tup [.sl 0 0 l.length 0,i n],[⟨k,t.es,bL t l,true,false,0⟩])=some (l,n):=by
 have h:(r1L t).rd [⟨k,t.es,bL t l,true,false,0⟩] (.sl 0 0 l.length 0)=some l:=Tf3 t k l;simp only[two,h];rfl
theorem Gd7(x:LPq)(y:PLq)(hy:y.length<=1000000)(hx:x.length<=10000)(hxl:∀c∈x,c.length<=1000000):Rd (two (r1L tLq) r1I) (Ma4 x y) (λr=>r=ua8 x y):=by
 have hF:=gd9 (c:=y) (by omega);have gF:=hd4 (c:=y) (by omega)
 have hL:W6 y=lean y:=rfl;have gL':W7 y=true:=decide_eq_true hy;unfold Ma4 ua8 T6;simp only[j8,B8,o7,hF,gF,hL,gL',i6,Qka];cases hf:ful y with
 |false=>exact⟨_,(x,0),rfl,Lf8 tLq x 0,rfl⟩
 |true =>
  have hc:=(ca8.1 hf).1;have hfl:(lean y).length<=48:=by
   have:=Zc9 y
   rw[beq_iff_eq,Ua3] at hc;omega
  obtain⟨t,s,hlp,hw⟩:=Ef6 y x hy hx hxl (λp hp=>Zb7 hc p (Qbj _ (gc9 hp))) hfl
  simp only[hlp,Qkg,A6,if_true];cases hr:x.all (kb6 y) with
  |false =>
   rcases hw.n hr with rfl|rfl|rfl|rfl<;>exact⟨_,([],9),rfl,rfl,rfl⟩
  |true =>
   obtain⟨h1,h2,h3⟩:=hw.y hr;by_cases hO:x.flatMap (Va3 y)=[]
   ·rw[hO] at h1 ⊢;have h1:t=3:=h1;subst h1;exact⟨_,([],0),rfl,rfl,rfl⟩
   ·have h1 : t = 6 := by
     obtain⟨o,os,hO⟩:=Qkf hO;rw[h1,hO];rfl
    subst h1;rw[h2,h3];by_cases h200:(x.flatMap (Va3 y)).length<=200
    ·rw[decide_eq_true h200];refine⟨_,(x.flatMap (Va3 y),0),?_,fg5 tLq _ 0,rfl⟩
     have:decide (((x.flatMap (Va3 y)).length:Int)>200)=false:=decide_eq_false (by omega)
     rw[this];rfl
    ·rw[decide_eq_false h200]
     have:decide (((x.flatMap (Va3 y)).length:Int)>200)=true:=decide_eq_true (by omega)
     rw[this];exact⟨_,([],9),rfl,rfl,rfl⟩
theorem Hc8{x:LPq}{y:PLq}(hy:y.length<=1000000)(hx:x.length<=10000)(hxl:∀c∈x,c.length<=1000000):ha1 x y=ua8 x y:=(Gd7 x y hy hx hxl).p
theorem Xe6{x:LPq}{y:PLq}(hy:y.length<=1000000)(hx:x.length<=10000)(hxl:∀c∈x,c.length<=1000000):gb5 x y=true:=(Gd7 x y hy hx hxl).g
def schk(s:LPq):Int:=if (s.length:Int)>16 then 2 else match s.find? λc=>chk c != 0 with
 |some c=>chk c
 |none=>0
theorem Ne8{α:Type}(t:Ty α)(l:List α)(f:α->Bool)(h:l.any f=true):l.find? f=some (gL t l (l.findIdx f)):=by
 have hlt:l.findIdx f<l.length:=Qke.2 (Qiaa.1 h);rw[List.find?_eq_some_iff_getElem];refine⟨?_,l.findIdx f,hlt,?_,λj hj=>?_⟩
 ·simp only[gL,Qda,Qaa hlt,Option.getD_some];exact List.findIdx_getElem (w:=hlt)
 ·simp[gL,Qda,Qaa hlt]
 ·have:=List.not_of_lt_findIdx hj
  simpa using this
theorem Ud4(s:LPq)(hs:s.length<=1000000)(hl:∀c∈s,c.length<=1000000):eb7 s=some (i (schk s),[]):=by
 have h:=Ab4 (step:=Fa7 ⟨s,(s.length:Int)⟩) (mk:=λj=>(⟨(j:Int)⟩:aa8)) (c:=λc=>chk c != 0) (u:=1) (fin:=2) tLq s (by omega)
  (λj hj=>by
   have hc:=hl _ (S1 tLq hj);simp only[Fa7,Qa3,Int.toNat_natCast,j8,B8,Hc7 _ (show (gL tLq s j).length<=1000000000 by omega),ud9 _ (show (gL tLq s j).length<=1000000000 by omega),D0 hj (show s.length<=4611686018427387904 by omega),i6]
   rw[btD (s8 hj),bt (j9 hj)])
  (by simp only[Fa7,Qa3];rw[bfD (E2 (Qid _))]) 0 (Qbw _)
 rw[Qia,Qar] at h;unfold eb7 schk;simp only[j8,B8,o7];rw[show (⟨0⟩:aa8)=⟨((0:Nat):Int)⟩ from rfl,h]
 by_cases h16:(s.length:Int)>16
 ·rw[btD h16,if_pos h16]
 ·rw[bfD h16,if_neg h16];cases ha:s.any λc=>chk c != 0 with
  |true =>
   have hlt:s.findIdx (λc=>chk c != 0)<s.length:=Qke.2 (Qiaa.1 ha)
   have hc:=hl _ (S1 tLq hlt);rw[Ne8 tLq s _ ha];simp only[Int.toNat_natCast,if_true,Hc7 _ (show (gL tLq s (s.findIdx λc=>chk c != 0)).length<=1000000000 by omega)]
   rfl
  |false =>
   rw[Qkd.2 λc hc=>by have:=Qbq.1 ha c hc;simpa using this]
   rfl
theorem pf0{s:LPq}(hs:s.length<=1000000)(hl:∀c∈s,c.length<=1000000):Ab5 s=schk s:=by unfold Ab5;rw[Ud4 s hs hl];rfl
theorem pf1{s:LPq}(hs:s.length<=1000000)(hl:∀c∈s,c.length<=1000000):Ab6 s=true:=by unfold Ab6;rw[Ud4 s hs hl];rfl
theorem Vf4{c:PLq}(h:chk c=0):c.length<=48:=(Ua3.1 h).1
theorem Xe7{s:LPq}(h:schk s=0):s.length<=16/\∀c∈s,chk c=0:=by
 unfold schk at h
 split at h
 ·cases h
 ·refine⟨by omega,λc hc=>?_⟩
  cases hf:s.find? λc=>chk c != 0 with
  |none=>simpa using Qkd.1 hf c hc
  |some d =>
   rw[hf] at h
   have:=List.find?_some hf
   simp only at h
   rw[h] at this;cases this
theorem ad2{ps r:LPq}{q:PLq}(h:T6 ps q=some r)(hp:ps.length<=200):r.length<=200:=by
 unfold T6 at h
 split at h
 ·split at h
  ·rename_i h';injection h with h;subst h;rw[Qas] at h';exact of_decide_eq_true h'.2
  ·cases h
 ·injection h with h;subst h;exact hp
theorem pf2(x fs:PLq)(j:Nat)(h:(M3 x fs j).length<48):(fb4 x fs j).length<=48:=by
 unfold fb4
 have:=Zc9 (M3 x fs j++[X9 (gL tP fs j)])
 rw[Qdc] at this;simp only[List.length_singleton] at this;omega
theorem od2{ps r:LPq}{q:PLq}(h:T6 ps q=some r)(hp:∀c∈ps,c.length<=48):∀c∈r,c.length<=48:=by
 unfold T6 at h
 split at h
 ·split at h
  ·rename_i h';injection h with h;subst h;rw[Qas,Qcb] at h';intro c hc;obtain⟨x,hx,hc⟩:=Qcj.1 hc;have hr:=h'.1 x hx;unfold Va3 at hc;unfold kb6 at hr;cases ha:apart x q with
   |true=>rw[ha,if_pos rfl] at hc;rw[Qja.1 hc];exact hp x hx
   |false =>
    rw[ha,if_neg (by decide)] at hc
    rw[ha,Bool.false_or] at hr;obtain⟨j,hj,rfl,_⟩:=Bc0.1 hc
    have:=Qcb.1 hr j (Qca.2 hj)
    exact pf2 x _ j (by simpa using this)
  ·cases h
 ·injection h with h;subst h;exact hp
def Db6(s:LPq)(o:Option LPq):Option LPq:=s.foldl (λst q=>st.bind λps=>T6 ps q) o
def tb0(x:PLq)(y:LPq):LPq×Int :=
 if chk x != 0 then ([],chk x) else if schk y != 0 then ([],schk y) else match Sb4 x y with
  |some r=>(r,0)
  |none=>([],9)
structure M0(c:PLq)(ys:LPq)(t:Nat)(s:I5):Prop where
 y:∀r,Db6 ys (some [c])=some r->(ys=[]/\t=2)\/(ys≠[]/\t=4/\s.ia9=r)
 n:Db6 ys (some [c])=none->(t=1/\∃j,s.Ec1=((j:Nat):Int)/\ua8 [c] (gL tLq ys j)=([],9))\/(t=3/\∃j,s.Ec1=((j:Nat):Int)/\ua8 s.ia9 (gL tLq ys j)=([],9)/\j<ys.length/\s.ia9.length<=200/\∀c∈s.ia9,c.length<=48)
theorem Gd8(s:LPq):Db6 s none=none:=sc0 s
theorem Ee9{ys:LPq}{j:Nat}(hj:j<ys.length)(o:Option LPq):Db6 (ys.take (j+1)) o=(Db6 (ys.take j) o).bind λps=>T6 ps (gL tLq ys j):=by
 unfold Db6;rw[Qkh,Qaa hj,List.foldl_append];simp[gL,Qda,Qaa hj]
theorem ue2(ys:LPq)(j:Nat)(o:Option LPq):Db6 ys o=Db6 (ys.drop j) (Db6 (ys.take j) o):=by
 unfold Db6;rw[<- List.foldl_append,Qfg]
theorem Ef7(c:PLq)(ys:LPq)(hc:c.length<=48)(hn:ys.length<=1000)(hy:∀q∈ys,q.length<=1000000) :
  ∃t s,lp (R6 ⟨ys,(ys.length:Int),c⟩) ⟨0,0,[]⟩=(t,s)/\M0 c ys t s:=by
 refine va3 (step:=R6 ⟨ys,(ys.length:Int),c⟩) (mk:=λj (ps:LPq)=>(⟨if j=0 then 0 else 1,(j:Int),if j=0 then [] else ps⟩:I5)) ys.length
  (λj ps=>j<=ys.length/\Db6 (ys.take j) (some [c])=some ps/\ps.length<=200/\∀x∈ps,x.length<=48) (M0 c ys) (by omega)
  (λj ps hj hi=>?_) (λj ps hj hi=>?_) 0 [c] ⟨Qbw _,rfl,by simp,by simpa using hc⟩
 ·obtain⟨_,hm,hl,hle⟩:=hi;have hw1:W ((j:Int)+1)=((j+1:Nat):Int):=D0 hj (by omega)
  have hq:=hy _ (S1 tLq hj);have hgx:inB (j:Int) ys.length=true:=j9 hj;have hmj:=Ee9 hj (some [c]);have hsp:=ue2 ys (j+1) (some [c]);rw[hm] at hmj;have pw:=Hc8 (x:=ps) hq (by omega) λx hx=>Qai (hle x hx) (by omega)
  have gw:=Xe6 (x:=ps) hq (by omega) λx hx=>Qai (hle x hx) (by omega)
  have hmj:Db6 (ys.take (j+1)) (some [c])=T6 ps (gL tLq ys j):=hmj;by_cases h0:j=0
  ·subst h0;have hps:ps=[c]:=by
    have:some [c]=some ps:=hm
    injection this with this;exact this.symm
   subst hps;cases hw:T6 [c] (gL tLq ys 0) with
   |some r =>
    have hR:ua8 [c] (gL tLq ys 0)=(r,0):=by unfold ua8;rw[hw]
    rw[hR] at pw;have e:R6 ⟨ys,(ys.length:Int),c⟩ ⟨0,((0:Nat):Int),[]⟩=.next ⟨1,((0+1:Nat):Int),r⟩:=by
     show Z1 Stp.next Stp.exit Stp.fail _ _=_;simp only[Z1,Int.toNat_natCast,j8,B8,pw,gw,hw1,hgx,i6,Qka];rw[btD (s8 hj)];rfl
    show Nx (R6 ⟨ys,(ys.length:Int),c⟩ ⟨0,((0:Nat):Int),[]⟩) _ _;rw[e];exact .nx ⟨r,rfl,hj,hmj.trans hw,ad2 hw (by simp),od2 hw (by simpa using hc)⟩
   |none =>
    have hR:ua8 [c] (gL tLq ys 0)=([],9):=by unfold ua8;rw[hw]
    rw[hR] at pw;have e:R6 ⟨ys,(ys.length:Int),c⟩ ⟨0,((0:Nat):Int),[]⟩=.exit 1:=by
     show Z1 Stp.next Stp.exit Stp.fail _ _=_;simp only[Z1,Int.toNat_natCast,j8,B8,pw,gw,hw1,hgx,i6,Qka];rw[btD (s8 hj)];rfl
    show Nx (R6 ⟨ys,(ys.length:Int),c⟩ ⟨0,((0:Nat):Int),[]⟩) _ _;rw[e];rw[hmj,hw,Gd8] at hsp;exact .ex ⟨λr hr=>(by rw[hsp] at hr;cases hr),λ_=>.inl ⟨rfl,0,rfl,hR⟩⟩
  ·have em:(⟨if j=0 then 0 else 1,(j:Int),if j=0 then [] else ps⟩:I5)=⟨1,(j:Int),ps⟩:=by rw[if_neg h0,if_neg h0]
   rw[em];cases hw:T6 ps (gL tLq ys j) with
   |some r =>
    have hR:ua8 ps (gL tLq ys j)=(r,0):=by unfold ua8;rw[hw]
    rw[hR] at pw;have e:R6 ⟨ys,(ys.length:Int),c⟩ ⟨1,(j:Int),ps⟩=.next ⟨1,((j+1:Nat):Int),r⟩:=by
     show Z2 Stp.next Stp.exit Stp.fail _ _=_;simp only[Z2,Int.toNat_natCast,j8,B8,pw,gw,hw1,hgx,i6,Qka];rw[btD (s8 hj)];rfl
    rw[e];exact .nx ⟨r,by rw[if_neg (by omega),if_neg (by omega)],hj,hmj.trans hw,ad2 hw hl,od2 hw hle⟩
   |none =>
    have hR:ua8 ps (gL tLq ys j)=([],9):=by unfold ua8;rw[hw]
    rw[hR] at pw;have e:R6 ⟨ys,(ys.length:Int),c⟩ ⟨1,(j:Int),ps⟩=.exit 3:=by
     show Z2 Stp.next Stp.exit Stp.fail _ _=_;simp only[Z2,Int.toNat_natCast,j8,B8,pw,gw,hw1,hgx,i6,Qka];rw[btD (s8 hj)];rfl
    rw[e];rw[hmj,hw,Gd8] at hsp;exact .ex ⟨λr hr=>(by rw[hsp] at hr;cases hr),λ_=>.inr ⟨rfl,j,rfl,hR,hj,hl,hle⟩⟩
 ·obtain⟨h1,hm,hl,hle⟩:=hi;have hje:j=ys.length:=by omega
  subst hje;rw[Qkb] at hm;by_cases h0:ys.length=0
  ·have hnil:ys=[]:=Qki.1 h0;subst hnil;refine⟨2,?_,λr hr=>.inl ⟨rfl,rfl⟩,λh=>(by rw[hm] at h;cases h)⟩
   show Z1 Stp.next Stp.exit Stp.fail ⟨[],((([]:LPq).length:Nat):Int),c⟩ ⟨0,((([]:LPq).length:Nat):Int),[]⟩=_;simp only[Z1];rfl
  ·have em:(⟨if ys.length=0 then 0 else 1,(ys.length:Int),if ys.length=0 then [] else ps⟩:I5)=⟨1,(ys.length:Int),ps⟩:=by rw[if_neg h0,if_neg h0]
   rw[em];refine⟨4,?_,λr hr=>.inr ⟨λe=>h0 (by rw[e];rfl),rfl,?_⟩,λh=>(by rw[hm] at h;cases h)⟩
   ·show Z2 Stp.next Stp.exit Stp.fail _ _=_;simp only[Z2];rw[bfD (E2 (Qid _))]
   ·rw[hm] at hr;injection hr
theorem Ud5{c:PLq}(h:ful c=false):∀s:LPq,Sb4 c s=some []:=by
 intro s;unfold Sb4;rw[h,if_neg (by decide)]
 induction s with
 |nil=>rfl
 |cons q s ih =>
  have:T6 [] q=some []:=by unfold T6;split<;>rfl
  show s.foldl _ (T6 [] q)=_;rw[this];exact ih
theorem ue3(x:PLq)(y:LPq)(hx:x.length<=1000000)(hn:y.length<=1000000)(hy:∀q∈y,q.length<=1000000):Rd (two (r1L tLq) r1I) (eb8 x y) (λr=>r=tb0 x y):=by
 have hC:=Hc7 x (show x.length<=1000000000 by omega);have gC:=ud9 x (show x.length<=1000000000 by omega)
 have hS:=pf0 hn hy;have gS:=pf1 hn hy;have hF:=gd9 (c:=x) (by omega);have gF:=hd4 (c:=x) (by omega)
 have hL:W6 x=lean x:=rfl;have gL':W7 x=true:=decide_eq_true hx;unfold eb8 tb0;simp only[j8,B8,o7,hC,gC,hS,gS,hF,gF,hL,gL',i6,Qka];cases hc:chk x != 0 with
 |true=>exact⟨_,([],chk x),rfl,rfl,rfl⟩
 |false =>
  cases hs:schk y != 0 with
  |true=>exact⟨_,([],schk y),rfl,rfl,rfl⟩
  |false =>
   have hc0:chk x=0:=by simpa using hc
   have hs0:=Xe7 (show schk y=0 by simpa using hs)
   simp only[A6,Qit,if_false];cases hf:ful x with
   |false =>
    rw[Ud5 hf];exact⟨_,([],0),rfl,rfl,rfl⟩
   |true =>
    simp only[Qkg,A6];have hm:Sb4 x y=Db6 y (some [lean x]):=by unfold Sb4 Db6;rw[hf];rfl
    have hll:(lean x).length<=48:=Qai (Zc9 x) (Vf4 hc0);obtain⟨t,s,hlp,hM⟩:=Ef7 (lean x) y hll (by omega) hy
    rw[hlp,hm];cases hr:Db6 y (some [lean x]) with
    |some r =>
     rcases hM.y r hr with⟨rfl,rfl⟩|⟨_,rfl,rfl⟩
     ·have : r = [lean x] := by
       have:some [lean x]=some r:=hr
       injection this with this;exact this.symm
      subst this;exact⟨_,([lean x],0),rfl,fg6 tLq 24 [lean x] 0,rfl⟩
     ·exact⟨_,(s.ia9,0),rfl,Lf8 tLq _ 0,rfl⟩
    |none =>
     rcases hM.n hr with⟨rfl,j,h1,h2⟩|⟨rfl,j,h1,h2,hj,h4,h5⟩
     ·by_cases hj:j<y.length
      ·have pw:=Hc8 (x:=[lean x]) (hy _ (S1 tLq hj)) (by simp) (by simpa using Qai hll (by omega))
       rw[h2] at pw;simp only[h1,Int.toNat_natCast,pw];exact⟨_,([],9),rfl,rfl,rfl⟩
      ·have hd:gL tLq y j=[]:=by simp[gL,Qda,Qat (show y.length<=j by omega)];rfl
       have pw:=Hc8 (x:=[lean x]) (y:=gL tLq y j) (by rw[hd];simp) (by simp) (by simpa using Qai hll (by omega))
       rw[h2] at pw;simp only[h1,Int.toNat_natCast,pw];exact⟨_,([],9),rfl,rfl,rfl⟩
     ·have pw:=Hc8 (x:=s.ia9) (hy _ (S1 tLq hj)) (by omega) λc hc=>Qai (h5 c hc) (by omega)
      rw[h2] at pw;simp only[h1,Int.toNat_natCast,pw];exact⟨_,([],9),rfl,rfl,rfl⟩
theorem Ef8{x:PLq}{y:LPq}(hx:x.length<=1000000)(hn:y.length<=1000000)(hy:∀q∈y,q.length<=1000000):cc2 x y=tb0 x y:=(ue3 x y hx hn hy).p
theorem Ef9{x:PLq}{y:LPq}(hx:x.length<=1000000)(hn:y.length<=1000000)(hy:∀q∈y,q.length<=1000000):cc3 x y=true:=(ue3 x y hx hn hy).g
def R3(x:LPq)(y:PLq):Bool×Int:=((tb0 y x).2==0&&((tb0 y x).1.length:Int)==0,(tb0 y x).2)
theorem Ud6(x:LPq)(y:PLq)(hy:y.length<=1000000)(hn:x.length<=1000000)(hx:∀q∈x,q.length<=1000000):Ua7 x y=some (.tup [b (R3 x y).1,i (R3 x y).2],[]):=by
 unfold Ua7 R3;simp only[j8,B8,Ef8 hy hn hx,Ef9 hy hn hx,i6];cases (tb0 y x).2==0<;>rfl
theorem hc3{x:LPq}{y:PLq}(hy:y.length<=1000000)(hn:x.length<=1000000)(hx:∀q∈x,q.length<=1000000):s4 x y=R3 x y:=by unfold s4;rw[Ud6 x y hy hn hx];rfl
theorem ad3{x:LPq}{y:PLq}(hy:y.length<=1000000)(hn:x.length<=1000000)(hx:∀q∈x,q.length<=1000000):K0 x y=true:=by unfold K0;rw[Ud6 x y hy hn hx];rfl
def ea8(c:PLq)(s:LPq):Bool:=!s.any λq=>!apart c q
theorem Xe8{c q:PLq}(hc:c.length<=1000000)(hq:q.length<=1000000):gb6 ⟨q,c⟩=⟨1,!apart c q⟩:=by
 unfold gb6 Ib1;simp only[j8,B8,vd2 (a:=c) (c:=q) (by omega) (by omega),vd3 (a:=c) (c:=q) (by omega) (by omega),i6]
theorem Ud7(c:PLq)(s:LPq)(hc:c.length<=1000000)(hs:s.length<=1000000)(hl:∀q∈s,q.length<=1000000):eb9 c s=some (b (ea8 c s),[]):=by
 have h:=Ab4 (step:=O5 ⟨s,(s.length:Int)⟩) (mk:=λj=>(⟨(j:Int),c⟩:C8)) (c:=λq=>!apart c q) (u:=1) (fin:=2) tLq s (by omega)
  (λj hj=>by
   have hq:=hl _ (S1 tLq hj);simp only[O5,W8,Int.toNat_natCast,j8,o7,Xe8 hc hq,D0 hj (show s.length<=4611686018427387904 by omega),i6,Qka]
   rw[btD (s8 hj),bt (j9 hj)]
   rfl)
  (by simp only[O5,W8];rw[bfD (E2 (Qid _))]) 0 (Qbw _)
 rw[Qia,Qar] at h;have hI:ea6 ⟨s,c⟩=⟨1,if s.any (λq=>!apart c q) then ((s.findIdx (λq=>!apart c q):Nat):Int) else -1,c⟩:=by
  unfold ea6 ua3;simp only[j8,o7];rw[show (⟨0,c⟩:C8)=⟨((0:Nat):Int),c⟩ from rfl,h]
  cases s.any (λq=>!apart c q)<;>rfl
 unfold eb9 ea8 la2 la1;simp only[j8,o7,hI];cases hA:s.any (λq=>!apart c q) with
 |true =>
  simp only[if_true]
  have:decide (((s.findIdx (λq=>!apart c q):Nat):Int)>=0)=true:=decide_eq_true (by omega)
  rw[this];rfl
 |false=>rfl
theorem Bc1{c:PLq}{s:LPq}(hc:c.length<=1000000)(hs:s.length<=1000000)(hl:∀q∈s,q.length<=1000000):M6 c s=ea8 c s:=by unfold M6;rw[Ud7 c s hc hs hl];rfl
theorem Bc2{c:PLq}{s:LPq}(hc:c.length<=1000000)(hs:s.length<=1000000)(hl:∀q∈s,q.length<=1000000):ka0 c s=true:=by unfold ka0;rw[Ud7 c s hc hs hl];rfl
def inR(s t:LPq):Bool×Int:=match s.find? λc=>!(R3 t c).1 with
 |some c=>R3 t c
 |none=>(true,0)
def qf0(x y:LPq):Bool×Int:=if schk x != 0 then (false,schk x) else if schk y != 0 then (false,schk y) else if (inR x y).1 then inR y x else inR x y
end Go.Ev.Ce
namespace Go.Ev.Ce
def Rc0(a b:V3):V3:=⟨a.x-b.x,a.y-b.y,a.z-b.z⟩
def N3(u w x:V3):V3:=C7 (Rc0 w u) (Rc0 x u)
def Sol(l:List V3):Prop:=∃a c k v,a∈l/\c∈l/\k∈l/\v∈l/\dot (N3 a c k) (Rc0 v a)≠0
theorem Sol.off{l:List V3}(h:Sol l){n:V3}(hn:n≠⟨0,0,0⟩)(b:Int):∃v∈l,dot n v≠b:=by
 obtain⟨a,c,k,v,ha,hc,hk,hv,hd⟩:=h;by_cases h1:dot n a=b
 ·by_cases h2:dot n c=b
  ·by_cases h3:dot n k=b
   ·by_cases h4:dot n v=b
    ·exfalso;unfold N3 at hd;generalize hD:dot (C7 (Rc0 c a) (Rc0 k a)) (Rc0 v a)=D at *
     have q1:dot n (Rc0 c a)=0:=by unfold dot Rc0 at *;grind
     have q2:dot n (Rc0 k a)=0:=by unfold dot Rc0 at *;grind
     have q3:dot n (Rc0 v a)=0:=by unfold dot Rc0 at *;grind
     generalize Rc0 c a=p at *
     generalize Rc0 k a=q at *
     generalize Rc0 v a=r at *
     have i1:D*n.x=(C7 q r).x*dot n p+(C7 r p).x*dot n q+(C7 p q).x*dot n r:=by rw[<- hD];simp only[dot,C7];grind
     have i2:D*n.y=(C7 q r).y*dot n p+(C7 r p).y*dot n q+(C7 p q).y*dot n r:=by rw[<- hD];simp only[dot,C7];grind
     have i3:D*n.z=(C7 q r).z*dot n p+(C7 r p).z*dot n q+(C7 p q).z*dot n r:=by rw[<- hD];simp only[dot,C7];grind
     rw[q1,q2,q3] at i1 i2 i3;have z:∀{x:Int},D*x=0->x=0:=λh=>(Qjf.1 h).resolve_left hd
     exact hn (V3.ext' (z (by omega)) (z (by omega)) (z (by omega)))
    ·exact⟨v,hv,h4⟩
   ·exact⟨k,hk,h3⟩
  ·exact⟨c,hc,h2⟩
 ·exact⟨a,ha,h1⟩
theorem Sol.ne{l:List V3}(h:Sol l):∃v,v∈l:=by obtain⟨a,_,_,_,ha,_⟩:=h;exact⟨a,ha⟩
structure Fac(l:List V3)(n:V3)(b:Int):Prop where
 hd:∀v∈l,dot n v<=b
 on:∃u w x,u∈l/\w∈l/\x∈l/\N3 u w x≠⟨0,0,0⟩/\dot n u=b/\dot n w=b/\dot n x=b
end Go.Ev.Ce
namespace Go.Ev.Ce
open Go Go.Ev Go.Ev.L Go.Proofs
structure rg8(l:List V3)(p:Pln):Prop extends Fac l p.n p.b where
 ok:okp p=true
def Fv:V3:=⟨10000,100,1⟩
structure Crs(l:List V3)(p:Pln)(v:V3):Prop where
 h:∃u w,u∈l/\w∈l/\dot p.n u=p.b/\dot p.n w=p.b/\dot Fv w<dot Fv v/\dot Fv v<dot Fv u/\N3 v u w≠⟨0,0,0⟩
 on:dot p.n v=p.b
section
variable{l:List V3}(hl:l.all inV=true)
include hl
end
structure Mc(c:PLq):Prop where
 g:ee2 c
 l:c.length<=12
structure Ms(y:Nat)(s:LPq):Prop where
 n:s.length<=y
 c:∀c∈s,Mc c
structure Bnd(n m:Nat)(ps:LPq):Prop where
 n:ps.length<=n
 m:∀x∈ps,x.length<=m
def Cov(s:LPq)(c:PLq):Prop:=ful c=true->∀z,Inr (c++ws) z->∃q∈s,ful q=true/\Inr (q++ws) z
theorem Cov.mono{s t:LPq}{c:PLq}(h:Cov s c)(hs:∀q∈s,q∈t):Cov t c:=λhf z hz=>by
 obtain⟨q,hq,h2⟩:=h hf z hz;exact⟨q,hs q hq,h2⟩
theorem Ne9{s:LPq}(hn:s.length<=16)(hs:∀q∈s,(chk q==0)=true):schk s=0:=by
 unfold schk;rw[if_neg (by omega),Qkd.2 λq hq=>by have:=hs q hq;rw[beq_iff_eq] at this;simp[this]]
open Classical in
theorem Fe0{s:LPq}{c:PLq}{r:LPq}(hc:(chk c==0)=true)(hs:schk s=0)(hm:Sb4 c s=some r):R3 s c=(decide (Cov s c),0)/\tb0 c s=(r,0):=by
 have e:tb0 c s=(r,0):=by
  unfold tb0;rw[beq_iff_eq] at hc;rw[hc,hs,hm];rfl
 refine⟨?_,e⟩;unfold R3;rw[e];have k:(((r.length:Nat):Int)==0)=decide (Cov s c):=by
  rw[Qkj,beq_iff_eq,decide_eq_true_eq];cases hf:ful c with
  |true =>
   have:=Xe1 hf hm
   constructor
   ·intro h0 _;exact this.1 (Qki.1 (by omega))
   ·intro h;rw[this.2 (h hf)];rfl
  |false =>
   rw[Ud5 hf] at hm;injection hm with hm;subst hm;exact⟨λ_ h=>(by rw[hf] at h;cases h),λ_=>rfl⟩
 rw[k];rfl
theorem Mc.chk{c:PLq}(h:Mc c):(chk c==0)=true:=h.g.chk
theorem Mc.ful{c:PLq}(h:Mc c):ful c=true:=h.g.ful
theorem Ms.schk{y:Nat}{s:LPq}(h:Ms y s)(hy:y<=16):schk s=0:=Ne9 (Qai h.n hy) λq hq=>(h.c q hq).chk
structure Und(c U:PLq)(n:Nat)(ps:LPq):Prop where
 n:ps.length<=n
 d:∀x∈ps,x.Nodup/\(∀p∈x,p∈U)/\ful x=true/\∀z,Inr (x++ws) z->Inr (c++ws) z
def Oe0(c:PLq):PLq:=if ful c then c.foldl (Ud0 (pts c)) [] else []
theorem Vf5:lean=Oe0:=by
 funext c;unfold lean Oe0;rw[of1]
section
variable(L:PLq->PLq)
def ue4(x fs:PLq):Nat->PLq
 |0=>x
 |j+1=>L (ue4 x fs j++[gL tP fs j])
def Vf6(x fs:PLq)(j:Nat):PLq:=L (ue4 L x fs j++[X9 (gL tP fs j)])
def Vf7(x fs:PLq)(j:Nat):LPq:=((List.range j).map (Vf6 L x fs)).filter λc=>decide (0<c.length)
def qf1(x fs:PLq):Bool:=(List.range fs.length).all λj=>decide ((ue4 L x fs j).length<48)
def Ff0(q x:PLq):LPq:=if apart x q then [x] else Vf7 L x (L q) (L q).length
def Gd9(ps:LPq)(q:PLq):Option LPq :=
 if ful q then (if ps.all (λx=>apart x q||qf1 L x (L q))&&decide ((ps.flatMap (Ff0 L q)).length<=200) then some (ps.flatMap (Ff0 L q)) else none) else some ps
def Fe1(c:PLq)(s:LPq):Option LPq :=
 s.foldl (λst q=>st.bind λps=>Gd9 L ps q) (some (if ful c then [L c] else []))
end
theorem Hd0(x fs:PLq):∀j,ue4 lean x fs j=M3 x fs j
 |0=>rfl
 |j+1=>by
  show lean (ue4 lean x fs j++_)=lean (M3 x fs j++_);rw[Hd0 x fs j]
theorem Ff1:Vf6 lean=fb4:=by funext x fs j;unfold Vf6 fb4;rw[Hd0]
theorem Ff2:Vf7 lean=Va2:=by funext x fs j;unfold Vf7 Va2;rw[Ff1]
theorem qf2:qf1 lean=Oa9:=by funext x fs;unfold qf1 Oa9;simp only[Hd0]
theorem Ff3:Ff0 lean=Va3:=by funext q x;unfold Ff0 Va3;rw[Ff2]
theorem ue5:Gd9 lean=T6:=by
 funext ps q;unfold Gd9 T6;rw[Ff3,qf2];rfl
theorem Xe9:Sb4=Fe1 Oe0:=by
 funext c s;rw[<- Vf5];unfold Sb4 Fe1;rw[ue5]
def bx(x y z u v w:Int):PLq:=[⟨⟨1,0,0⟩,u⟩,⟨⟨-1,0,0⟩,-x⟩,⟨⟨0,1,0⟩,v⟩,⟨⟨0,-1,0⟩,-y⟩,⟨⟨0,0,1⟩,w⟩,⟨⟨0,0,-1⟩,-z⟩]
theorem Bc3(x y z u v w:Int):(bx x y z u v w).length=6:=rfl
structure rg9(own:PLq)(s r:LPq):Prop where
 m:tb0 own s=(r,0)
 n:r.length<=144
 l:∀x∈r,x.length<=37
 full:∀x∈r,ful x=true
 lies:∀x∈r,Ce.lies x own=true
 off:∀x∈r,ea8 x s=true
 dis:∀j,j<r.length->ea8 (gL tLq r j) (r.take j)=true
 all:(s++r).length<=16->R3 (s++r) own=(true,0)
 self:r.length<=16->(R3 r own).2=9\/((R3 r own).2=0/\(R3 r own).1=ea8 own s)
theorem ue6{α:Type}(t:Ty α)(l:List α)(j:Nat)(h:j<=l.length):lsL t (j-0) (λk=>(λk=>t.row (gL t l k)) (0+k))=l.take j/\okL t (j-0) (λk=>(λk=>t.row (gL t l k)) (0+k))=true:=by
 refine⟨wc6 t (by rw[Qic];omega) λk hk=>?_,jc2 t (f:=λk=>gL t l (0+k)) λ_ _=>rfl⟩
 simp only[Qar];congr 1;simp only[gL,Qda];rw[Qap,if_pos (by omega)]
theorem qf3{α:Type}(t:Ty α)(l:List α){n:Nat}(h:n=l.length):lsL t n (λk=>g8 (bL t l) k)=l/\okL t n (λk=>g8 (bL t l) k)=true:=by
 subst h;exact⟨wc6 t rfl λk hk=>by rw[ba8 t hk],jc2 t (f:=λk=>gL t l k) λk hk=>by rw[ba8 t hk]⟩
set_option maxRecDepth 100000
structure uf0 where
 da0:PLq
structure uf1 where
 ph:Nat
 rg4:PLq
 is8:Int
 ns6:Nat
 eh0:List (List c7)
structure af3 where
 H5:LPq
 da0:PLq
structure sd2 where
 ph:Nat
 is7:Int
 ns6:Nat
 eh0:List (List c7)
structure uf2 where
 Id9:LPq
 g7:PLq
structure Md3 where
 ph:Nat
 is8:Int
 ge4:LPq
structure uf3 where
 j6:PLq
 Id9:LPq
def sc1:List (Nat×Sum):=[(59,Dd5)]
theorem jd3:C6 prog G sc1:=⟨pe6,trivial⟩
structure Ga4 where
 (H5 Id9:LPq)
def Yb6(p:Ga4)(s:Ia4):St:=⟨eL tLq p.H5::eL tLq p.Id9::ra 3 (i s.is5::ra 21 []),[]⟩
def Ja6{α:Type}(k:Ia4->α)(e:Nat->α)(z:α)(p:Ga4)(s:Ia4):α:=let y1:=(gL tLq p.Id9 s.is5.toNat);let y0:=(gL tLq p.H5 s.is5.toNat);let t1:=(mc0 (rt tP y0) (rt tP y1));(sl (decide (s.is5<(↑(List.length p.H5):Int))) (sl (inB s.is5 (List.length p.H5)) (sl (inB s.is5 (List.length p.Id9)) (sl (okE tP y0) (sl (okE tP y1) (sl (mc1 (rt tP y0) (rt tP y1)) (sl (!t1) (e 1) (k ⟨W (s.is5+1)⟩)) z) z) z) z) z) (e 2))
def Aa3(p:Ga4)(s:Ia4):Stp Ia4:=Ja6 .next .exit .fail p s
def yb4:Lo Ga4 Ia4:=⟨En sc1,0,ag0,[1,1,0,1,4,4],[0,1,5],.p,[⟨sLq tLq::sLq tLq::ru2 3 (sIq::ru2 21 []),[],λa H=>(⟨aLq tLq a 0,aLq tLq a 1⟩,⟨aIq a 5⟩)⟩],Aa3,[(none,λp s=>⟨[b false],[]⟩),(some 0,λp s=>upq (Yb6 p s) [(11,i s.is5),(12,eL tLq p.H5),(13,i (↑(List.length p.H5):Int)),(14,b (decide (s.is5<(↑(List.length p.H5):Int))))])],Yb6⟩
theorem ad4:yb4.Ok:=Lo.okq [] .nil λp s=>(.ofq @Ja6)
def Va4(x:LPq)(y:LPq):ROq:=let t1:=(lp (Aa3 (⟨rt tLq x,rt tLq y⟩:Ga4)) (⟨0⟩:Ia4));(sl ((↑(List.length x):Int) != (↑(List.length y):Int)) (some (b false,[])) (sl ((cnE tLq x)&&((cnE tLq y)&&true)) (sl (Nat.beq t1.1 1) (some (b false,[])) (sl (Nat.beq t1.1 2) (some (b true,[])) none)) none))
def Va5(x:LPq)(y:LPq):Bool:=aa3 (one r1B) (Va4 x y)
def Va6(x:LPq)(y:LPq):Bool:=okO (one r1B) (Va4 x y)
def Bc4:Sum:=va4 (pa5 tLq) (pa5 tLq) (λx y=>.guard (Va6 x y) (.ret ((one r1B).enc (Va5 x y),[])))
theorem sd3:l8 prog G 24 Bc4:=pd9 (bd b24 jd3) (one r1B) (o:=Va4) λx y=>da5 (.s .p (.s .p (.s (.s .p (.b (.u yb4.ls))) .p))) [yb4.pr] (.cons ad4 .nil)
structure Oe1 where
 (rg5 rg6:List Bool)
structure Oe2 where
 is5:Int
structure uf5 where
 E9:ByteArray
 i9:LPq
 m9:List Int
structure uf6 where
 is3:Int
structure uf7 where
 is4:Int
 E9:ByteArray
 i9:LPq
 m9:List Int
structure uf8 where
 is5:Int
structure uf9 where
 E9:ByteArray
structure vf0 where
 is4:Int
 i9:LPq
 m9:List Int
structure af4 where
 H5:LPq
structure af5 where
 is3:Int
structure vf1 where
 H5:LPq
 da0:PLq
structure Md4 where
 ph:Nat
 is6:Int
 ns5:Nat
 eh0:List (List c7)
structure Ff4 where
 H5:LPq
structure Ff5 where
 ph:Nat
 is4:Int
 ns3:Nat
 eh0:List (List c7)
structure af6 where
 E9:ByteArray
 i9:LPq
 m9:List Int
 (Ic2 Ic3:List Bool)
 G9:LPq
structure af7 where
 is6:Int
structure af8 where
 E9:ByteArray
 i9:LPq
 m9:List Int
 (Ic2 Ic3:List Bool)
 G9:LPq
structure af9 where
 is7:Int
structure bf0 where
 E9:ByteArray
 i9:LPq
 m9:List Int
 (Ic2 Ic3:List Bool)
 G9:LPq
structure bf1 where
 is8:Int
structure Ff6 where
 E9:ByteArray
 i9:LPq
 m9:List Int
 (Ic2 Ic3:List Bool)
 G9:LPq
structure Ff7 where
 ph:Nat
 is6:Int
 ns5:Nat
 eh2:List (List c7)
structure vf2 where
 H5:LPq
structure vf3 where
 ph:Nat
 is4:Int
 ns3:Nat
 eh0:List (List c7)
structure Lf9 where
 (alt ns0:Nat)
 eh0:List (List c7)
structure vf4 where
 (Ka2 ib9:LPq)
 E9:ByteArray
 i9:LPq
 m9:List Int
 (Ic2 Ic3:List Bool)
 G9:LPq
 Hf3:Nat
structure vf5 where
 ph:Nat
 sg0:Int
 (cd2 sa4:Nat)
 (eh4 eh5 eh6:List (List c7))
def Vf8(x fs:PLq):LPq×Int:=if Oa9 x fs then (Va2 x fs fs.length,0) else ([],9)
theorem qf4(O N:LPq):app (bL tLq O) (bL tLq N)=bL tLq (O++N):=ob5 tLq O N
theorem nbR:Nat.beq 1 2=false/\Nat.beq 2 1=false/\Nat.beq 3 1=false/\Nat.beq 3 2=false/\Nat.beq 4 1=false/\Nat.beq 4 2=false/\Nat.beq 4 3=false/\Nat.beq 6 1=false/\Nat.beq 6 2=false/\Nat.beq 6 3=false/\Nat.beq 6 4=false/\Nat.beq 6 5=false:=by decide
structure RW(q:PLq)(xs:LPq)(t:Nat)(s:sd2):Prop where
 y:xs.all (kb6 q)=true->t=phL (xs.flatMap (Va3 q))*2+2/\s.ns6=(xs.flatMap (Va3 q)).length/\s.eh0=bL tLq (xs.flatMap (Va3 q))
 n:xs.all (kb6 q)=false->(t=1\/t=3)/\∃j,s.is7=((j:Nat):Int)/\Vf8 (gL tLq xs j) (lean q)=([],9)
structure RM0(c:PLq)(ys:LPq)(t:Nat)(s:Md3):Prop where
 y:∀r,Db6 ys (some [c])=some r->(ys=[]/\t=2)\/(ys≠[]/\t=4/\s.ge4=r)
 n:Db6 ys (some [c])=none->(t=1/\∃j,s.is8=((j:Nat):Int)/\ua8 [c] (gL tLq ys j)=([],9))\/(t=3/\∃j,s.is8=((j:Nat):Int)/\ua8 s.ge4 (gL tLq ys j)=([],9)/\j<ys.length/\s.ge4.length<=200/\∀c∈s.ge4,c.length<=48)
theorem od3(x:LPq)(hx:x.length<=1000000)(hl:∀q∈x,q.length<=1000000):Va4 x x=some (b true,[]):=by
 have h:=Qc0 (step:=Aa3 ⟨x,x⟩) (mk:=λj=>(⟨(j:Int)⟩:Ia4)) (c:=λ_=>false) (u:=1) (fin:=2) tLq x (by omega)
  (λj hj=>by
   have hq:=hl _ (S1 tLq hj);simp only[Aa3,Ja6,Int.toNat_natCast,j8,B8,Tf1 (gL tLq x j) (by omega),Tf2 (gL tLq x j) (by omega),D0 hj (show x.length<=4611686018427387904 by omega),Qkg,i6]
   rw[btD (s8 hj),bt (j9 hj),bt (j9 hj)])
  (by simp only[Aa3,Ja6];rw[bfD (E2 (Qid _))]) 0 (Qbw _)
 rw[Qia,show (x.any λ_=>false)=false by simp] at h
 unfold Va4;simp only[j8,o7];rw[show (⟨0⟩:Ia4)=⟨((0:Nat):Int)⟩ from rfl,h,bf (by simp)]
 rfl
theorem Hd1{x:LPq}(hx:x.length<=1000000)(hl:∀q∈x,q.length<=1000000):Va5 x x=true:=by unfold Va5;rw[od3 x hx hl];rfl
theorem Hd2{x:LPq}(hx:x.length<=1000000)(hl:∀q∈x,q.length<=1000000):Va6 x x=true:=by unfold Va6;rw[od3 x hx hl];rfl
structure Pok(x:Pce):Prop where
 su:x.su.length<=1000000
 to:x.to.length<=1000000
 cu:x.cu.length<=1000000
 cl:∀q∈x.cu,q.length<=1000000
def Bc5(s:LPq):Int:=match s.find? λc=>chk c != 0 with
 |some c=>chk c
 |none=>0
def ue7(x:Prt)(y:Pce):Bool:=(y.su.length:Int)==(x.cl.length:Int)&&((y.to.length:Int)==(x.cl.length:Int)&&(decide ((y.cu.length:Int)<=24)&&(Bc5 y.cu==0)))
structure Jok(x:Prt):Prop where
 cl:x.cl.length<=1000000
 wt:x.wt.length<=1000000
 pl:∀c∈x.cl,c.length<=1000000
def jd4(n:Int):Bool:=decide (n<1)||decide (n>3)
def ue8(l:LPq)(j:Nat):Bool:=!ful (gL tLq l j)||(List.range j).any λk=>!apart (gL tLq l k) (gL tLq l j)
def Bc6(x:Prt):Int :=
 if (x.cl.length:Int)<1 then 2 else if (x.cl.length:Int)>16 then 2 else if ((x.wt.length:Int) != (x.cl.length:Int))=true then 1 else if x.wt.any jd4=true then 1
 else if (List.range x.cl.length).any (ue8 x.cl)=true then 13 else 0
def Ye0(x:Prt):Pce:=⟨List.replicate x.cl.length false,List.replicate x.cl.length false,[]⟩
theorem Sb5(a c:PLq):apart a c=apart c a:=by
 by_cases ha:(chk a==0)=true
 ·by_cases hc:(chk c==0)=true
  ·rw[Qkj,Ya5 ha hc,Ya5 hc ha];exact⟨λh z h1 h2=>h z h2 h1,λh z h1 h2=>h z h2 h1⟩
  ·have hc:(chk c==0)=false:=by simpa using hc
   unfold apart;rw[hc,Bool.and_false,Bool.false_and];rfl
 ·have ha:(chk a==0)=false:=by simpa using ha
  unfold apart;rw[ha,Bool.and_false,Bool.false_and];rfl
theorem Hd3(n:Int):gb7 n=jd4 n/\gb8 n=true:=by
 have h:Ma5 n=some (b (jd4 n),[]):=by
  unfold Ma5 jd4;cases decide (n<1)<;>rfl
 unfold gb7 gb8;rw[h];exact⟨rfl,rfl⟩
theorem Ff8(w:List Int)(hw:w.length<=1000000):ma8 ⟨w⟩=⟨1,if w.any jd4=true then ((w.findIdx jd4:Nat):Int) else -1⟩:=by
 have h:=Ab4 (step:=V5 ⟨w,(w.length:Int)⟩) (mk:=λj=>(⟨(j:Int)⟩:D1)) (c:=jd4) (u:=1) (fin:=2) tI w (by omega)
  (λj hj=>by
   simp only[V5,ca7,Int.toNat_natCast,(Hd3 _).1,(Hd3 _).2,D0 hj (show w.length<=4611686018427387904 by omega),i6]
   rw[btD (s8 hj),bt (j9 hj)])
  (by simp only[V5,ca7];rw[bfD (E2 (Qid _))]) 0 (Qbw _)
 rw[Qia,Qar] at h;unfold ma8 Ga1;simp only[j8,o7,Qii,i6];rw[show (⟨0⟩:D1)=⟨((0:Nat):Int)⟩ from rfl,h]
 cases w.any jd4<;>rfl
theorem Ff9(w:List Int)(hw:w.length<=1000000):ea7 ⟨w⟩=⟨1,w.any jd4⟩:=by
 unfold ea7 ua6;simp only[j8,o7,Qii,i6,Ff8 w hw];rw[show Nat.beq 1 1=true from rfl,i6]
 cases w.any jd4 with
 |true =>
  rw[if_pos rfl,decide_eq_true (show ((w.findIdx jd4:Nat):Int)>=0 by omega)]
 |false=>rfl
theorem Gf0{l:LPq}{j:Nat}(hj:j<l.length):ue8 l j=(!ful (gL tLq l j)||!ea8 (gL tLq l j) (l.take j)):=by
 unfold ue8 ea8;rw[Bool.not_not];congr 1;rw[Qkj,Qiaa,Qiaa];constructor
 ·rintro⟨k,hk,h⟩;have hk:=Qca.1 hk;refine⟨gL tLq l k,?_,by rw[Sb5];exact h⟩
  rw[Qfa];refine⟨k,?_⟩;rw[Qap,if_pos hk];simp[gL,Qda,Qaa (show k<l.length by omega)]
 ·rintro⟨q,hq,h⟩;obtain⟨k,hk⟩:=Qfa.1 hq;rw[Qap] at hk
  split at hk
  case isFalse=>cases hk
  rename_i hkj;refine⟨k,Qca.2 hkj,?_⟩;rw[Sb5,show gL tLq l k=q by simp[gL,Qda,hk]]
  exact h
theorem Ye1{nm:ByteArray}{l:LPq}{w:List Int}(hl:l.length<=1000000)(hp:∀c∈l,c.length<=1000000) :
  ∃k,lp (ta1 ⟨l,(l.length:Int),nm,l,w⟩) ⟨0⟩=(if (List.range l.length).any (ue8 l)=true then 1 else 2,(⟨((k:Nat):Int)⟩:aa9)):=by
 have h:=Gd3 (step:=ta1 ⟨l,(l.length:Int),nm,l,w⟩) (mk:=λk=>(⟨(k:Int)⟩:aa9)) l.length (ue8 l) 1 2 (by omega)
  (λj hj=>by
   have hc:=hp _ (S1 tLq hj);have ht:∀q∈l.take j,q.length<=1000000:=λq hq=>hp q (List.mem_of_mem_take hq)
   have htl:(l.take j).length<=1000000:=by rw[Qic];omega
   obtain⟨e1,e2⟩:=ue6 tLq l j (by omega)
   rw[Gf0 hj];simp only[ta1,Qa7,Int.toNat_natCast,j8,B8,e1,e2,gd9 (show (gL tLq l j).length<=1000000000 by omega),hd4 (show (gL tLq l j).length<=1000000000 by omega),Bc1 hc htl ht,Bc2 hc htl ht,D0 hj (show l.length<=4611686018427387904 by omega),i6]
   rw[btD (s8 hj),bt (j9 hj),bt (j9 (show j<l.length+1 by omega))]
   cases ful (gL tLq l j)<;>rfl)
  (by simp only[ta1,Qa7];rw[bfD (E2 (Qid _))])
 exact h
theorem Oe3{x:Prt}(h:Jok x):fb3 x=some (i (Bc6 x),[]):=by
 obtain⟨k,hk⟩:=Ye1 (nm:=x.nm) (w:=x.wt) h.cl h.pl;unfold fb3 Bc6;simp only[j8,o7,Qka,i6,Ff9 x.wt h.wt,hk];cases h1:((x.cl.length:Int)==0) with
 |true =>
  have h1:(x.cl.length:Int)=0:=by simpa using h1
  rw[i6,if_pos (show (x.cl.length:Int)<1 by omega)]
 |false =>
  have h1:¬ (x.cl.length:Int)=0:=by simpa using h1
  rw[A6,if_neg (show ¬ (x.cl.length:Int)<1 by omega)]
  by_cases h2:(x.cl.length:Int)>16
  ·rw[btD h2,if_pos h2]
  ·rw[bfD h2,if_neg h2];cases h3:((x.wt.length:Int) != (x.cl.length:Int)) with
   |true=>rfl
   |false=>cases x.wt.any jd4<;>cases (List.range x.cl.length).any (ue8 x.cl)<;>rfl
theorem Hd4{x:Prt}(h:Jok x):Ca2 x=Bc6 x:=by unfold Ca2;rw[Oe3 h];rfl
theorem ee5{x:Prt}(h:Jok x):Ca3 x=true:=by unfold Ca3;rw[Oe3 h];rfl
theorem od4(s:LPq)(hs:s.length<=1000000)(hl:∀c∈s,c.length<=1000000):Ma7 s=some (i (Bc5 s),[]):=by
 have h:=Ab4 (step:=ua7 ⟨s,(s.length:Int)⟩) (mk:=λj=>(⟨(j:Int)⟩:D1)) (c:=λc=>chk c != 0) (u:=1) (fin:=2) tLq s (by omega)
  (λj hj=>by
   have hc:=hl _ (S1 tLq hj);simp only[ua7,Da2,Int.toNat_natCast,j8,B8,Hc7 _ (show (gL tLq s j).length<=1000000000 by omega),ud9 _ (show (gL tLq s j).length<=1000000000 by omega),D0 hj (show s.length<=4611686018427387904 by omega),i6]
   rw[btD (s8 hj),bt (j9 hj)])
  (by simp only[ua7,Da2];rw[bfD (E2 (Qid _))]) 0 (Qbw _)
 rw[Qia,Qar] at h;unfold Ma7 Bc5;simp only[j8,B8,o7];rw[show (⟨0⟩:D1)=⟨((0:Nat):Int)⟩ from rfl,h]
 cases ha:s.any λc=>chk c != 0 with
 |true =>
  have hlt:s.findIdx (λc=>chk c != 0)<s.length:=Qke.2 (Qiaa.1 ha)
  have hc:=hl _ (S1 tLq hlt);rw[Ne8 tLq s _ ha];simp only[Int.toNat_natCast,if_true,Hc7 _ (show (gL tLq s (s.findIdx λc=>chk c != 0)).length<=1000000000 by omega)]
  rfl
 |false =>
  rw[Qkd.2 λc hc=>by have:=Qbq.1 ha c hc;simpa using this]
  rfl
theorem Rc1{s:LPq}(hs:s.length<=1000000)(hl:∀c∈s,c.length<=1000000):pa2 s=Bc5 s:=by unfold pa2;rw[od4 s hs hl];rfl
theorem Rc2{s:LPq}(hs:s.length<=1000000)(hl:∀c∈s,c.length<=1000000):pa3 s=true:=by unfold pa3;rw[od4 s hs hl];rfl
def Nb0(x:Prt)(y:Pce):Int:=if (Bc6 x != 0)=true then Bc6 x else if ue7 x y=true then 0 else 4
theorem Ud8{x:Prt}{y:Pce}(hx:Jok x)(hy:Pok y):Va1 x y=some (i (Nb0 x y),[]):=by
 unfold Va1 Nb0 ue7;have hj:Jok ⟨x.nm,x.cl,x.wt⟩:=⟨hx.cl,hx.wt,hx.pl⟩;simp only[j8,B8,Hd4 hx,Hd4 hj,ee5 hj,Rc1 hy.cu hy.cl,Rc2 hy.cu hy.cl,i6,Qka];rw[show Bc6 ⟨x.nm,x.cl,x.wt⟩=Bc6 x from rfl]
 cases (Bc6 x != 0) with
 |true=>rfl
 |false =>
  rw[A6];simp only[Qit,if_false];cases h1:((y.su.length:Int)==(x.cl.length:Int)) with
  |false=>rw[show ((y.su.length:Int) != (x.cl.length:Int))=true by rw[bne,h1];rfl];rfl
  |true =>
   rw[show ((y.su.length:Int) != (x.cl.length:Int))=false by rw[bne,h1];rfl]
   cases h2:((y.to.length:Int)==(x.cl.length:Int)) with
   |false=>rw[show ((y.to.length:Int) != (x.cl.length:Int))=true by rw[bne,h2];rfl];rfl
   |true =>
    rw[show ((y.to.length:Int) != (x.cl.length:Int))=false by rw[bne,h2];rfl]
    by_cases h3:(y.cu.length:Int)>24
    ·rw[decide_eq_true h3,decide_eq_false (show ¬ (y.cu.length:Int)<=24 by omega)];rfl
    ·rw[decide_eq_false h3,decide_eq_true (show (y.cu.length:Int)<=24 by omega)]
     cases h4:(Bc5 y.cu==0) with
     |true=>rw[show (Bc5 y.cu != 0)=false by rw[bne,h4];rfl];rfl
     |false=>rw[show (Bc5 y.cu != 0)=true by rw[bne,h4];rfl];rfl
theorem Hd5{x:Prt}{y:Pce}(hx:Jok x)(hy:Pok y):Ga2 x y=Nb0 x y:=by unfold Ga2;rw[Ud8 hx hy];rfl
theorem Hd6{x:Prt}{y:Pce}(hx:Jok x)(hy:Pok y):Ga3 x y=true:=by unfold Ga3;rw[Ud8 hx hy];rfl
def D7(l:LPq)(c:PLq):LPq:=l.filter λq=>!apart q c
theorem Hd7(l:LPq)(c:PLq){j:Nat}(hj:j<l.length):D7 (l.take (j+1)) c=D7 (l.take j) c++(if apart (gL tLq l j) c then [] else [gL tLq l j]):=by
 unfold D7;rw[Yc9 tLq hj,Qiu];congr 1;generalize gL tLq l j=q;cases h:apart q c<;>simp[h]
theorem yb5(l:LPq)(c:PLq):(D7 l c).length<=l.length:=Qkk _ _
structure RMt(l:LPq)(c:PLq)(j:Nat)(s:Md4):Prop where
 le:j<=l.length
 ix:s.is6=(j:Int)
 ph:s.ph=phL (D7 (l.take j) c)
 n:s.ns5=(D7 (l.take j) c).length
 e:s.eh0=bL tLq (D7 (l.take j) c)
theorem Gf1{O:LPq}(h:phL O=0):O=[]:=by cases O with | nil=>rfl | cons=>cases h
theorem I8(O:LPq):(phL O=0/\O=[])\/phL O=1:=by cases O with | nil=>exact .inl ⟨rfl,rfl⟩ | cons=>exact .inr rfl
theorem qf5{α:Type}(t:Ty α):(one (r1L t)).rd (.v (.slice none 0 0),[])=some []:=rfl
def cpA(c:PLq):c7:=.tree 4 c.length (λk=>g8 (bL tP c) k)
theorem qf6(c:PLq):B3 (λk=>tP.row (gL tP c k)) (List.range c.length)=bL tP c:=by
 unfold bL;rw[A2,A2];refine Qkc (by simp) λk h1 h2=>?_
 have hk:k<c.length:=by simpa using h2
 simp[gL,Qda,Qaa hk]
theorem Oe4(c:PLq):tLq.rd [cpA c]=c/\tLq.ok [cpA c]=true:=by
 obtain⟨h1,h2⟩:=qf3 tP c rfl;exact⟨h1,by show Bool.and (Nat.beq 4 4) (okL tP c.length λk=>g8 (bL tP c) k)=true;rw[h2];rfl⟩
def cpR(l:LPq):List (List c7):=B3 (λc=>[cpA c]) l
theorem ee6(l:LPq):len (cpR l)=l.length:=by unfold cpR;rw[A3,A2,List.length_map]
theorem mc9(l:LPq)(c:PLq):app (cpR l) [[cpA c]]=cpR (l++[c]):=by unfold cpR;rw[J9,A2,A2,List.map_append];rfl
theorem vd6{l:LPq}{k:Nat}(h:k<l.length):g8 (cpR l) k=[cpA (gL tLq l k)]:=by
 unfold cpR;exact ld4 (λc=>[cpA c]) tLq.d h
theorem ee7(l:LPq):slR tLq (cpR l) 0 l.length=l/\okS tLq (cpR l) 0 l.length=true:=by
 constructor
 ·unfold slR lsL;refine Qkc (by simp) λk h1 h2=>?_
  have hk:k<l.length:=h2;simp only[List.getElem_map,Qkn,Qar,vd6 hk,(Oe4 _).1];simp[gL,Qda,Qaa hk]
 ·unfold okS okL;rw[Qcb];intro k hk;have hk:k<l.length:=by simpa using hk
  simp only[Qar,vd6 hk,(Oe4 _).2]
theorem Mf0(l:LPq):(one (r1L tLq)).rd (.sl 0 0 l.length 0,[⟨35,1,cpR l,true,false,0⟩])=some l:=by
 show Bool.rec (motive:=λ_=>Option LPq) none (some (slR tLq (cpR l) 0 l.length)) (Bool.and (Nat.beq 1 1) (okS tLq (cpR l) 0 l.length))=some l
 rw[(ee7 l).1,(ee7 l).2];rfl
theorem jd5(O:LPq)(h:O.length<=1000000):(Nat.beq O.length (len (cpR O))&&Nat.ble ((O.length+1)*24) room)=true:=by
 rw[ee6,Qip,Qkl,Qiae];unfold room;omega
structure RCp(l:LPq)(ph:Nat)(is:Int)(ns:Nat)(eh:List (List c7))(j:Nat):Prop where
 le:j<=l.length
 ix:is=(j:Int)
 ph:ph=phL (l.take j)
 n:ns=(l.take j).length
 e:eh=cpR (l.take j)
end Go.Ev.Ce
namespace Go.Proofs
open Go.Shelf
set_option maxRecDepth 100000 in
def Ce.growPs_ren:Go.Shelf.Ren:=⟨fun | 4=>74 | n=>n,fun | 22=>30 | 25=>35 | 3=>3 | 4=>4 | 9=>9 | 20=>20 | 0=>0 | n=>n,fun | n=>n⟩
set_option maxRecDepth 100000 in
theorem Ce.growPs:Go.Proofs.Lays8.n4 Tryz.prog Ce.growPs_ren:={
 mixed:=by kernel_rfl
 f4:=⟨Tryz.f74.name,by decide,Tryz.func74.trans (congrArg some (by kernel_rfl))⟩
 t0:=Tryz.underlying0
 a0:=Tryz.isAgg0
 z0:=Tryz.sizeOf0
 v0:=Tryz.zeroValue0
 t3:=Tryz.underlying3
 a3:=Tryz.isAgg3
 z3:=Tryz.sizeOf3
 v3:=Tryz.zeroValue3
 t4:=Tryz.underlying4
 a4:=Tryz.isAgg4
 z4:=Tryz.sizeOf4
 v4:=Tryz.zeroValue4
 t9:=Tryz.underlying9
 a9:=Tryz.isAgg9
 z9:=Tryz.sizeOf9
 v9:=Tryz.zeroValue9
 t20:=Tryz.underlying20
 a20:=Tryz.isAgg20
 z20:=Tryz.sizeOf20
 v20:=Tryz.zeroValue20
 t22:=Tryz.underlying30
 a22:=Tryz.isAgg30
 z22:=Tryz.sizeOf30
 v22:=Tryz.zeroValue30 }
end Go.Proofs
namespace Go.Ev.Ce
open Go Go.Ev Go.Proofs
def ad5:List c7:=[.v (.slice none 0 0)]
def Va7:Sum:=λargs blks=>match args,blks with
 | [.v (.slice none 0 0), .v (.int .i64 n)], [] => .ite (n == 0) (.ret (.v (.slice none 0 0), []))
   (.guard (Bool.and (decide (0<n)) (Nat.ble (n.toNat*24) room)) (.ret (.sl 0 0 0 0,[⟨35,1,List.replicate n.toNat ad5,true,false,0⟩])))
 |_,_=>.fail
theorem rg0:zeT Tryz.prog 35=some ad5:=by kernel_rfl
theorem rg1:szT Tryz.prog 35=1:=by kernel_rfl
theorem rg2:byT Tryz.prog 35=24:=by kernel_rfl
theorem fg7:Ce.growPs_ren.t 25=35:=by kernel_rfl
theorem zf4:Ce.growPs_ren.f 4=74:=by kernel_rfl
set_option maxRecDepth 100000 in
theorem tc4:l8 prog G 74 Va7:=by
 intro args blks r out he W ρ F w args' hH hlen hargs hG;refine⟨⟨_,Tryz.func74,by kernel_rfl,of_decide_eq_true (by kernel_rfl)⟩,?_⟩
 unfold Va7 at he
 split at he
 case h_2=>cases he
 rename_i n
 match args',hlen with
 |[v0,v1],_ =>
 have e0:=ga8 (hargs 0 _ _ rfl rfl);have e1:=ga8 (hargs 1 _ _ rfl rfl);subst e0 e1
 rcases DT.run_ite_some he with⟨h0,he⟩|⟨h0,he⟩
 ·have h0:n=0:=by simpa using h0
  subst h0;injection he with he;injection he with q1 q2;subst q1 q2
  have:=Any8.slices_Grow_room Ce.growPs none 0 0 0 w (Qaf _) (by omega) (by omega) (by omega)
  rw[zf4] at this;refine this.mono λe w' ⟨h1,h2⟩=>?_
  subst h1 h2;exact⟨_,rfl,ρ,F,.refl,hH,.ofv _⟩
 ·obtain⟨hg,he⟩:=DT.run_guard_some he;rw[Qas,decide_eq_true_eq] at hg;obtain⟨hpos,hroom⟩:=hg;have hroom:=Qae hroom;unfold room at hroom;obtain⟨m,rfl⟩:=Int.eq_ofNat_of_zero_le (Qjb hpos);have hm:0<m:=by omega
  have he:some (c7.sl 0 0 0 0,[(⟨35,1,List.replicate m ad5,true,false,0⟩:c8)])=some (r,out):=he;injection he with he;injection he with q1 q2;subst q1 q2
  obtain⟨ti,zv,hi,hzz,hzr,hone⟩:=ib1 (E:=En []) rg0;have hi:Tryz.prog.info? 35=some ti:=hi;have hts:ti.size=1:=by have:=rg1;simp only[szT,hi] at this;exact this
  have hby:ti.bytes=24:=by have:=rg2;simp only[byT,hi] at this;exact this
  have hzs:zv.cells.size=1:=by
   have:=congrArg List.length hzr
   simpa [ad5] using this.symm
  have hroom':m*24<=140737488355328:=hroom
  have:=Any8.slices_Grow_grow Ce.growPs ti zv (by rw[fg7];exact hi) hzz (by omega) none 0 0 m [] w (Qaf _) (by omega) (by rw[hby];omega) (by omega) (by simp) (λ_=>rfl) (λa ha=>by cases ha)
  rw[zf4,fg7] at this;refine this.mono λe w' ⟨h1,h2⟩=>?_
  have hcap:=grownCap_ge w (0+m) 0 35;have hcap2:=grownCap_le_maxLen w (0+m) 0 35 (by unfold maxLen;omega)
  subst h1;generalize grownCap w (0+m) 0 35=G' at *
  have hsz:∀q,(Builtin.zeroCells zv.cells q).size=q*1:=λq=>by simp[Builtin.zeroCells,hzs]
  have hcc:(#[]++Builtin.zeroCells zv.cells (0+m-0)++Builtin.zeroCells zv.cells (G'-(0+m))).size=G'*1:=by
   rw[Array.size_append,Array.size_append,hsz,hsz];simp;omega
  have hobj:w'.heap[w.heap.size]?=some (.cells (#[]++Builtin.zeroCells zv.cells (0+m-0)++Builtin.zeroCells zv.cells (G'-(0+m))) 35 (0,0)):=by
   rw[h2];exact World.alloc_heap_new w.drew _
  have hold:∀k,k<w.heap.size->w'.heap[k]?=w.heap[k]?:=λk hk=>by
   rw[h2];simp only[World.alloc,Qau,World.drew];rw[if_neg (by omega)]
  have hws:w'.heap.size=w.heap.size+1:=by rw[h2];exact Array.size_push ..
  obtain⟨h6,h7⟩:=hH.newAt (w':=w') (by rw[h2];rfl) (by rw[h2];rfl) (by rw[h2];rfl) (by rw[h2];exact Nat.le_succ _) (by omega) hold w.heap.size (Qaf _) 35 1 (List.replicate m ad5) _ 35 hobj
   (λj r hr=>by rw[Qbu] at hr;split at hr<;>cases hr;rfl) (by rw[Qbm,hcc];omega)
   (λj r c x hr hx=>by
    have hjm:j<m:=by
     have:=(Qab.1 hr).1
     simpa using this
    rw[Qbu,if_pos hjm] at hr;injection hr with hr;subst hr;have hc4:c<1:=(Qab.1 hx).1;rw[hzr,Qbe] at hx;have hcz:c<zv.cells.size:=by omega
    have hq:zv.cells.toList[c]?=some zv.cells[c]:=by simp[hcz]
    rw[hq] at hx;injection hx with hx;subst hx;refine⟨zv.cells[c],?_,.v _ (hone _ (by simp))⟩
    have hlt:j*1+c<m*1:=by omega
    rw[Array.append_assoc,Array.empty_append,Qdb (by rw[hsz];omega)]
    have hm4:(j*1+c) % 1=c:=by omega
    simp only[Builtin.zeroCells,hzs];rw[Array.getElem?_map,Array.getElem?_range];rw[if_pos (by omega)]
    have hc0:c=0:=by omega
    subst hc0;simp[Nat.mod_one,hcz])
   (λ_=>rfl)
  refine⟨_,rfl,_,F,h6,h7,.val (.cell ?_)⟩;refine .sl 0 0 0 0 _ _ { et:=35,es:=1,elems:=List.replicate m ad5,own:=true,dead:=false,g:=0 } rfl rfl (Qaf _) (Qbw _) rfl hcap2 λ_=>⟨.inr ?_,?_,by simp⟩
  ·simp[ρnew]
  ·simp only[ρnew,List.length_nil,if_true];rw[hcc,Qar]
end Go.Ev.Ce
namespace Go.Ev.Ce
open Go Go.Ev Go.Ev.L Go.Proofs
set_option maxRecDepth 100000
def Ga5:List (Nat×Sum):=[(74,Va7)]
theorem cc6:C6 prog G Ga5:=⟨tc4,trivial⟩
structure Z8 where
 (Hf4 ge5:List LPq)
 N7:Int
def bb2(p:Z8)(s:E5):St:=⟨eL tMq p.Hf4::.unk::.unk::i s.is3::ra 5 (eL tMq p.ge5::i p.N7::i s.D6::ra 24 []),[]⟩
def ea9{α:Type}(k:E5->α)(e:Nat->α)(z:α)(p:Z8)(s:E5):α:=let y0:=(↑(List.length (gL tMq p.ge5 s.D6.toNat)):Int);(sl (decide (s.D6<p.N7)) (sl (inB s.D6 (List.length p.ge5)) (sl (decide ((W (s.is3+y0))<0)) z (k ⟨W (s.is3+y0),W (s.D6+1)⟩)) z) (e 1))
def P6(p:Z8)(s:E5):Stp E5:=ea9 .next .exit .fail p s
def Ca4:Lo Z8 E5:=⟨En Ga5,0,Qf8,[1,1,0,1,4,4],[0,3,9,10,11],.p,[⟨sLq tMq::sUq::sUq::sIq::ru2 5 (sLq tMq::sIq::sIq::ru2 24 []),[],λa H=>(⟨aLq tMq a 0,aLq tMq a 9,aIq a 10⟩,⟨aIq a 3,aIq a 11⟩)⟩],P6,[(some 0,λp s=>upq (bb2 p s) [(12,b (decide (s.D6<p.N7)))])],bb2⟩
theorem Vb1:Ca4.OkM:=Lo.okMq [] .nil λp s=>(.ofq @ea9)
structure J5 where
 Ub0:List LPq
 kd6:Int
def Va8(p:J5)(s:A5):St:=⟨ra 6 (nlq::ra 18 (eL tMq p.Ub0::i p.kd6::i s.zb0::ra 8 [])),[]⟩
def Va9(p:J5)(s:A5):St:=⟨ra 6 (.sl 0 0 s.ns6 0::ra 18 (eL tMq p.Ub0::i p.kd6::i s.zb0::ra 8 [])),[bq 35 1 s.eh0]⟩
def Vb2(p:J5)(s:A5):St:=(sel (Nat.beq s.ph 1) (Va9 p s) (Va8 p s))
def N9{α:Type}(k:A5->α)(e:Nat->α)(z:α)(p:J5)(s:A5):α:=(sl (decide (s.zb0<p.kd6)) (sl (inB s.zb0 (List.length p.Ub0)) (sl (Nat.beq (len (B3 (λk=>(tLq).row (gL tLq (gL tMq p.Ub0 s.zb0.toNat) k)) (List.range (List.length (gL tMq p.Ub0 s.zb0.toNat))))) 0) (k ⟨0,W (s.zb0+1),0,[]⟩) z) z) (e 1))
def O0{α:Type}(k:A5->α)(e:Nat->α)(z:α)(p:J5)(s:A5):α:=let y0:=(gL tMq p.Ub0 s.zb0.toNat);let y1:=(List.range (List.length y0));(sl (decide (s.zb0<p.kd6)) (sl (inB s.zb0 (List.length p.Ub0)) (sl (Nat.ble (s.ns6+(len (B3 (λk=>(tLq).row (gL tLq y0 k)) y1))) (len s.eh0)) (k ⟨1,W (s.zb0+1),(s.ns6+(len (B3 (λk=>(tLq).row (gL tLq y0 k)) y1))),(app (N0 s.eh0 s.ns6) (app (B3 (λk=>(tLq).row (gL tLq y0 k)) y1) (l9 s.eh0 (s.ns6+(len (B3 (λk=>(tLq).row (gL tLq y0 k)) y1))))))⟩) z) z) (e 2))
def L3(p:J5)(s:A5):Stp A5:=(sel (Nat.beq s.ph 1) (O0 .next .exit .fail p s) (N9 .next .exit .fail p s))
def Ca5:Lo J5 A5:=⟨En Ga5,0,Qf8,[1,1,1,1,0,1,4,4],[6,25,26,27],.p,[⟨ru2 6 (.s (.o .nil)::ru2 18 (sLq tMq::sIq::sIq::ru2 8 [])),[],λa H=>(⟨aLq tMq a 25,aIq a 26⟩,⟨0,aIq a 27,0,[]⟩)⟩,⟨ru2 6 (.s (.o (.sl 0 0 (some 0) none))::ru2 18 (sLq tMq::sIq::sIq::ru2 8 [])),[⟨35,1,true,none⟩],λa H=>(⟨aLq tMq a 25,aIq a 26⟩,⟨1,aIq a 27,slN (slT a 6),elT H 0⟩)⟩],L3,[(some 2,λp s=>upq (Va8 p s) [(28,b (decide (s.zb0<p.kd6)))]),(some 2,λp s=>upq (Va9 p s) [(28,b (decide (s.zb0<p.kd6)))])],Vb2⟩
theorem Vb3:Ca5.OkM:=Lo.okMq [] .nil λp s=>(.sel (Nat.beq s.ph 1) (.ofq @O0) (.ofq @N9))
def X0{α:Type}(kk:Oa5->α)(x:List LPq):α:=let y0:=(⟨rt tMq (rt tMq x),(↑(List.length (rt tMq x)):Int)⟩:J5);let t1:=(lp (P6 (⟨rt tMq x,rt tMq x,(↑(List.length x):Int)⟩:Z8)) (⟨0,0⟩:E5));let t2:=(lp (L3 y0) (⟨0,0,0,[]⟩:A5));let t3:=(lp (L3 y0) (⟨1,0,0,List.replicate t1.2.is3.toNat ad5⟩:A5));(sl ((cnE tMq x)&&((cnE tMq x)&&true)) (sl (Nat.beq t1.1 1) (sl (t1.2.is3==0) (sl ((cnE tMq (rt tMq x))&&true) (sl (Nat.beq t2.1 1) (kk ⟨1,0,[]⟩) (sl (Nat.beq t2.1 2) (kk ⟨2,t2.2.ns6,t2.2.eh0⟩) (kk ⟨0,0,[]⟩))) (kk ⟨0,0,[]⟩)) (sl (Bool.and (decide (0<t1.2.is3)) (Nat.ble (t1.2.is3.toNat*24) room)) (sl ((cnE tMq (rt tMq x))&&true) (sl (Nat.beq t3.1 1) (kk ⟨1,0,[]⟩) (sl (Nat.beq t3.1 2) (kk ⟨2,t3.2.ns6,t3.2.eh0⟩) (kk ⟨0,0,[]⟩))) (kk ⟨0,0,[]⟩)) (kk ⟨0,0,[]⟩))) (kk ⟨0,0,[]⟩)) (kk ⟨0,0,[]⟩))
def X1(x:List LPq):Oa5:=X0 (λr=>r) x
def Ga6(r:Oa5):DT (c7×List c8):=(Ca8 r.alt 1 (nlq,[]) (Ca8 r.alt 2 (.sl 0 0 r.ns0 0,[bq 35 1 r.eh0]) .fail))
theorem nc0{α β:Type}(F:α->β)(kk:Oa5->α)(x:List LPq):F (X0 kk x)=X0 (λr=>F (kk r)) x:=by unfold X0;(repeat' apply Ie3 (f:=F))<;>rfl
def tb1:Sum:=ba7 (pa5 tMq) (λx=>Ga6 (X1 x))
theorem hc5:l8 prog G 46 tb1:=Lb3 (bd b46 cc6) λx=>Kf4 (.s .p (.s .p (.s (.s .p (.b (.u Ca4.lsM))) (.s .p (.s (.s .p (.b (.u Ca5.lsM))) .p))))) [Ca4.prM,Ca5.prM] (by kernel_rfl) (.cons Vb1 (.cons Vb3 .nil)) (Eq.trans (b:=X0 (λr=>(Ga6 r).run) x) (by kernel_rfl) (nc0 (λr=>(Ga6 r).run) (λr=>r) x).symm)
def bb8{α:Type}(kk:Oa5->α)(x:List Bool):α:=let y0:=(List.range (List.length x));(sl ((!(Nat.beq (List.length x) 0))&&true) (sl (Nat.beq 0 0&&Nat.ble ((0+(len (B3 (λk=>(tB).row (gL tB x k)) y0)))*1) room) (kk ⟨1,(0+(len (B3 (λk=>(tB).row (gL tB x k)) y0))),(app [] (B3 (λk=>(tB).row (gL tB x k)) y0))⟩) (kk ⟨0,0,[]⟩)) (kk ⟨0,0,[]⟩))
def pa7(x:List Bool):Oa5:=bb8 (λr=>r) x
def Db7(r:Oa5):DT (c7×List c8):=(Ca8 r.alt 1 (.sl 0 0 r.ns0 0,[bq 4 1 r.eh0]) .fail)
def Kb0:Sum:=ba7 (pa5 tB) (λx=>Db7 (pa7 x))
theorem Bc7:l8 prog G 47 Kb0:=Lb3 (bd b47 Aa9) λx=>va5 (mEq @bb8 (λr=>(Db7 r).run) x)
def Pa1{α:Type}(kk:Oa5->α)(x:PLq):α:=let y0:=(List.range (List.length x));(sl ((!(Nat.beq (List.length x) 0))&&true) (sl (Nat.beq 0 0&&Nat.ble ((0+(len (B3 (λk=>(tP).row (gL tP x k)) y0)))*32) room) (kk ⟨1,(0+(len (B3 (λk=>(tP).row (gL tP x k)) y0))),(app [] (B3 (λk=>(tP).row (gL tP x k)) y0))⟩) (kk ⟨0,0,[]⟩)) (kk ⟨0,0,[]⟩))
def ia1(x:PLq):Oa5:=Pa1 (λr=>r) x
def tb2(r:Oa5):DT (c7×List c8):=(Ca8 r.alt 1 (.sl 0 0 r.ns0 0,[bq 66 4 r.eh0]) .fail)
def vb5:Sum:=ba7 (pa5 tP) (λx=>tb2 (ia1 x))
theorem nc1:l8 prog G 75 vb5:=Lb3 (bd b75 Aa9) λx=>va5 (mEq @Pa1 (λr=>(tb2 r).run) x)
def sc2:List (Nat×Sum):=[(75,vb5)]
theorem jd6:C6 prog G sc2:=⟨nc1,trivial⟩
structure L6 where
 ph:Nat
 is8:Int
 ns3:Nat
 eh0:List (List c7)
def Sb6(p:Aa1)(s:L6):St:=⟨ra 3 (nlq::.unk::.unk::eL tLq p.zb1::i p.is7::i s.is8::ra 10 []),[]⟩
def Sb7(p:Aa1)(s:L6):St:=⟨ra 3 (.sl 0 0 s.ns3 0::.unk::.unk::eL tLq p.zb1::i p.is7::i s.is8::ra 10 []),[bq 35 1 s.eh0]⟩
def ad6(p:Aa1)(s:L6):St:=(sel (Nat.beq s.ph 1) (Sb7 p s) (Sb6 p s))
def ia7{α:Type}(k:L6->α)(e:Nat->α)(z:α)(p:Aa1)(s:L6):α:=let t1:=(ia1 (rt tP (gL tLq p.zb1 s.is8.toNat)));(sl (decide (s.is8<p.is7)) (sl (inB s.is8 (List.length p.zb1)) (sl (okE tP (gL tLq p.zb1 s.is8.toNat)) (sl (Nat.beq t1.alt 1) (k ⟨1,W (s.is8+1),1,[[(.tree 4 t1.ns0 (λk=>g8 t1.eh0 (0+k)))]]⟩) z) z) z) (e 1))
def ia8{α:Type}(k:L6->α)(e:Nat->α)(z:α)(p:Aa1)(s:L6):α:=let t1:=(ia1 (rt tP (gL tLq p.zb1 s.is8.toNat)));(sl (decide (s.is8<p.is7)) (sl (inB s.is8 (List.length p.zb1)) (sl (okE tP (gL tLq p.zb1 s.is8.toNat)) (sl (Nat.beq t1.alt 1) (sl (Nat.beq s.ns3 (len s.eh0)&&Nat.ble ((s.ns3+1)*24) room) (k ⟨1,W (s.is8+1),s.ns3+1,(app s.eh0 [[(.tree 4 t1.ns0 (λk=>g8 t1.eh0 (0+k)))]])⟩) z) z) z) z) (e 2))
def ma9(p:Aa1)(s:L6):Stp L6:=(sel (Nat.beq s.ph 1) (ia8 .next .exit .fail p s) (ia7 .next .exit .fail p s))
def yb6:Lo Aa1 L6:=⟨En sc2,0,ag3,[1,1,0,1,4,4],[3,6,7,8],.p,[⟨ru2 3 (.s (.o .nil)::sUq::sUq::sLq tLq::sIq::sIq::ru2 10 []),[],λa H=>(⟨aLq tLq a 6,aIq a 7⟩,⟨0,aIq a 8,0,[]⟩)⟩,⟨ru2 3 (.s (.o (.sl 0 0 (some 0) none))::sUq::sUq::sLq tLq::sIq::sIq::ru2 10 []),[⟨35,1,true,none⟩],λa H=>(⟨aLq tLq a 6,aIq a 7⟩,⟨1,aIq a 8,slN (slT a 3),elT H 0⟩)⟩],ma9,[(some 0,λp s=>upq (Sb6 p s) [(9,b (decide (s.is8<p.is7)))]),(some 0,λp s=>upq (Sb7 p s) [(9,b (decide (s.is8<p.is7)))])],ad6⟩
theorem ad7:yb6.Ok:=Lo.okq [] .nil λp s=>(.sel (Nat.beq s.ph 1) (.ofq @ia8) (.ofq @ia7))
def Wa0(x:LPq):ROq:=let t1:=(lp (ma9 (⟨rt tLq x,(↑(List.length x):Int)⟩:Aa1)) (⟨0,0,0,[]⟩:L6));(sl ((cnE tLq x)&&true) (sl (Nat.beq t1.1 1) (some (nlq,[])) (sl (Nat.beq t1.1 2) (some (.sl 0 0 t1.2.ns3 0,[bq 35 1 t1.2.eh0])) none)) none)
def la3(x:LPq):LPq:=aa3 (one (r1L tLq)) (Wa0 x)
def fa0(x:LPq):Bool:=okO (one (r1L tLq)) (Wa0 x)
def Sb8:Sum:=ba7 (pa5 tLq) (λx=>.guard (fa0 x) (.ret ((one (r1L tLq)).enc (la3 x),[])))
theorem sc3:l8 prog G 48 Sb8:=dd5 (bd b48 jd6) (one (r1L tLq)) (o:=Wa0) λx=>da5 (.s .p (.s .p (.s (.s .p (.b (.u yb6.ls))) .p))) [yb6.pr] (.cons ad7 .nil)
structure Ib8 where
 is0:Int
 (da0 g7:PLq)
def jd7:List (Nat×Sum):=[(28,rb4)]
theorem ad8:C6 prog G jd7:=⟨Ab3,trivial⟩
def Jb0{α:Type}(kk:na5->α)(x:Ib8):α:=let t1:=(ra6 (rt tP x.da0) (rt tP x.g7));(sl (okE tP x.da0) (sl (okE tP x.g7) (sl (ra7 (rt tP x.da0) (rt tP x.g7)) (kk ⟨1,!t1⟩) (kk ⟨0,false⟩)) (kk ⟨0,false⟩)) (kk ⟨0,false⟩))
def Ma8(x:Ib8):na5:=Jb0 (λr=>r) x
def hc6(x:Ib8)(r:na5):DT (c7×List c8):=(Ca8 r.alt 1 (b r.bs0,[bq 0 1 [[eL tP x.g7]]]) .fail)
def sc4:Sum:=Oa2 ⟨[sIq,sLq tP,sPq 0],[⟨0,1,true,some [[.c 4 (nL tP)]]⟩],λa H=>(⟨aIq a 0,aLq tP a 1,hLq tP H 0 0 0⟩,())⟩ (λx=>hc6 x (Ma8 x))
theorem jd8:l8 prog G 50 sc4:=K8 (enc:=λx=>⟨[i x.is0,eL tP x.da0,.ptr 0 0 0 0],[bq 0 1 [[eL tP x.g7]]]⟩) (λa H=>by kernel_rfl) (bd b50 ad8) λx=>va5 (mEq @Jb0 (λr=>(hc6 x r).run) x)
def Db8:List (Nat×Sum):=[(50,sc4)]
theorem tc5:C6 prog G Db8:=⟨jd8,trivial⟩
structure N1 where
 ia9:LPq
 is9:Int
structure C4 where
 ph:Nat
 N7:Int
 g7:PLq
 ns5:Nat
 eh1:List (List c7)
def kb7(p:N1)(s:C4):St:=⟨.unk::.fn 50 [.ptr 0 0 0 0]::ra 3 (nlq::.unk::.unk::eL tLq p.ia9::i p.is9::i s.N7::ra 14 []),[bq 0 1 [[eL tP s.g7]]]⟩
def kb8(p:N1)(s:C4):St:=⟨.unk::.fn 50 [.ptr 0 0 0 0]::ra 3 (.sl 1 0 s.ns5 0::.unk::.unk::eL tLq p.ia9::i p.is9::i s.N7::ra 14 []),[bq 0 1 [[eL tP s.g7]],bq 35 1 s.eh1]⟩
def nc2(p:N1)(s:C4):St:=(sel (Nat.beq s.ph 1) (kb8 p s) (kb7 p s))
def U0{α:Type}(k:C4->α)(e:Nat->α)(z:α)(p:N1)(s:C4):α:=let y1:=(rt tP s.g7);let y0:=(gL tLq p.ia9 s.N7.toNat);let t1:=(Ma8 ⟨s.N7,rt tP y0,y1⟩);(sl (decide (s.N7<p.is9)) (sl (inB s.N7 (List.length p.ia9)) (sl ((cnE tP y0)&&((cnE tP s.g7)&&true)) (sl (Nat.beq t1.alt 1) (sl t1.bs0 (k ⟨1,W (s.N7+1),y1,1,[[eL tP y0]]⟩) (k ⟨0,W (s.N7+1),y1,0,[]⟩)) z) z) z) (e 1))
def U1{α:Type}(k:C4->α)(e:Nat->α)(z:α)(p:N1)(s:C4):α:=let y1:=(rt tP s.g7);let y0:=(gL tLq p.ia9 s.N7.toNat);let t1:=(Ma8 ⟨s.N7,rt tP y0,y1⟩);(sl (decide (s.N7<p.is9)) (sl (inB s.N7 (List.length p.ia9)) (sl ((cnE tP y0)&&((cnE tP s.g7)&&true)) (sl (Nat.beq t1.alt 1) (sl t1.bs0 (sl (Nat.beq s.ns5 (len s.eh1)&&Nat.ble ((s.ns5+1)*24) room) (k ⟨1,W (s.N7+1),y1,s.ns5+1,app s.eh1 [[eL tP y0]]⟩) z) (k ⟨1,W (s.N7+1),y1,s.ns5,s.eh1⟩)) z) z) z) (e 2))
def fa1(p:N1)(s:C4):Stp C4:=(sel (Nat.beq s.ph 1) (U1 .next .exit .fail p s) (U0 .next .exit .fail p s))
def Pa2:Lo N1 C4:=⟨En Db8,1,Qf9,[1,1,0,1,4,4],[1,5,8,9,10],.p,[⟨sUq::.fn 50 [.o (.ptr 0 0 0 0)]::ru2 3 (.s (.o .nil)::sUq::sUq::sLq tLq::sIq::sIq::ru2 14 []),[⟨0,1,true,some [[.c 4 (nL tP)]]⟩],λa H=>(⟨aLq tLq a 8,aIq a 9⟩,⟨0,aIq a 10,hLq tP H 0 0 0,0,[]⟩)⟩,⟨sUq::.fn 50 [.o (.ptr 0 0 0 0)]::ru2 3 (.s (.o (.sl 1 0 (some 0) none))::sUq::sUq::sLq tLq::sIq::sIq::ru2 14 []),[⟨0,1,true,some [[.c 4 (nL tP)]]⟩,⟨35,1,true,none⟩],λa H=>(⟨aLq tLq a 8,aIq a 9⟩,⟨1,aIq a 10,hLq tP H 0 0 0,slN (slT a 5),elT H 1⟩)⟩],fa1,[(some 0,λp s=>upq (kb7 p s) [(11,b (decide (s.N7<p.is9)))]),(some 0,λp s=>upq (kb8 p s) [(11,b (decide (s.N7<p.is9)))])],nc2⟩
theorem nc3:Pa2.Ok:=Lo.okq [] .nil λp s=>(.sel (Nat.beq s.ph 1) (.ofq @U1) (.ofq @U0))
structure cb0 where
 alt:Nat
 g7:PLq
 ns0:Nat
 eh1:List (List c7)
def cb1{α:Type}(kk:cb0->α)(x:ua1):α:=let t1:=(lp (fa1 (⟨rt tLq x.H5,(↑(List.length x.H5):Int)⟩:N1)) (⟨0,0,rt tP x.g7,0,[]⟩:C4));(sl ((cnE tLq x.H5)&&((cnE tP x.g7)&&true)) (sl (Nat.beq t1.1 1) (kk ⟨1,t1.2.g7,0,[]⟩) (sl (Nat.beq t1.1 2) (kk ⟨2,t1.2.g7,t1.2.ns5,t1.2.eh1⟩) (kk ⟨0,[],0,[]⟩))) (kk ⟨0,[],0,[]⟩))
def i8(x:ua1):cb0:=cb1 (λr=>r) x
def Db9(x:ua1)(r:cb0):DT (c7×List c8):=(Ca8 r.alt 1 (nlq,[bq 0 1 [[eL tP r.g7]]]) (Ca8 r.alt 2 (.sl 1 0 r.ns0 0,[bq 0 1 [[eL tP r.g7]],bq 35 1 r.eh1]) .fail))
def Kb1:Sum:=Oa2 ⟨[sLq tLq,.fn 50 [.o (.ptr 0 0 0 0)]],[⟨0,1,true,some [[.c 4 (nL tP)]]⟩],λa H=>(⟨aLq tLq a 0,hLq tP H 0 0 0⟩,())⟩ (λx=>Db9 x (i8 x))
theorem Bc8:l8 prog G 49 Kb1:=K8 (enc:=λx=>⟨[eL tLq x.H5,.fn 50 [.ptr 0 0 0 0]],[bq 0 1 [[eL tP x.g7]]]⟩) (λa H=>by kernel_rfl) (bd b49 tc5) λx=>da5 (.s .p (.s .p (.s (.s .p (.b (.u Pa2.ls))) .p))) [Pa2.pr] (.cons nc3 .nil) (mEq @cb1 (λr=>(Db9 x r).run) x)
def Bc9:List (Nat×Sum):=[(44,sb8),(46,tb1),(45,Ib5),(47,Kb0),(48,Sb8),(49,Kb1),(29,Sb1),(27,fb0)]
theorem sd4:C6 prog G Bc9:=⟨Ib6,hc5,gc7,Bc7,sc3,Bc8,rc6,sb6,trivial⟩
structure ya5 where
 (Ka2 ib9 J1:LPq)
 Sc2:Int
 (Qa9 Q1:Nat)
 G9:LPq
structure Q9 where
 B9:Int
 (eh2 eh3:List (List c7))
def hc7(p:ya5)(s:Q9):St:=⟨.unk::.unk::eL tLq p.Ka2::eL tLq p.ib9::ra 4 (.ptr 0 0 0 0::ra 3 (.ptr 1 0 0 0::ra 43 (eL tLq p.J1::i p.Sc2::i s.B9::ra 51 []))),[bq 0 3 [[nlq,nlq,nlq]],bq 0 0 [[.sl 2 0 p.Qa9 0,.sl 3 0 p.Q1 0,eL tLq p.G9]],bq 4 1 s.eh2,bq 4 1 s.eh3]⟩
def Qa8{α:Type}(k:Q9->α)(e:Nat->α)(z:α)(p:ya5)(s:Q9):α:=let y7:=(inB s.B9 p.Q1);let y5:=(W (s.B9+1));let y1:=(inB s.B9 p.Qa9);let a1:=(g8 s.eh3 (0+s.B9.toNat));let y0:=(setAt s.eh3 (0+s.B9.toNat) (V6 a1 0 [b true]));let a2:=(g8 s.eh2 (0+s.B9.toNat));let y10:=(toB (hdA (l9 a2 0)));let a0:=((Nat.blt (0+s.B9.toNat) (len s.eh2))&&(Nat.ble (0+1) (len a2)));let y6:=(a0&&(sa5 [CK.bool] (l9 a2 0)));let a3:=(gL tLq p.J1 s.B9.toNat);let t1:=(i8 ⟨rt tLq p.G9,rt tP a3⟩);let y14:=(Nat.beq t1.alt 2);let y13:=(Nat.beq t1.alt 1);let y4:=(rt tP t1.g7);let y11:=(K0 [] y4);let y3:=(okE tP t1.g7);let t2:=(s4 [] y4);let y8:=(setAt s.eh2 (0+s.B9.toNat) (V6 a2 0 [b t2.1]));let t4:=(M6 (rt tP a3) (rt tLq p.Ka2));let t5:=(M6 (rt tP a3) (rt tLq p.ib9));let y2:=(setAt s.eh3 (0+s.B9.toNat) (V6 a1 0 [b (!t5)]));let a4:=((Nat.blt (0+s.B9.toNat) (len s.eh3))&&(Nat.ble (0+1) (len a1)));let a6:=(λk=>g8 t1.eh1 (0+k));let y12:=(okL tLq t1.ns0 a6);let t3:=(s4 (lsL tLq t1.ns0 a6) y4);let y9:=(setAt s.eh2 (0+s.B9.toNat) (V6 a2 0 [b t3.1]));let a5:=(K0 (lsL tLq t1.ns0 a6) y4);let a7:=((cnE tLq p.G9)&&((cnE tP a3)&&true));let w0:α:=(sl y1 (sl a0 (k ⟨y5,y8,y0⟩) z) z);let w1:α:=(sl y1 (sl a0 (k ⟨y5,y9,y0⟩) z) z);(sl (decide (s.B9<p.Sc2)) (sl (inB s.B9 (List.length p.J1)) (sl y7 (sl (a4&&(sa5 [CK.bool] (l9 a1 0))) (sl (toB (hdA (l9 a1 0))) (sl y7 (sl a4 (sl y1 (sl y6 (sl y10 (k ⟨y5,s.eh2,y0⟩) (sl a7 (sl y13 (sl y3 (sl y11 (sl (t2.2 != 0) (e 1) w0) z) z) (sl y14 (sl y12 (sl y3 (sl a5 (sl (t3.2 != 0) (e 2) w1) z) z) z) z)) z)) z) z) z) z) (sl (okE tP a3) (sl (okE tLq p.Ka2) (sl (ka0 (rt tP a3) (rt tLq p.Ka2)) (sl (!t4) (sl y7 (sl a4 (sl y1 (sl y6 (sl y10 (k ⟨y5,s.eh2,y0⟩) (sl a7 (sl y13 (sl y3 (sl y11 (sl (t2.2 != 0) (e 3) w0) z) z) (sl y14 (sl y12 (sl y3 (sl a5 (sl (t3.2 != 0) (e 4) w1) z) z) z) z)) z)) z) z) z) z) (sl (okE tP a3) (sl (okE tLq p.ib9) (sl (ka0 (rt tP a3) (rt tLq p.ib9)) (sl y7 (sl a4 (sl y1 (sl y6 (sl y10 (k ⟨y5,s.eh2,y2⟩) (sl a7 (sl y13 (sl y3 (sl y11 (sl (t2.2 != 0) (e 5) (sl y1 (sl a0 (k ⟨y5,y8,y2⟩) z) z)) z) z) (sl y14 (sl y12 (sl y3 (sl a5 (sl (t3.2 != 0) (e 6) (sl y1 (sl a0 (k ⟨y5,y9,y2⟩) z) z)) z) z) z) z)) z)) z) z) z) z) z) z) z)) z) z) z)) z) z) z) (e 7))
def ca3(p:ya5)(s:Q9):Stp Q9:=Qa8 .next .exit .fail p s
def Jb1:Lo ya5 Q9:=⟨En Bc9,0,Zf9,[1,1,1,1,1,0,1,4,4],[2,3,8,12,56,57,58],.p,[⟨sUq::sUq::sLq tLq::sLq tLq::ru2 4 (sPq 0::ru2 3 (sPq 1::ru2 43 (sLq tLq::sIq::sIq::ru2 51 []))),[⟨0,3,true,some [[.o .nil,.o .nil,.o .nil]]⟩,⟨0,0,true,some [[.o (.sl 2 0 (some 0) none),.o (.sl 3 0 (some 0) none),.c 1 (nL tLq)]]⟩,⟨4,1,true,none⟩,⟨4,1,true,none⟩],λa H=>(⟨aLq tLq a 2,aLq tLq a 3,aLq tLq a 56,aIq a 57,slN (slT (rwT (elT H 1) 0) 0),slN (slT (rwT (elT H 1) 0) 1),hLq tLq H 1 0 2⟩,⟨aIq a 58,elT H 2,elT H 3⟩)⟩],ca3,[(none,λp s=>let t1:=(i8 ⟨rt tLq p.G9,rt tP (gL tLq p.J1 s.B9.toNat)⟩);let t2:=(s4 [] (rt tP t1.g7));⟨.unk::.unk::eL tLq p.Ka2::eL tLq p.ib9::ra 4 (.ptr 0 0 0 0::i t2.2::.unk::.unk::.ptr 1 0 0 0::i s.B9::.ptr 4 0 0 0::nlq::b t2.1::i t2.2::ra 38 (eL tLq p.J1::i p.Sc2::i s.B9::b (decide (s.B9<p.Sc2))::i s.B9::.tptr [eL tP (gL tLq p.J1 s.B9.toNat)]::eL tP (gL tLq p.J1 s.B9.toNat)::.ptr 1 0 1 0::.sl 3 0 p.Q1 0::i s.B9::.ptr 1 0 1 0::.sl 3 0 p.Q1 0::i s.B9::.ptr 3 (0+s.B9.toNat) 0 0::b (toB (hdA (l9 (g8 s.eh3 (0+s.B9.toNat)) 0)))::b true::u::u::u::u::b true::b true::u::u::u::u::b true::.ptr 3 (0+s.B9.toNat) 0 0::.ptr 1 0 0 0::.sl 2 0 p.Qa9 0::i s.B9::.ptr 2 (0+s.B9.toNat) 0 0::b (toB (hdA (l9 (g8 s.eh2 (0+s.B9.toNat)) 0)))::.ptr 1 0 2 0::eL tLq p.G9::.fn 50 [.ptr 4 0 0 0]::nlq::.tup [b t2.1,i t2.2]::nlq::eL tP t1.g7::.tup [b t2.1,i t2.2]::b t2.1::i t2.2::i t2.2::b (t2.2 != 0)::.agg [nlq,nlq,nlq]::i t2.2::ra 7 [])),[bq 0 3 [[nlq,nlq,nlq]],bq 0 0 [[.sl 2 0 p.Qa9 0,.sl 3 0 p.Q1 0,eL tLq p.G9]],bq 4 1 s.eh2,bq 4 1 (setAt s.eh3 (0+s.B9.toNat) (V6 (g8 s.eh3 (0+s.B9.toNat)) 0 [b true])),bq 0 1 [[eL tP t1.g7]]]⟩),(none,λp s=>let t1:=(i8 ⟨rt tLq p.G9,rt tP (gL tLq p.J1 s.B9.toNat)⟩);let t3:=(s4 (lsL tLq t1.ns0 (λk=>g8 t1.eh1 (0+k))) (rt tP t1.g7));⟨.unk::.unk::eL tLq p.Ka2::eL tLq p.ib9::ra 4 (.ptr 0 0 0 0::i t3.2::.unk::.unk::.ptr 1 0 0 0::i s.B9::.ptr 4 0 0 0::.sl 5 0 t1.ns0 0::b t3.1::i t3.2::ra 38 (eL tLq p.J1::i p.Sc2::i s.B9::b (decide (s.B9<p.Sc2))::i s.B9::.tptr [eL tP (gL tLq p.J1 s.B9.toNat)]::eL tP (gL tLq p.J1 s.B9.toNat)::.ptr 1 0 1 0::.sl 3 0 p.Q1 0::i s.B9::.ptr 1 0 1 0::.sl 3 0 p.Q1 0::i s.B9::.ptr 3 (0+s.B9.toNat) 0 0::b (toB (hdA (l9 (g8 s.eh3 (0+s.B9.toNat)) 0)))::b true::u::u::u::u::b true::b true::u::u::u::u::b true::.ptr 3 (0+s.B9.toNat) 0 0::.ptr 1 0 0 0::.sl 2 0 p.Qa9 0::i s.B9::.ptr 2 (0+s.B9.toNat) 0 0::b (toB (hdA (l9 (g8 s.eh2 (0+s.B9.toNat)) 0)))::.ptr 1 0 2 0::eL tLq p.G9::.fn 50 [.ptr 4 0 0 0]::.sl 5 0 t1.ns0 0::.tup [b t3.1,i t3.2]::.sl 5 0 t1.ns0 0::eL tP t1.g7::.tup [b t3.1,i t3.2]::b t3.1::i t3.2::i t3.2::b (t3.2 != 0)::.agg [nlq,nlq,nlq]::i t3.2::ra 7 [])),[bq 0 3 [[nlq,nlq,nlq]],bq 0 0 [[.sl 2 0 p.Qa9 0,.sl 3 0 p.Q1 0,eL tLq p.G9]],bq 4 1 s.eh2,bq 4 1 (setAt s.eh3 (0+s.B9.toNat) (V6 (g8 s.eh3 (0+s.B9.toNat)) 0 [b true])),bq 0 1 [[eL tP t1.g7]],bq 35 1 t1.eh1]⟩),(none,λp s=>let t1:=(i8 ⟨rt tLq p.G9,rt tP (gL tLq p.J1 s.B9.toNat)⟩);let t2:=(s4 [] (rt tP t1.g7));let t4:=(M6 (rt tP (gL tLq p.J1 s.B9.toNat)) (rt tLq p.Ka2));⟨.unk::.unk::eL tLq p.Ka2::eL tLq p.ib9::ra 4 (.ptr 0 0 0 0::i t2.2::.unk::.unk::.ptr 1 0 0 0::i s.B9::.ptr 4 0 0 0::nlq::b t2.1::i t2.2::ra 38 (eL tLq p.J1::i p.Sc2::i s.B9::b (decide (s.B9<p.Sc2))::i s.B9::.tptr [eL tP (gL tLq p.J1 s.B9.toNat)]::eL tP (gL tLq p.J1 s.B9.toNat)::.ptr 1 0 1 0::.sl 3 0 p.Q1 0::i s.B9::.ptr 1 0 1 0::.sl 3 0 p.Q1 0::i s.B9::.ptr 3 (0+s.B9.toNat) 0 0::b (toB (hdA (l9 (g8 s.eh3 (0+s.B9.toNat)) 0)))::b false::eL tP (gL tLq p.J1 s.B9.toNat)::eL tLq p.Ka2::b t4::b (!t4)::b (!t4)::b true::u::u::u::u::b true::.ptr 3 (0+s.B9.toNat) 0 0::.ptr 1 0 0 0::.sl 2 0 p.Qa9 0::i s.B9::.ptr 2 (0+s.B9.toNat) 0 0::b (toB (hdA (l9 (g8 s.eh2 (0+s.B9.toNat)) 0)))::.ptr 1 0 2 0::eL tLq p.G9::.fn 50 [.ptr 4 0 0 0]::nlq::.tup [b t2.1,i t2.2]::nlq::eL tP t1.g7::.tup [b t2.1,i t2.2]::b t2.1::i t2.2::i t2.2::b (t2.2 != 0)::.agg [nlq,nlq,nlq]::i t2.2::ra 7 [])),[bq 0 3 [[nlq,nlq,nlq]],bq 0 0 [[.sl 2 0 p.Qa9 0,.sl 3 0 p.Q1 0,eL tLq p.G9]],bq 4 1 s.eh2,bq 4 1 (setAt s.eh3 (0+s.B9.toNat) (V6 (g8 s.eh3 (0+s.B9.toNat)) 0 [b true])),bq 0 1 [[eL tP t1.g7]]]⟩),(none,λp s=>let t1:=(i8 ⟨rt tLq p.G9,rt tP (gL tLq p.J1 s.B9.toNat)⟩);let t3:=(s4 (lsL tLq t1.ns0 (λk=>g8 t1.eh1 (0+k))) (rt tP t1.g7));let t4:=(M6 (rt tP (gL tLq p.J1 s.B9.toNat)) (rt tLq p.Ka2));⟨.unk::.unk::eL tLq p.Ka2::eL tLq p.ib9::ra 4 (.ptr 0 0 0 0::i t3.2::.unk::.unk::.ptr 1 0 0 0::i s.B9::.ptr 4 0 0 0::.sl 5 0 t1.ns0 0::b t3.1::i t3.2::ra 38 (eL tLq p.J1::i p.Sc2::i s.B9::b (decide (s.B9<p.Sc2))::i s.B9::.tptr [eL tP (gL tLq p.J1 s.B9.toNat)]::eL tP (gL tLq p.J1 s.B9.toNat)::.ptr 1 0 1 0::.sl 3 0 p.Q1 0::i s.B9::.ptr 1 0 1 0::.sl 3 0 p.Q1 0::i s.B9::.ptr 3 (0+s.B9.toNat) 0 0::b (toB (hdA (l9 (g8 s.eh3 (0+s.B9.toNat)) 0)))::b false::eL tP (gL tLq p.J1 s.B9.toNat)::eL tLq p.Ka2::b t4::b (!t4)::b (!t4)::b true::u::u::u::u::b true::.ptr 3 (0+s.B9.toNat) 0 0::.ptr 1 0 0 0::.sl 2 0 p.Qa9 0::i s.B9::.ptr 2 (0+s.B9.toNat) 0 0::b (toB (hdA (l9 (g8 s.eh2 (0+s.B9.toNat)) 0)))::.ptr 1 0 2 0::eL tLq p.G9::.fn 50 [.ptr 4 0 0 0]::.sl 5 0 t1.ns0 0::.tup [b t3.1,i t3.2]::.sl 5 0 t1.ns0 0::eL tP t1.g7::.tup [b t3.1,i t3.2]::b t3.1::i t3.2::i t3.2::b (t3.2 != 0)::.agg [nlq,nlq,nlq]::i t3.2::ra 7 [])),[bq 0 3 [[nlq,nlq,nlq]],bq 0 0 [[.sl 2 0 p.Qa9 0,.sl 3 0 p.Q1 0,eL tLq p.G9]],bq 4 1 s.eh2,bq 4 1 (setAt s.eh3 (0+s.B9.toNat) (V6 (g8 s.eh3 (0+s.B9.toNat)) 0 [b true])),bq 0 1 [[eL tP t1.g7]],bq 35 1 t1.eh1]⟩),(none,λp s=>let t1:=(i8 ⟨rt tLq p.G9,rt tP (gL tLq p.J1 s.B9.toNat)⟩);let t2:=(s4 [] (rt tP t1.g7));let t4:=(M6 (rt tP (gL tLq p.J1 s.B9.toNat)) (rt tLq p.Ka2));let t5:=(M6 (rt tP (gL tLq p.J1 s.B9.toNat)) (rt tLq p.ib9));⟨.unk::.unk::eL tLq p.Ka2::eL tLq p.ib9::ra 4 (.ptr 0 0 0 0::i t2.2::.unk::.unk::.ptr 1 0 0 0::i s.B9::.ptr 4 0 0 0::nlq::b t2.1::i t2.2::ra 38 (eL tLq p.J1::i p.Sc2::i s.B9::b (decide (s.B9<p.Sc2))::i s.B9::.tptr [eL tP (gL tLq p.J1 s.B9.toNat)]::eL tP (gL tLq p.J1 s.B9.toNat)::.ptr 1 0 1 0::.sl 3 0 p.Q1 0::i s.B9::.ptr 1 0 1 0::.sl 3 0 p.Q1 0::i s.B9::.ptr 3 (0+s.B9.toNat) 0 0::b (toB (hdA (l9 (g8 s.eh3 (0+s.B9.toNat)) 0)))::b false::eL tP (gL tLq p.J1 s.B9.toNat)::eL tLq p.Ka2::b t4::b (!t4)::b (!t4)::b false::eL tP (gL tLq p.J1 s.B9.toNat)::eL tLq p.ib9::b t5::b (!t5)::b (!t5)::.ptr 3 (0+s.B9.toNat) 0 0::.ptr 1 0 0 0::.sl 2 0 p.Qa9 0::i s.B9::.ptr 2 (0+s.B9.toNat) 0 0::b (toB (hdA (l9 (g8 s.eh2 (0+s.B9.toNat)) 0)))::.ptr 1 0 2 0::eL tLq p.G9::.fn 50 [.ptr 4 0 0 0]::nlq::.tup [b t2.1,i t2.2]::nlq::eL tP t1.g7::.tup [b t2.1,i t2.2]::b t2.1::i t2.2::i t2.2::b (t2.2 != 0)::.agg [nlq,nlq,nlq]::i t2.2::ra 7 [])),[bq 0 3 [[nlq,nlq,nlq]],bq 0 0 [[.sl 2 0 p.Qa9 0,.sl 3 0 p.Q1 0,eL tLq p.G9]],bq 4 1 s.eh2,bq 4 1 (setAt s.eh3 (0+s.B9.toNat) (V6 (g8 s.eh3 (0+s.B9.toNat)) 0 [b (!t5)])),bq 0 1 [[eL tP t1.g7]]]⟩),(none,λp s=>let t1:=(i8 ⟨rt tLq p.G9,rt tP (gL tLq p.J1 s.B9.toNat)⟩);let t3:=(s4 (lsL tLq t1.ns0 (λk=>g8 t1.eh1 (0+k))) (rt tP t1.g7));let t4:=(M6 (rt tP (gL tLq p.J1 s.B9.toNat)) (rt tLq p.Ka2));let t5:=(M6 (rt tP (gL tLq p.J1 s.B9.toNat)) (rt tLq p.ib9));⟨.unk::.unk::eL tLq p.Ka2::eL tLq p.ib9::ra 4 (.ptr 0 0 0 0::i t3.2::.unk::.unk::.ptr 1 0 0 0::i s.B9::.ptr 4 0 0 0::.sl 5 0 t1.ns0 0::b t3.1::i t3.2::ra 38 (eL tLq p.J1::i p.Sc2::i s.B9::b (decide (s.B9<p.Sc2))::i s.B9::.tptr [eL tP (gL tLq p.J1 s.B9.toNat)]::eL tP (gL tLq p.J1 s.B9.toNat)::.ptr 1 0 1 0::.sl 3 0 p.Q1 0::i s.B9::.ptr 1 0 1 0::.sl 3 0 p.Q1 0::i s.B9::.ptr 3 (0+s.B9.toNat) 0 0::b (toB (hdA (l9 (g8 s.eh3 (0+s.B9.toNat)) 0)))::b false::eL tP (gL tLq p.J1 s.B9.toNat)::eL tLq p.Ka2::b t4::b (!t4)::b (!t4)::b false::eL tP (gL tLq p.J1 s.B9.toNat)::eL tLq p.ib9::b t5::b (!t5)::b (!t5)::.ptr 3 (0+s.B9.toNat) 0 0::.ptr 1 0 0 0::.sl 2 0 p.Qa9 0::i s.B9::.ptr 2 (0+s.B9.toNat) 0 0::b (toB (hdA (l9 (g8 s.eh2 (0+s.B9.toNat)) 0)))::.ptr 1 0 2 0::eL tLq p.G9::.fn 50 [.ptr 4 0 0 0]::.sl 5 0 t1.ns0 0::.tup [b t3.1,i t3.2]::.sl 5 0 t1.ns0 0::eL tP t1.g7::.tup [b t3.1,i t3.2]::b t3.1::i t3.2::i t3.2::b (t3.2 != 0)::.agg [nlq,nlq,nlq]::i t3.2::ra 7 [])),[bq 0 3 [[nlq,nlq,nlq]],bq 0 0 [[.sl 2 0 p.Qa9 0,.sl 3 0 p.Q1 0,eL tLq p.G9]],bq 4 1 s.eh2,bq 4 1 (setAt s.eh3 (0+s.B9.toNat) (V6 (g8 s.eh3 (0+s.B9.toNat)) 0 [b (!t5)])),bq 0 1 [[eL tP t1.g7]],bq 35 1 t1.eh1]⟩),(some 0,λp s=>upq (hc7 p s) [(59,b (decide (s.B9<p.Sc2)))])],hc7⟩
theorem jd9:Jb1.OkM:=Lo.okMq [] .nil λp s=>(.ofq @Qa8)
def fb5(x:Prt)(y:Pce)(z:LPq)(w:LPq):ROq:=let y9:=((okE tLq y.cu)&&((okE tLq z)&&true));let y8:=(⟨x.nm,rt tLq x.cl,rt tI x.wt⟩:Prt);let y7:=(.tup [.agg [nlq,nlq,nlq],i 2],[]);let y6:=(⟨rt tB y.su,rt tB y.to,rt tLq y.cu⟩:Pce);let t1:=(Ga2 y8 y6);let t2:=(X1 [rt tLq z,rt tLq w]);let t3:=(pa2 []);let t4:=(pa7 (rt tB y.su));let t5:=(pa7 (rt tB y.to));let y10:=(⟨0,t4.eh0,t5.eh0⟩:Q9);let t6:=(X1 [rt tLq y.cu,rt tLq z]);let t7:=(la3 []);let y5:=((cnE tLq z)&&((cnE tLq w)&&((cnE tLq x.cl)&&((cnE tLq t7)&&true))));let t8:=(lp (ca3 (⟨rt tLq z,rt tLq w,rt tLq x.cl,(↑(List.length x.cl):Int),t4.ns0,t5.ns0,rt tLq t7⟩:ya5)) y10);let t9:=(i8 ⟨rt tLq (rt tLq t7),rt tP (gL tLq (rt tLq x.cl) t8.2.B9.toNat)⟩);let t10:=(s4 [] (rt tP t9.g7));let y0:=(.tup [.agg [nlq,nlq,nlq],i t10.2],[]);let t11:=(s4 (lsL tLq t9.ns0 (λk=>g8 t9.eh1 (0+k))) (rt tP t9.g7));let y1:=(.tup [.agg [nlq,nlq,nlq],i t11.2],[]);let t21:=(pa2 (lsL tLq t2.ns0 (λk=>g8 t2.eh0 (0+k))));let a0:=(λk=>g8 t6.eh0 (0+k));let y11:=(fa0 (lsL tLq t6.ns0 a0));let t14:=(la3 (lsL tLq t6.ns0 a0));let y4:=((cnE tLq z)&&((cnE tLq w)&&((cnE tLq x.cl)&&((cnE tLq t14)&&true))));let t15:=(lp (ca3 (⟨rt tLq z,rt tLq w,rt tLq x.cl,(↑(List.length x.cl):Int),t4.ns0,t5.ns0,rt tLq t14⟩:ya5)) y10);let t16:=(i8 ⟨rt tLq (rt tLq t14),rt tP (gL tLq (rt tLq x.cl) t15.2.B9.toNat)⟩);let t17:=(s4 [] (rt tP t16.g7));let y2:=(.tup [.agg [nlq,nlq,nlq],i t17.2],[]);let t18:=(s4 (lsL tLq t16.ns0 (λk=>g8 t16.eh1 (0+k))) (rt tP t16.g7));let y3:=(.tup [.agg [nlq,nlq,nlq],i t18.2],[]);(sl ((okE tLq x.cl)&&((okE tI x.wt)&&true)) (sl ((okE tB y.su)&&((okE tB y.to)&&((okE tLq y.cu)&&true))) (sl (Ga3 y8 y6) (sl (t1 != 0) (some (.tup [.agg [nlq,nlq,nlq],i t1],[])) (sl ((okE tLq z)&&((okE tLq w)&&true)) (sl (Nat.beq t2.alt 1) (sl (pa3 []) (sl (t3 != 0) (some (.tup [.agg [nlq,nlq,nlq],i t3],[])) (sl (decide ((W ((↑(List.length y.cu):Int)+(↑(List.length z):Int)))>24)) (some y7) (sl (okE tB y.su) (sl (Nat.beq t4.alt 1) (sl (okE tB y.to) (sl (Nat.beq t5.alt 1) (sl y9 (sl (Nat.beq t6.alt 1) (sl (fa0 []) (sl y5 (sl (Nat.beq t8.1 1) (some y0) (sl (Nat.beq t8.1 2) (some y1) (sl (Nat.beq t8.1 3) (some y0) (sl (Nat.beq t8.1 4) (some y1) (sl (Nat.beq t8.1 5) (some y0) (sl (Nat.beq t8.1 6) (some y1) (sl (Nat.beq t8.1 7) (some ((.tup [(.agg [(.tree 1 t4.ns0 (λk=>g8 t8.2.eh2 (0+k))),(.tree 1 t5.ns0 (λk=>g8 t8.2.eh3 (0+k))),eL tLq (rt tLq t7)]),i 0]),[])) none))))))) none) none) (sl (Nat.beq t6.alt 2) (sl (okL tLq t6.ns0 a0) (sl y11 (sl y4 (sl (Nat.beq t15.1 1) (some y2) (sl (Nat.beq t15.1 2) (some y3) (sl (Nat.beq t15.1 3) (some y2) (sl (Nat.beq t15.1 4) (some y3) (sl (Nat.beq t15.1 5) (some y2) (sl (Nat.beq t15.1 6) (some y3) (sl (Nat.beq t15.1 7) (some ((.tup [(.agg [(.tree 1 t4.ns0 (λk=>g8 t15.2.eh2 (0+k))),(.tree 1 t5.ns0 (λk=>g8 t15.2.eh3 (0+k))),eL tLq (rt tLq t14)]),i 0]),[])) none))))))) none) none) none) none)) none) none) none) none) none))) none) (sl (Nat.beq t2.alt 2) (sl (okL tLq t2.ns0 (λk=>g8 t2.eh0 (0+k))) (sl (pa3 (lsL tLq t2.ns0 (λk=>g8 t2.eh0 (0+k)))) (sl (t21 != 0) (some (.tup [.agg [nlq,nlq,nlq],i t21],[])) (sl (decide ((W ((↑(List.length y.cu):Int)+(↑(List.length z):Int)))>24)) (some y7) (sl (okE tB y.su) (sl (Nat.beq t4.alt 1) (sl (okE tB y.to) (sl (Nat.beq t5.alt 1) (sl y9 (sl (Nat.beq t6.alt 1) (sl (fa0 []) (sl y5 (sl (Nat.beq t8.1 1) (some y0) (sl (Nat.beq t8.1 2) (some y1) (sl (Nat.beq t8.1 3) (some y0) (sl (Nat.beq t8.1 4) (some y1) (sl (Nat.beq t8.1 5) (some y0) (sl (Nat.beq t8.1 6) (some y1) (sl (Nat.beq t8.1 7) (some ((.tup [(.agg [(.tree 1 t4.ns0 (λk=>g8 t8.2.eh2 (0+k))),(.tree 1 t5.ns0 (λk=>g8 t8.2.eh3 (0+k))),eL tLq (rt tLq t7)]),i 0]),[])) none))))))) none) none) (sl (Nat.beq t6.alt 2) (sl (okL tLq t6.ns0 a0) (sl y11 (sl y4 (sl (Nat.beq t15.1 1) (some y2) (sl (Nat.beq t15.1 2) (some y3) (sl (Nat.beq t15.1 3) (some y2) (sl (Nat.beq t15.1 4) (some y3) (sl (Nat.beq t15.1 5) (some y2) (sl (Nat.beq t15.1 6) (some y3) (sl (Nat.beq t15.1 7) (some ((.tup [(.agg [(.tree 1 t4.ns0 (λk=>g8 t15.2.eh2 (0+k))),(.tree 1 t5.ns0 (λk=>g8 t15.2.eh3 (0+k))),eL tLq (rt tLq t14)]),i 0]),[])) none))))))) none) none) none) none)) none) none) none) none) none))) none) none) none)) none)) none) none) none)
def sa9(x:Prt)(y:Pce)(z:LPq)(w:LPq):Pce×Int:=aa3 (two r1O r1I) (fb5 x y z w)
def ta0(x:Prt)(y:Pce)(z:LPq)(w:LPq):Bool:=okO (two r1O r1I) (fb5 x y z w)
def cc7:Sum:=Se5 cJ cO (pa5 tLq) (pa5 tLq) (λx y z w=>.guard (ta0 x y z w) (.ret ((two r1O r1I).enc (sa9 x y z w),[])))
theorem Cc0:l8 prog G 19 cc7:=hg4 (bd b19 sd4) (two r1O r1I) (o:=fb5) λx y z w=>Bd4 (.s .p (.s .p (.s .p (.s .p (.s .p (.s (.s .p (.b (.u Jb1.lsM))) .p)))))) [Jb1.prM] (.cons jd9 .nil)
theorem Fe2{l:List LPq}{j:Nat}(h:j<l.length):gL tMq l j=l[j]:=eb4 tMq h
theorem Ye2(ls:List LPq)(hn:ls.length<=1000000000)(hl:ls.flatten.length<=1000000000):∃m,lp (P6 ⟨ls,ls,(ls.length:Int)⟩) ⟨0,0⟩=(1,⟨(ls.flatten.length:Int),m⟩):=by
 have h:=Ma1 (step:=P6 ⟨ls,ls,(ls.length:Int)⟩) (mk:=λj (n:Nat)=>(⟨(n:Int),(j:Int)⟩:E5)) (f:=λl _ n=>n+l.length) (g:=λl n=>n+l.flatten.length) (fin:=λ_=>1) ls
  (λj n=>n+(ls.drop j).flatten.length=ls.flatten.length) hn (λ_=>rfl) (λx r a=>by simp only[List.flatten_cons,Qdc];omega)
  (λj n hj hi=>by
   rw[Qib hj,List.flatten_cons,Qdc] at hi;have hW:W ((n:Int)+(ls[j].length:Int))=((n+ls[j].length:Nat):Int):=by rw[ja8 (by omega) (by omega)];omega
   refine⟨?_,by show n+ls[j].length+(ls.drop (j+1)).flatten.length=_;omega⟩
   simp only[P6,ea9,Int.toNat_natCast,Fe2 hj,hW,D0 hj (by omega)]
   rw[btD (s8 hj),bt (j9 hj),bfD (by omega)])
  (λj n hj _=>by
   simp only[P6,ea9];rw[bfD (by omega)]) 0 0 (by simp)
 have h:=h.1;rw[Qia,Qar] at h;exact⟨_,h⟩
theorem Ye3{ls:List LPq}(h:ls.flatten=[]){j:Nat}(hj:j<ls.length):ls[j]=[]:=by
 rw[List.flatten_eq_nil_iff] at h;exact h _ (Qif hj)
theorem qf7(ls:List LPq)(hn:ls.length<=1000000000)(hl:ls.flatten=[]):∃s,lp (L3 ⟨ls,(ls.length:Int)⟩) ⟨0,0,0,[]⟩=(1,s):=by
 have h:=Ma1 (step:=L3 ⟨ls,(ls.length:Int)⟩) (mk:=λj (_:Unit)=>(⟨0,(j:Int),0,[]⟩:A5)) (f:=λ_ _ n=>n) (g:=λ_ n=>n) (fin:=λ_=>1) ls
  (λ_ _=>True) hn (λ_=>rfl) (λx r a=>rfl)
  (λj n hj hi=>by
   refine⟨?_,trivial⟩;show N9 Stp.next Stp.exit Stp.fail _ _=_;simp only[N9,Int.toNat_natCast,Fe2 hj,Ye3 hl hj,D0 hj (by omega)]
   rw[btD (s8 hj),bt (j9 hj)]
   rfl)
  (λj n hj _=>by
   show N9 Stp.next Stp.exit Stp.fail _ _=_;simp only[N9];rw[bfD (by omega)]) 0 () trivial
 exact⟨_,h.1⟩
def parts(t:Nat)(d:LPq):List (List c7):=app (bL tLq d) (List.replicate (t-d.length) ad5)
theorem Ye4(t:Nat)(d:LPq)(h:d.length<=t):len (parts t d)=t:=by
 unfold parts;rw[J9,A3,Qdc,<- A3,O3,Qbm];omega
theorem Ye5(t:Nat)(d l:LPq)(h:d.length+l.length<=t):app (N0 (parts t d) d.length) (app (bL tLq l) (l9 (parts t d) (d.length+len (bL tLq l))))=parts t (d++l):=by
 have hd:(bL tLq d).length=d.length:=by rw[<- A3,O3]
 unfold parts;rw[O3,<- ob5];simp only[J9,L9,M1];rw[List.take_left' hd,Qim];congr 2;rw[List.drop_append,Qij (by omega),List.nil_append,hd,List.drop_replicate,Qdc]
 congr 1;omega
theorem qf8(c:LPq):B3 (λk=>tLq.row (gL tLq c k)) (List.range c.length)=bL tLq c:=by
 unfold bL;rw[A2,A2];refine Qkc (by simp) λk h1 h2=>?_
 have hk:k<c.length:=by simpa using h2
 simp[gL,Qda,Qaa hk]
theorem Ye6(ls:List LPq)(hn:ls.length<=1000000000):∃m,lp (L3 ⟨ls,(ls.length:Int)⟩) ⟨1,0,0,List.replicate ls.flatten.length ad5⟩=(2,⟨1,m,ls.flatten.length,bL tLq ls.flatten⟩):=by
 have h:=Ma1 (step:=L3 ⟨ls,(ls.length:Int)⟩) (mk:=λj (d:LPq)=>(⟨1,(j:Int),d.length,parts ls.flatten.length d⟩:A5)) (f:=λl _ d=>d++l) (g:=λl d=>d++l.flatten) (fin:=λ_=>2) ls
  (λj d=>d.length+(ls.drop j).flatten.length=ls.flatten.length) hn (λ_=>by simp) (λx r a=>by simp)
  (λj d hj hi=>by
   rw[Qib hj,List.flatten_cons,Qdc] at hi;refine⟨?_,by show (d++ls[j]).length+(ls.drop (j+1)).flatten.length=_;rw[Qdc];omega⟩
   show O0 Stp.next Stp.exit Stp.fail _ _=_;simp only[O0,Int.toNat_natCast,Fe2 hj,D0 hj (by omega),qf8]
   rw[Ye5 _ _ _ (by omega),Ye4 _ _ (by omega),O3,btD (s8 hj),bt (j9 hj),bt (by rw[Qiae];omega),Qdc])
  (λj d hj _=>by
   show O0 Stp.next Stp.exit Stp.fail _ _=_;simp only[O0];rw[bfD (by omega)]) 0 [] (by simp)
 have h:=h.1;rw[Qia,List.nil_append] at h;have e:parts ls.flatten.length ls.flatten=bL tLq ls.flatten:=by unfold parts;rw[Nat.sub_self,J9];simp
 rw[e] at h;exact⟨_,h⟩
theorem Fe3(ls:List LPq)(hn:ls.length<=1000000000)(hl:ls.flatten.length<=1000000000):X1 ls=if ls.flatten=[] then ⟨1,0,[]⟩ else ⟨2,ls.flatten.length,bL tLq ls.flatten⟩:=by
 unfold X1 X0;simp only[j8,o7];obtain⟨m,hm⟩:=Ye2 ls hn hl;rw[hm];by_cases h0:ls.flatten=[]
 ·obtain⟨s,hs⟩:=qf7 ls hn h0;rw[if_pos h0,hs];rw[show (⟨(ls.flatten.length:Int),m⟩:E5)=⟨0,m⟩ by rw[h0];rfl]
  rfl
 ·obtain⟨m',hm'⟩:=Ye6 ls hn;rw[if_neg h0];simp only[Int.toNat_natCast];rw[hm'];have h1:0<ls.flatten.length:=Qkm.2 h0;have e1:((ls.flatten.length:Int)==0)=false:=by rw[beq_eq_false_iff_ne];omega
  have e2:Bool.and (decide ((0:Int)<(ls.flatten.length:Int))) (Nat.ble (ls.flatten.length*24) room)=true:=by
   rw[decide_eq_true (by omega),show Nat.ble (ls.flatten.length*24) room=true by rw[Qiae];unfold room;omega]
   rfl
  rw[e1,e2];rfl
theorem ue9(a c:LPq)(ha:a.length<=1000000)(hc:c.length<=1000000):X1 [a,c]=if a++c=[] then ⟨1,0,[]⟩ else ⟨2,(a++c).length,bL tLq (a++c)⟩:=by
 have e:[a,c].flatten=a++c:=by simp
 rw[Fe3 [a,c] (by simp) (by rw[e,Qdc];omega),e]
theorem Gf2(c:List Bool):B3 (λk=>tB.row (gL tB c k)) (List.range c.length)=bL tB c:=by
 unfold bL;rw[A2,A2];refine Qkc (by simp) λk h1 h2=>?_
 have hk:k<c.length:=by simpa using h2
 simp[gL,Qda,Qaa hk]
theorem Cc1{α:Type}(l:List α):app [] l=l:=by rw[J9];rfl
theorem ve0{α:Type}{l:List α}(h:l≠[]):Nat.beq l.length 0=false:=by cases l with | nil=>exact absurd rfl h | cons=>rfl
theorem Ud9(c:List Bool)(h0:c≠[])(h:c.length<=1000000):pa7 c=⟨1,c.length,bL tB c⟩:=by
 unfold pa7 bb8;simp only[Gf2,O3,Qar,ve0 h0,Cc1,show Nat.ble (c.length*1) room=true by rw[Qiae];unfold room;omega]
 rfl
theorem Vd0(c:PLq)(h0:c≠[])(h:c.length<=1000000):ia1 c=⟨1,c.length,bL tP c⟩:=by
 unfold ia1 Pa1;simp only[qf6,O3,Qar,ve0 h0,Cc1,show Nat.ble (c.length*32) room=true by rw[Qiae];unfold room;omega]
 rfl
theorem kd0(c:PLq):c7.tree 4 c.length (λk=>g8 (bL tP c) (0+k))=cpA c:=by
 unfold cpA;congr 1;funext k;rw[Qar]
theorem ve1(l:LPq)(hl:l.length<=1000000)(hp:∀q∈l,q.length<=1000000)(h0:∀q∈l,q≠[]) :
  ∃t s,lp (ma9 ⟨l,(l.length:Int)⟩) ⟨0,0,0,[]⟩=(t,s)/\RCp l s.ph s.is8 s.ns3 s.eh0 l.length/\t=phL l+1:=by
 refine va3 (step:=ma9 ⟨l,(l.length:Int)⟩) (mk:=λ_ (s:L6)=>s) l.length (λj s=>RCp l s.ph s.is8 s.ns3 s.eh0 j) (λt s=>RCp l s.ph s.is8 s.ns3 s.eh0 l.length/\t=phL l+1) (by omega)
  (λj s hj hi=>?_) (λj s hj hi=>?_) 0 _ ⟨Qbw _,rfl,rfl,rfl,rfl⟩
 ·obtain⟨_,h2,h3,h4,h5⟩:=hi;obtain⟨ph,is4,ns3,eh0⟩:=s
  simp only at h2 h3 h4 h5
  subst h2 h3 h4 h5;have hq:=hp _ (S1 tLq hj);have hq0:=h0 _ (S1 tLq hj);have hw1:W ((j:Int)+1)=((j+1:Nat):Int):=D0 hj (by omega)
  have hgx:inB (j:Int) l.length=true:=j9 hj;have htl:(l.take j).length<=l.length:=by rw[Qic];omega
  have hm:l.take (j+1)=l.take j++[gL tLq l j]:=Yc9 tLq hj;have hnx:ma9 ⟨l,(l.length:Int)⟩ ⟨phL (l.take j),(j:Int),(l.take j).length,cpR (l.take j)⟩=.next ⟨phL (l.take (j+1)),((j+1:Nat):Int),(l.take (j+1)).length,cpR (l.take (j+1))⟩:=by
   rw[hm,Ab8,Qdc,List.length_singleton,<- mc9]
   rcases I8 (l.take j) with⟨hz,hn⟩|h1
   ·rw[hz];show ia7 Stp.next Stp.exit Stp.fail _ _=_;simp only[ia7,Int.toNat_natCast,hw1,hgx,i6,j8,B8,Vd0 _ hq0 hq,kd0,nbR];rw[btD (s8 hj),hn];rfl
   ·rw[h1];show ia8 Stp.next Stp.exit Stp.fail _ _=_;simp only[ia8,Int.toNat_natCast,hw1,hgx,i6,j8,B8,Vd0 _ hq0 hq,kd0];rw[btD (s8 hj),bt (show Nat.beq 1 1=true from rfl),bt (jd5 _ (by omega))]
  show Nx (ma9 ⟨l,(l.length:Int)⟩ ⟨phL (l.take j),(j:Int),(l.take j).length,cpR (l.take j)⟩) _ _;rw[hnx];exact .nx ⟨_,rfl,hj,rfl,rfl,rfl,rfl⟩
 ·have hje:j=l.length:=by have:=hi.le;omega
  subst hje;have hi':=hi;obtain⟨_,h2,h3,h4,h5⟩:=hi;obtain⟨ph,is4,ns3,eh0⟩:=s
  simp only at h2 h3 h4 h5
  subst h2 h3 h4 h5;simp only[Qkb] at *
  rcases I8 l with⟨hz,hn⟩|h1
  ·refine⟨1,?_,hi',by rw[hz]⟩
   rw[hz];show ia7 Stp.next Stp.exit Stp.fail _ _=_;simp only[ia7];rw[bfD (E2 (Qid _))]
  ·refine⟨2,?_,hi',by rw[h1]⟩
   rw[h1];show ia8 Stp.next Stp.exit Stp.fail _ _=_;simp only[ia8];rw[bfD (E2 (Qid _))]
theorem Vd1(l:LPq)(hl:l.length<=1000000)(hp:∀q∈l,q.length<=1000000)(h0:∀q∈l,q≠[]):Rd (one (r1L tLq)) (Wa0 l) (λr=>r=l):=by
 obtain⟨t,s,h1,h2,h3⟩:=ve1 l hl hp h0;unfold Wa0;simp only[j8,o7,Qka,i6,h1];have hn:=h2.n;have he:=h2.e;rw[Qkb] at hn he
 rcases I8 l with⟨hz,hnl⟩|hp1
 ·rw[h3,hz];exact⟨_,[],rfl,qf5 _,hnl.symm⟩
 ·rw[h3,hp1,hn,he];exact⟨_,l,rfl,Mf0 l,rfl⟩
theorem ad9{l:LPq}(hl:l.length<=1000000)(hp:∀q∈l,q.length<=1000000)(h0:∀q∈l,q≠[]):la3 l=l:=(Vd1 l hl hp h0).p
theorem bd0{l:LPq}(hl:l.length<=1000000)(hp:∀q∈l,q.length<=1000000)(h0:∀q∈l,q≠[]):fa0 l=true:=(Vd1 l hl hp h0).g
theorem Vd2{n:Int}{q c:PLq}(hq:q.length<=1000000)(hc:c.length<=1000000):Ma8 ⟨n,q,c⟩=⟨1,!apart q c⟩:=by
 unfold Ma8 Jb0;simp only[j8,B8,vd2 (a:=q) (c:=c) (by omega) (by omega),vd3 (a:=q) (c:=c) (by omega) (by omega),i6]
structure RMo(l:LPq)(c:PLq)(j:Nat)(s:C4):Prop where
 le:j<=l.length
 ix:s.N7=(j:Int)
 ph:s.ph=phL (D7 (l.take j) c)
 cc:s.g7=c
 n:s.ns5=(D7 (l.take j) c).length
 e:s.eh1=bL tLq (D7 (l.take j) c)
theorem Ye7(l:LPq)(c:PLq)(hl:l.length<=1000000)(hp:∀q∈l,q.length<=1000000)(hc:c.length<=1000000) :
  ∃t s,lp (fa1 ⟨l,(l.length:Int)⟩) ⟨0,0,c,0,[]⟩=(t,s)/\RMo l c l.length s/\t=phL (D7 l c)+1:=by
 refine va3 (step:=fa1 ⟨l,(l.length:Int)⟩) (mk:=λ_ (s:C4)=>s) l.length (RMo l c) (λt s=>RMo l c l.length s/\t=phL (D7 l c)+1) (by omega)
  (λj s hj hi=>?_) (λj s hj hi=>?_) 0 _ ⟨Qbw _,rfl,rfl,rfl,rfl,rfl⟩
 ·obtain⟨_,h2,h3,h6,h4,h5⟩:=hi;obtain⟨ph,is6,c',ns5,eh0⟩:=s
  simp only at h2 h3 h4 h5 h6
  subst h2 h3 h4 h5 h6;have hq:=hp _ (S1 tLq hj);have hw1:W ((j:Int)+1)=((j+1:Nat):Int):=D0 hj (by omega)
  have hgx:inB (j:Int) l.length=true:=j9 hj;have hlen:=yb5 (l.take j) c';have htl:(l.take j).length<=l.length:=by rw[Qic];omega
  have hnx:∃s,fa1 ⟨l,(l.length:Int)⟩ ⟨phL (D7 (l.take j) c'),(j:Int),c',(D7 (l.take j) c').length,bL tLq (D7 (l.take j) c')⟩=.next s/\RMo l c' (j+1) s:=by
   have hm:=Hd7 l c' hj
   rcases I8 (D7 (l.take j) c') with⟨h0,hn⟩|h1
   ·rw[h0];refine⟨⟨phL (D7 (l.take (j+1)) c'),((j+1:Nat):Int),c',(D7 (l.take (j+1)) c').length,bL tLq (D7 (l.take (j+1)) c')⟩,?_,⟨hj,rfl,rfl,rfl,rfl,rfl⟩⟩;show U0 Stp.next Stp.exit Stp.fail _ _=_;simp only[U0,Int.toNat_natCast,j8,o7,Qka,Vd2 hq hc,hw1,hgx,i6];rw[btD (s8 hj),hm,hn,bt (show Nat.beq 1 1=true from rfl)]
    cases apart (gL tLq l j) c'<;>rfl
   ·rw[h1];refine⟨⟨phL (D7 (l.take (j+1)) c'),((j+1:Nat):Int),c',(D7 (l.take (j+1)) c').length,bL tLq (D7 (l.take (j+1)) c')⟩,?_,⟨hj,rfl,rfl,rfl,rfl,rfl⟩⟩;show U1 Stp.next Stp.exit Stp.fail _ _=_;simp only[U1,Int.toNat_natCast,j8,o7,Qka,Vd2 hq hc,hw1,hgx,i6];rw[btD (s8 hj),hm,bt (show Nat.beq 1 1=true from rfl),bt (jd2 _ (by omega)),Ud3]
    cases apart (gL tLq l j) c' with
    |true =>
     simp only[Qkg,A6,if_true,Qbv,h1]
    |false =>
     simp only[Qis,i6,Qit,if_false,Ab8,Qdc,List.length_singleton]
  obtain⟨s,e1,e2⟩:=hnx;rw[e1];exact .nx ⟨s,rfl,e2⟩
 ·have hje:j=l.length:=by have:=hi.le;omega
  subst hje;have hi':=hi;obtain⟨_,h2,h3,h6,h4,h5⟩:=hi;obtain⟨ph,is6,c',ns5,eh0⟩:=s
  simp only at h2 h3 h4 h5 h6
  subst h2 h3 h4 h5 h6;rw[Qkb] at *
  rcases I8 (D7 l c') with⟨h0,hn⟩|h1
  ·refine⟨1,?_,hi',by rw[h0]⟩
   rw[h0];show U0 Stp.next Stp.exit Stp.fail _ _=_;simp only[U0];rw[bfD (E2 (Qid _))]
  ·refine⟨2,?_,hi',by rw[h1]⟩
   rw[h1];show U1 Stp.next Stp.exit Stp.fail _ _=_;simp only[U1];rw[bfD (E2 (Qid _))]
theorem Oe5(l:LPq)(c:PLq)(hl:l.length<=1000000)(hp:∀q∈l,q.length<=1000000)(hc:c.length<=1000000) :
  (D7 l c=[]/\i8 ⟨l,c⟩=⟨1,c,0,[]⟩)\/(D7 l c≠[]/\i8 ⟨l,c⟩=⟨2,c,(D7 l c).length,bL tLq (D7 l c)⟩):=by
 obtain⟨t,s,h1,h2,h3⟩:=Ye7 l c hl hp hc;unfold i8 cb1;simp only[j8,o7,Qka,i6,h1,h2.cc];have hn:=h2.n;have he:=h2.e;rw[Qkb] at hn he
 rcases I8 (D7 l c) with⟨hz,hnl⟩|hp1
 ·rw[h3,hz];exact .inl ⟨hnl,rfl⟩
 ·rw[h3,hp1,hn,he];exact .inr ⟨λe=>(by rw[e] at hp1;cases hp1),rfl⟩
structure CR{α:Type}(t:Ty α)(x:c7)(l:List α):Prop where
 fz:freezeCell [] x=some (x,[])
 ok:(tLs t).ok [x]=true
 rd:rL t x=l
theorem CR.tree{α:Type}(t:Ty α){n:Nat}{f:Nat->List c7}{l:List α}(h1:okL t n f=true)(h2:lsL t n f=l):CR t (.tree t.es n f) l :=
 ⟨rfl,by show Bool.and (Nat.beq t.es t.es) (okL t n f)=true;rw[Qip,h1];rfl,h2⟩
theorem CR.eL{α:Type}(t:Ty α)(l:List α):CR t (eL t l) l:=⟨rfl,by
 have h:=(tLs t).h2 l;exact h,j8 t l⟩
theorem ee8{α:Type}(t:Ty α)(l:List α){n:Nat}(h:n=l.length):lsL t n (λk=>g8 (bL t l) (0+k))=l:=by rw[h];exact Oc9 t l
theorem ve2{α:Type}(t:Ty α)(l:List α){n:Nat}(h:n=l.length):okL t n (λk=>g8 (bL t l) (0+k))=true:=by rw[h];exact Pc0 t l
theorem CR.bL{α:Type}(t:Ty α)(l:List α){n:Nat}(h:n=l.length):CR t (.tree t.es n (λk=>g8 (bL t l) (0+k))) l:=.tree t (ve2 t l h) (ee8 t l h)
theorem CR.nil{α:Type}(t:Ty α):CR t (.v (.slice none 0 0)) []:=⟨rfl,rfl,rfl⟩
theorem fz3{a c d:c7}(h1:freezeCell [] a=some (a,[]))(h2:freezeCell [] c=some (c,[]))(h3:freezeCell [] d=some (d,[])):freezeCells [] [a,c,d]=some ([a,c,d],[]):=by
 simp only[freezeCells,h1,h2,h3]
theorem qf9{a c d:c7}{su to:List Bool}{cu:LPq}(h1:CR tB a su)(h2:CR tB c to)(h3:CR tLq d cu):r1O.rd [] (.agg [a,c,d])=some ⟨su,to,cu⟩:=by
 show Option.rec (motive:=λ_=>Option Pce) none (λp=>Bool.rec (motive:=λ_=>Option Pce) none (some (tO.rd p)) (tO.ok p)) ((freezeCells [] [a,c,d]).map (·.1))=_
 rw[fz3 h1.fz h2.fz h3.fz];show Bool.rec (motive:=λ_=>Option Pce) none (some (tO.rd [a,c,d])) (Bool.and ((tLs tB).ok [a]) (Bool.and ((tLs tB).ok [c]) (Bool.and (tMq.ok [d]) true)))=_
 rw[h1.ok,h2.ok,h3.ok];show some (Pce.mk (rL tB a) (rL tB c) (rL tLq d))=_;rw[h1.rd,h2.rd,h3.rd]
theorem Gf3{a c d:c7}{su to:List Bool}{cu:LPq}(h1:CR tB a su)(h2:CR tB c to)(h3:CR tLq d cu):(one r1O).rd (.agg [a,c,d],[])=some ⟨su,to,cu⟩:=qf9 h1 h2 h3
theorem Oe6{a c d:c7}{su to:List Bool}{cu:LPq}(n:Int)(h1:CR tB a su)(h2:CR tB c to)(h3:CR tLq d cu):(two r1O r1I).rd (.tup [.agg [a,c,d],i n],[])=some (⟨su,to,cu⟩,n):=by
 simp only[two,qf9 h1 h2 h3];rfl
def Mc7:Pce:=⟨[],[],[]⟩
theorem Vd3(n:Int):(two r1O r1I).rd (.tup [.agg [.v (.slice none 0 0),.v (.slice none 0 0),.v (.slice none 0 0)],i n],[])=some (Mc7,n):=Oe6 n (.nil tB) (.nil tB) (.nil tLq)
theorem Vf9(n:Nat):List.replicate n [b false]=bL tB (List.replicate n false):=by
 unfold bL;rw[A2,List.map_replicate];rfl
theorem rf0(x:Prt)(hl:x.cl.length<=1000000):Rd (one r1O) (Db4 x) (λr=>r=Ye0 x):=by
 have h1:inB (x.cl.length:Int) (room+1)=true:=j9 (by unfold room;omega)
 have h2:Nat.ble (x.cl.length*1) room=true:=by rw[Qiae];unfold room;omega
 unfold Db4;simp only[Int.toNat_natCast,h1,h2,Qka,Vf9,show Nat.ble x.cl.length x.cl.length=true by rw[Qiae];omega,i6]
 exact⟨_,Ye0 x,rfl,Gf3 (.bL tB _ (by simp)) (.bL tB _ (by simp)) (.nil _),rfl⟩
theorem Mf1{x:Prt}(hl:x.cl.length<=1000000):Db5 x=Ye0 x:=(rf0 x hl).p
theorem Mf2{x:Prt}(hl:x.cl.length<=1000000):kb5 x=true:=(rf0 x hl).g
def suJ(C cl:LPq)(su:List Bool)(j:Nat):Bool×Int:=if gL tB su j=true then (true,0) else R3 (D7 C (gL tLq cl j)) (gL tLq cl j)
def toJ(z w cl:LPq)(to:List Bool)(j:Nat):Bool:=gL tB to j||(!ea8 (gL tLq cl j) z||!ea8 (gL tLq cl j) w)
def Ra2(f:Nat->Bool)(l:List Bool)(j:Nat):List Bool:=(List.range l.length).map λk=>if k<j then f k else gL tB l k
theorem bd1(f:Nat->Bool)(l:List Bool)(j:Nat):(Ra2 f l j).length=l.length:=by simp[Ra2]
theorem Fe4{α:Type}(t:Ty α)(n:Nat)(f:Nat->α){k:Nat}(h:k<n):gL t ((List.range n).map f) k=f k:=by
 simp[gL,Qda,h]
theorem Oe7(f:Nat->Bool)(l:List Bool){j:Nat}(h:j<l.length):gL tB (Ra2 f l j) j=gL tB l j:=by
 unfold Ra2;rw[Fe4 tB _ _ h,if_neg (Qid j)]
theorem Vd4(f:Nat->Bool)(l:List Bool):Ra2 f l 0=l:=by
 refine Qkc (by simp[Ra2]) λk h1 h2=>?_
 simp[Ra2,gL,Qda,Qaa h2]
theorem kd1(f:Nat->Bool)(l:List Bool)(j:Nat):(Ra2 f l j).set j (f j)=Ra2 f l (j+1):=by
 refine Qkc (by simp[Ra2]) λk h1 h2=>?_
 simp only[Ra2,List.getElem_set,List.getElem_map,Qkn];by_cases e:j=k
 ·subst e;simp
 ·rw[if_neg e];by_cases h:k<j
  ·rw[if_pos h,if_pos (by omega)]
  ·rw[if_neg h,if_neg (by omega)]
theorem Ye8(f:Nat->Bool)(l:List Bool){j:Nat}(h:j<l.length)(e:gL tB l j=f j):Ra2 f l (j+1)=Ra2 f l j:=by
 unfold Ra2;refine Qcl λk hk=>?_
 by_cases h1:k<j
 ·rw[if_pos h1,if_pos (by omega)]
 ·by_cases h2:k=j
  ·subst h2;rw[if_pos (by omega),if_neg h1,e]
  ·rw[if_neg h1,if_neg (by omega)]
theorem Hd8{f:Nat->Bool}{l:List Bool}{j:Nat}(h:f j=true):(Ra2 f l j).set j true=Ra2 f l (j+1):=by rw[<- kd1,h]
theorem ve3(f:Nat->Bool)(l:List Bool):Ra2 f l l.length=(List.range l.length).map f:=by
 unfold Ra2;exact Qcl λk hk=>if_pos (Qca.1 hk)
theorem Wf0(l:List Bool)(k:Nat)(v:Bool):setAt (bL tB l) k [b v]=bL tB (l.set k v):=zd1 tB l k v
theorem fg8{l:List Bool}{k:Nat}(h:k<l.length):g8 (bL tB l) k=[b (gL tB l k)]:=ba8 tB h
theorem ckB(v:Bool):sa5 [CK.bool] (l9 [b v] 0)=true:=rfl
theorem rg3(v:Bool):toB (hdA (l9 [b v] 0))=v:=rfl
theorem spB(u v:Bool):V6 [b u] 0 [b v]=[b v]:=rfl
structure Apl(z w cl C:LPq)(su to:List Bool):Prop where
 zn:z.length<=1000000
 wn:w.length<=1000000
 cn:cl.length<=1000000
 Cn:C.length<=1000000
 zl:∀q∈z,q.length<=1000000
 wl:∀q∈w,q.length<=1000000
 cc:∀q∈cl,q.length<=1000000
 Cl:∀q∈C,q.length<=1000000
 sn:su.length=cl.length
 tn:to.length=cl.length
structure RAp(z w cl C:LPq)(su to:List Bool)(j:Nat)(s:Q9):Prop where
 le:j<=cl.length
 ix:s.B9=(j:Int)
 e2:s.eh2=bL tB (Ra2 (λk=>(suJ C cl su k).1) su j)
 e3:s.eh3=bL tB (Ra2 (toJ z w cl to) to j)
 ok:∀k,k<j->(suJ C cl su k).2=0
def EAp(z w cl C:LPq)(su to:List Bool)(t:Nat)(s:Q9):Prop :=
 (∃j,j<cl.length/\s.B9=(j:Int)/\(∀k,k<j->(suJ C cl su k).2=0)/\(suJ C cl su j).2≠0/\suJ C cl su j=R3 (D7 C (gL tLq cl j)) (gL tLq cl j) /\
  ((D7 C (gL tLq cl j)=[]/\(t=1\/t=3\/t=5))\/(D7 C (gL tLq cl j)≠[]/\(t=2\/t=4\/t=6)))) \/
 (t=7/\RAp z w cl C su to cl.length s)
theorem Fe5{z w cl C:LPq}{su to:List Bool}(h:Apl z w cl C su to) :
  ∃t s,lp (ca3 ⟨z,w,cl,(cl.length:Int),su.length,to.length,C⟩) ⟨0,bL tB su,bL tB to⟩=(t,s)/\EAp z w cl C su to t s:=by
 refine va3 (step:=ca3 ⟨z,w,cl,(cl.length:Int),su.length,to.length,C⟩) (mk:=λ_ (s:Q9)=>s) cl.length (RAp z w cl C su to) (EAp z w cl C su to) (by have:=h.cn;omega)
  (λj s hj hi=>?_) (λj s hj hi=>?_) 0 _ ⟨Qbw _,rfl,by rw[Vd4],by rw[Vd4],λk hk=>absurd hk (Qjq _)⟩
 ·obtain⟨_,h2,h3,h4,h5⟩:=hi;obtain⟨is4,eh2,eh3⟩:=s
  simp only at h2 h3 h4 h5
  subst h2 h3 h4;have hc:=h.cc _ (S1 tLq hj);have hcl:=h.cn;have hw1:W ((j:Int)+1)=((j+1:Nat):Int):=D0 hj (by omega)
  have hgx:inB (j:Int) cl.length=true:=j9 hj;have hg1:inB (j:Int) su.length=true:=by rw[h.sn];exact hgx
  have hg2:inB (j:Int) to.length=true:=by rw[h.tn];exact hgx
  have hs:j<su.length:=by rw[h.sn];exact hj
  have ht:j<to.length:=by rw[h.tn];exact hj
  have hms:∀q∈D7 C (gL tLq cl j),q.length<=1000000:=λq hq=>h.Cl q ((Qff.1 hq).1)
  have hml:(D7 C (gL tLq cl j)).length<=1000000:=by have:=yb5 C (gL tLq cl j);have:=h.Cn;omega
  have r2:g8 (bL tB (Ra2 (λk=>(suJ C cl su k).1) su j)) j=[b (gL tB su j)]:=by rw[fg8 (by rw[bd1];exact hs),Oe7 _ _ hs]
  have r3:g8 (bL tB (Ra2 (toJ z w cl to) to j)) j=[b (gL tB to j)]:=by rw[fg8 (by rw[bd1];exact ht),Oe7 _ _ ht]
  have l2:Nat.blt j (len (bL tB (Ra2 (λk=>(suJ C cl su k).1) su j)))=true:=by rw[O3,bd1,Qcf];exact hs
  have l3:Nat.blt j (len (bL tB (Ra2 (toJ z w cl to) to j)))=true:=by rw[O3,bd1,Qcf];exact ht
  have lb:∀v:Bool,Nat.ble (0+1) (len [b v])=true:=λv=>rfl
  have n11:Nat.beq 1 1=true:=rfl;have n21:Nat.beq 2 1=false:=rfl;have n22:Nat.beq 2 2=true:=rfl;have nx:∀(v:Bool) (s':Bool),toJ z w cl to j=v->suJ C cl su j=(s',0)->RAp z w cl C su to (j+1) ⟨((j+1:Nat):Int),setAt (bL tB (Ra2 (λk=>(suJ C cl su k).1) su j)) j [b s'],setAt (bL tB (Ra2 (toJ z w cl to) to j)) j [b v]⟩:=by
   intro v s' e1 e2;refine⟨hj,rfl,?_,?_,λk hk=>?_⟩
   ·show setAt _ _ _=_;rw[Wf0,<- kd1,e2]
   ·show setAt _ _ _=_;rw[Wf0,<- kd1,e1]
   ·rcases Nat.lt_or_eq_of_le (Nat.lt_succ_iff.1 hk) with hk|rfl
    ·exact h5 k hk
    ·rw[e2]
  have nk:∀(v:Bool),toJ z w cl to j=v->gL tB su j=true->RAp z w cl C su to (j+1) ⟨((j+1:Nat):Int),bL tB (Ra2 (λk=>(suJ C cl su k).1) su j),setAt (bL tB (Ra2 (toJ z w cl to) to j)) j [b v]⟩:=by
   intro v e1 e2;have e3:suJ C cl su j=(true,0):=by unfold suJ;rw[if_pos e2]
   have:=nx v true e1 e3
   rw[Wf0,Hd8 (f:=λk=>(suJ C cl su k).1) (by rw[e3]),Ye8 _ _ hs (by rw[e2,e3])] at this
   exact this
  have key : ∀ (v : Bool) (u1 u2 : Nat), toJ z w cl to j = v → (u1 = 1 ∨ u1 = 3 ∨ u1 = 5) → (u2 = 2 ∨ u2 = 4 ∨ u2 = 6) → Nx (sl (gL tB su j) (Stp.next ⟨((j + 1 : Nat) : Int), bL tB (Ra2 (fun k => (suJ C cl su k).1) su j), setAt (bL tB (Ra2 (toJ z w cl to) to j)) j [b v]⟩)
    (sl (Nat.beq (i8 ⟨C,gL tLq cl j⟩).alt 1) (sl (K0 [] (i8 ⟨C,gL tLq cl j⟩).g7) (sl ((s4 [] (i8 ⟨C,gL tLq cl j⟩).g7).2 != 0) (Stp.exit u1)
     (Stp.next ⟨((j+1:Nat):Int),setAt (bL tB (Ra2 (λk=>(suJ C cl su k).1) su j)) j [b (s4 [] (i8 ⟨C,gL tLq cl j⟩).g7).1],setAt (bL tB (Ra2 (toJ z w cl to) to j)) j [b v]⟩)) Stp.fail)
     (sl (Nat.beq (i8 ⟨C,gL tLq cl j⟩).alt 2) (sl (okL tLq (i8 ⟨C,gL tLq cl j⟩).ns0 (λk=>g8 (i8 ⟨C,gL tLq cl j⟩).eh1 (0+k))) (sl (K0 (lsL tLq (i8 ⟨C,gL tLq cl j⟩).ns0 (λk=>g8 (i8 ⟨C,gL tLq cl j⟩).eh1 (0+k))) (i8 ⟨C,gL tLq cl j⟩).g7)
      (sl ((s4 (lsL tLq (i8 ⟨C,gL tLq cl j⟩).ns0 (λk=>g8 (i8 ⟨C,gL tLq cl j⟩).eh1 (0+k))) (i8 ⟨C,gL tLq cl j⟩).g7).2 != 0) (Stp.exit u2)
      (Stp.next ⟨((j+1:Nat):Int),setAt (bL tB (Ra2 (λk=>(suJ C cl su k).1) su j)) j [b (s4 (lsL tLq (i8 ⟨C,gL tLq cl j⟩).ns0 (λk=>g8 (i8 ⟨C,gL tLq cl j⟩).eh1 (0+k))) (i8 ⟨C,gL tLq cl j⟩).g7).1],setAt (bL tB (Ra2 (toJ z w cl to) to j)) j [b v]⟩)) Stp.fail) Stp.fail) Stp.fail)))
    (λt=>EAp z w cl C su to t ⟨(j:Int),bL tB (Ra2 (λk=>(suJ C cl su k).1) su j),bL tB (Ra2 (toJ z w cl to) to j)⟩) (λs=>∃a',s=a'/\RAp z w cl C su to (j+1) a'):=by
   intro v u1 u2 hv hu1 hu2;refine Nx.sl (λe=>.nx ⟨_,rfl,nk v hv e⟩) (λe=>?_)
   have es:suJ C cl su j=R3 (D7 C (gL tLq cl j)) (gL tLq cl j):=by unfold suJ;rw[e,if_neg (by decide)]
   rcases Oe5 C (gL tLq cl j) h.Cn h.Cl hc with⟨m0,hm⟩|⟨m0,hm⟩
   ·rw[hm]
    simp only
    rw[n11,i6,ad3 (x:=[]) hc (by simp) (by simp),i6,hc3 (x:=[]) hc (by simp) (by simp)]
    rw[m0] at es;refine Nx.sl (λhe=>.ex (.inl ⟨j,hj,rfl,h5,by rw[es];simpa using he,by rw[es,m0],.inl ⟨m0,hu1⟩⟩)) (λhe=>.nx ⟨_,rfl,nx v _ hv ?_⟩)
    rw[es];exact Prod.ext rfl (by simpa using he)
   ·rw[hm]
    simp only
    rw[n21,A6,n22,i6,ve2 tLq _ rfl,ee8 tLq _ rfl,i6,ad3 hc hml hms,i6,hc3 hc hml hms];refine Nx.sl (λhe=>.ex (.inl ⟨j,hj,rfl,h5,by rw[es];simpa using he,es,.inr ⟨m0,hu2⟩⟩)) (λhe=>.nx ⟨_,rfl,nx v _ hv ?_⟩)
    rw[es];exact Prod.ext rfl (by simpa using he)
  simp only[ca3,Qa8,Int.toNat_natCast,Qar,j8,B8,o7,Qka,r2,r3,l2,l3,show Nat.ble 1 (len [b (gL tB su j)])=true from rfl,show Nat.ble 1 (len [b (gL tB to j)])=true from rfl,hgx,hg1,hg2,ckB,rg3,spB,hw1,i6,Bc1 hc h.zn h.zl,Bc2 hc h.zn h.zl,Bc1 hc h.wn h.wl,Bc2 hc h.wn h.wl]
  rw[btD (s8 hj)];simp only[Qar] at key;refine Nx.sl (λe=>key true 1 2 (by unfold toJ;rw[e];rfl) (.inl rfl) (.inl rfl)) (λe=>?_)
  refine Nx.sl (λe'=>key true 3 4 (by unfold toJ;rw[e,e'];rfl) (.inr (.inl rfl)) (.inr (.inl rfl))) (λe'=>?_)
  exact key _ 5 6 (by unfold toJ;rw[e,e'];rfl) (.inr (.inr rfl)) (.inr (.inr rfl))
 ·have hje:j=cl.length:=by have:=hi.le;omega
  subst hje;refine⟨7,?_,.inr ⟨rfl,hi⟩⟩;obtain⟨_,h2,h3,h4,h5⟩:=hi;obtain⟨is4,eh2,eh3⟩:=s
  simp only at h2 h3 h4 h5
  subst h2 h3 h4;simp only[ca3,Qa8];rw[bfD (E2 (Qid _))]
def noA(n:Int):ROq:=some (.tup [.agg [.v (.slice none 0 0),.v (.slice none 0 0),.v (.slice none 0 0)],i n],[])
def Fe6(cl C:LPq)(n0 n1:Nat)(t8:Nat×Q9):ROq :=
 let t9:=(i8 ⟨C,gL tLq cl t8.2.B9.toNat⟩)
 let t10:=(s4 [] t9.g7)
 let t11:=(s4 (lsL tLq t9.ns0 (λk=>g8 t9.eh1 (0+k))) t9.g7)
 sl (Nat.beq t8.1 1) (noA t10.2) (sl (Nat.beq t8.1 2) (noA t11.2) (sl (Nat.beq t8.1 3) (noA t10.2) (sl (Nat.beq t8.1 4) (noA t11.2) (sl (Nat.beq t8.1 5) (noA t10.2) (sl (Nat.beq t8.1 6) (noA t11.2)
  (sl (Nat.beq t8.1 7) (some ((.tup [(.agg [(.tree 1 n0 (λk=>g8 t8.2.eh2 (0+k))),(.tree 1 n1 (λk=>g8 t8.2.eh3 (0+k))),(eL tLq C)]),(i 0)]),[])) none))))))
def bd2(z w cl C:LPq)(su to:List Bool):Pce×Int :=
 match (List.range cl.length).find? λj=>(suJ C cl su j).2 != 0 with
 |some j=>(Mc7,(suJ C cl su j).2)
 |none=>(⟨(List.range cl.length).map λk=>(suJ C cl su k).1,(List.range cl.length).map (toJ z w cl to),C⟩,0)
theorem Fe7{n j:Nat}{f:Nat->Bool}(hj:j<n)(h1:∀k,k<j->f k=false)(h2:f j=true):(List.range n).find? f=some j:=by
 rw[List.find?_range_eq_some];exact⟨h2,Qca.2 hj,λk hk=>by rw[h1 k hk];rfl⟩
theorem Fe8{z w cl C:LPq}{su to:List Bool}(h:Apl z w cl C su to) :
  Rd (two r1O r1I) (Fe6 cl C su.length to.length (lp (ca3 ⟨z,w,cl,(cl.length:Int),su.length,to.length,C⟩) ⟨0,bL tB su,bL tB to⟩)) (λr=>r=bd2 z w cl C su to):=by
 obtain⟨t,s,h1,h2⟩:=Fe5 h;rw[h1]
 rcases h2 with⟨j,hj,hs,hk,he,hc,hm⟩|⟨rfl,hr⟩
 ·have hcl:=h.cc _ (S1 tLq hj);have hms:∀q∈D7 C (gL tLq cl j),q.length<=1000000:=λq hq=>h.Cl q (Qff.1 hq).1
  have hml:(D7 C (gL tLq cl j)).length<=1000000:=by have:=yb5 C (gL tLq cl j);have:=h.Cn;omega
  have ht:bd2 z w cl C su to=(Mc7,(suJ C cl su j).2):=by
   unfold bd2;rw[Fe7 hj (λk hk'=>by rw[hk k hk'];rfl) (by simpa using he)]
  rw[ht,hc];unfold Fe6;simp only[hs,Int.toNat_natCast]
  rcases Oe5 C (gL tLq cl j) h.Cn h.Cl hcl with⟨m0,hq⟩|⟨m0,hq⟩
  ·rcases hm with⟨_,hm⟩|⟨hm,_⟩
   ·rw[hq,m0]
    simp only
    rw[hc3 (x:=[]) hcl (by simp) (by simp)]
    rcases hm with rfl|rfl|rfl<;>exact⟨_,_,rfl,Vd3 _,rfl⟩
   ·exact absurd m0 hm
  ·rcases hm with⟨hm,_⟩|⟨_,hm⟩
   ·exact absurd hm m0
   ·rw[hq]
    simp only
    rw[ee8 tLq _ rfl,hc3 hcl hml hms]
    rcases hm with rfl|rfl|rfl<;>exact⟨_,_,rfl,Vd3 _,rfl⟩
 ·have ht : bd2 z w cl C su to = (⟨(List.range cl.length).map fun k => (suJ C cl su k).1, (List.range cl.length).map (toJ z w cl to), C⟩, 0) := by
   unfold bd2;rw[Qkd.2 λk hk=>by rw[hr.ok k (Qca.1 hk)];decide]
  have e2:=hr.e2;have e3:=hr.e3;rw[<- h.sn,ve3] at e2;rw[<- h.tn,ve3] at e3;rw[ht];unfold Fe6
  simp only
  rw[e2,e3];refine⟨_,_,rfl,Oe6 0 (.bL tB _ (by simp)) (.bL tB _ (by simp)) (.eL tLq C),?_⟩
  rw[h.sn,h.tn]
def Wa1(x:Prt)(y:Pce)(z w:LPq):Pce×Int :=
 if (Nb0 x y != 0)=true then (Mc7,Nb0 x y) else if (Bc5 (z++w) != 0)=true then (Mc7,Bc5 (z++w)) else if (y.cu.length:Int)+(z.length:Int)>24 then (Mc7,2)
 else bd2 z w x.cl (y.cu++z) y.su y.to
theorem Hd9{x:Prt}{y:Pce}(h:Nb0 x y=0):Bc6 x=0/\y.su.length=x.cl.length/\y.to.length=x.cl.length/\y.cu.length<=24/\Bc5 y.cu=0:=by
 unfold Nb0 at h;cases hc:(Bc6 x != 0) with
 |true=>rw[hc] at h;simp only[if_true] at h;rw[h] at hc;cases hc
 |false =>
  rw[hc] at h;simp only[Qit,if_false] at h;cases hf:ue7 x y with
  |false=>rw[hf] at h;simp at h
  |true =>
   unfold ue7 at hf;simp only[Qas,beq_iff_eq,decide_eq_true_eq] at hf;obtain⟨h1,h2,h3,h4⟩:=hf;exact⟨by simpa using hc,by omega,by omega,by omega,h4⟩
theorem Vd5{x:Prt}(h:Bc6 x=0):1<=x.cl.length/\x.cl.length<=16/\x.wt.length=x.cl.length/\x.wt.any jd4=false/\(List.range x.cl.length).any (ue8 x.cl)=false:=by
 unfold Bc6 at h
 split at h
 ·cases h
 ·rename_i h1
  split at h
  ·cases h
  ·rename_i h2
   split at h
   ·cases h
   ·rename_i h3
    split at h
    ·cases h
    ·rename_i h4
     split at h
     ·cases h
     ·rename_i h5;refine⟨by omega,by omega,?_,by simpa using h4,by simpa using h5⟩
      simp only[bne_iff_ne,ne_eq,Decidable.not_not] at h3;omega
theorem ve4{x:Prt}{y:Pce}{z w:LPq}(hx:Jok x)(hy:Pok y)(hz:z.length<=100000)(hw:w.length<=100000)(hzl:∀q∈z,q.length<=1000000)(hwl:∀q∈w,q.length<=1000000)
  (hyn:∀q∈y.cu,q≠[]) (hzn:∀q∈z,q≠[]):Rd (two r1O r1I) (fb5 x y z w) (λr=>r=Wa1 x y z w):=by
 have n11:Nat.beq 1 1=true:=rfl;have n21:Nat.beq 2 1=false:=rfl;have n22:Nat.beq 2 2=true:=rfl;have hj:Jok ⟨x.nm,x.cl,x.wt⟩:=⟨hx.cl,hx.wt,hx.pl⟩;have hp:Pok ⟨y.su,y.to,y.cu⟩:=⟨hy.su,hy.to,hy.cu,hy.cl⟩;have f1:=Hd5 hj hp;have f2:=Hd6 hj hp;unfold fb5 Wa1;simp only[j8,B8,o7,Qka,i6,f1,f2];rw[show Nb0 ⟨x.nm,x.cl,x.wt⟩ ⟨y.su,y.to,y.cu⟩=Nb0 x y from rfl]
 cases hf:(Nb0 x y != 0) with
 |true=>rw[i6,if_pos rfl];exact⟨_,_,rfl,Vd3 _,rfl⟩
 |false =>
  rw[A6,if_neg (show ¬ false=true by decide)]
  have hf0:Nb0 x y=0:=by simpa using hf
  obtain⟨hx0,hs,ht,hcu,_⟩:=Hd9 hf0;obtain⟨hn1,hn16,_⟩:=Vd5 hx0;have es:y.su≠[]:=λe=>by rw[e] at hs;simp at hs;omega
  have et:y.to≠[]:=λe=>by rw[e] at ht;simp at ht;omega
  have hzw:(z++w).length<=1000000:=by rw[Qdc];omega
  have hzwl:∀q∈z++w,q.length<=1000000:=λq hq=>by rcases Qiq.1 hq with h | h;exact hzl q h;exact hwl q h
  have hyz:∀q∈y.cu++z,q.length<=1000000:=λq hq=>by rcases Qiq.1 hq with h | h;exact hy.cl q h;exact hzl q h
  have hyzn:∀q∈y.cu++z,q≠[]:=λq hq=>by rcases Qiq.1 hq with h | h;exact hyn q h;exact hzn q h
  have hW:W ((y.cu.length:Int)+(z.length:Int))=(y.cu.length:Int)+(z.length:Int):=ja8 (by omega) (by omega)
  have c2:=ue9 z w (by omega) (by omega)
  have c6:=ue9 y.cu z hy.cu (by omega)
  have b4:=Ud9 y.su es hy.su;have b5:=Ud9 y.to et hy.to;have k0:pa2 []=0:=Rc1 (s:=[]) (by simp) (by simp)
  have k1:pa3 []=true:=Rc2 (s:=[]) (by simp) (by simp)
  have k2:=Rc1 hzw hzwl;have k3:=Rc2 hzw hzwl;have k4:la3 []=[]:=ad9 (l:=[]) (by simp) (by simp) (by simp)
  have k5:fa0 []=true:=bd0 (l:=[]) (by simp) (by simp) (by simp)
  have hyzc:(y.cu++z).length<=1000000:=by rw[Qdc];omega
  have k6:=ad9 hyzc hyz hyzn;have k7:=bd0 hyzc hyz hyzn;have A:Apl z w x.cl (y.cu++z) y.su y.to:=⟨by omega,by omega,hx.cl,hyzc,hzl,hwl,hx.pl,hyz,hs,ht⟩
  have T:=Fe8 A;have q0:((0:Int) != 0)=false:=rfl;rw[c2,c6,b4,b5];by_cases hzw0:z++w=[]
  ·rw[if_pos hzw0];have hz0:z=[]:=List.append_eq_nil_iff.1 hzw0 |>.1
   rw[hzw0];simp only[n11,i6,k0,k1,q0,A6,hW];rw[show (Bc5 [] != 0)=false from rfl,if_neg (show ¬ false=true by decide)]
   by_cases h24:(y.cu.length:Int)+(z.length:Int)>24
   ·rw[btD h24,if_pos h24];exact⟨_,_,rfl,Vd3 _,rfl⟩
   ·rw[bfD h24,if_neg h24];by_cases hc0:y.cu++z=[]
    ·rw[if_pos hc0];rw[hc0] at T;simp only[n11,i6,k4,k5];rw[hc0];exact T
    ·rw[if_neg hc0];simp only[n21,n22,n11,i6,A6,ve2 tLq (y.cu++z) rfl,ee8 tLq (y.cu++z) rfl,k6,k7];exact T
  ·rw[if_neg hzw0];simp only[n21,n22,n11,i6,A6,ve2 tLq (z++w) rfl,ee8 tLq (z++w) rfl,k2,k3,hW];cases hck:(Bc5 (z++w) != 0) with
   |true=>rw[i6,if_pos rfl];exact⟨_,_,rfl,Vd3 _,rfl⟩
   |false =>
    rw[A6,if_neg (show ¬ false=true by decide)]
    by_cases h24:(y.cu.length:Int)+(z.length:Int)>24
    ·rw[btD h24,if_pos h24];exact⟨_,_,rfl,Vd3 _,rfl⟩
    ·rw[bfD h24,if_neg h24];by_cases hc0:y.cu++z=[]
     ·rw[if_pos hc0];rw[hc0] at T;simp only[n11,i6,k4,k5];rw[hc0];exact T
     ·rw[if_neg hc0];simp only[n21,n22,n11,i6,A6,ve2 tLq (y.cu++z) rfl,ee8 tLq (y.cu++z) rfl,k6,k7];exact T
theorem bd3{x:Prt}{y:Pce}{z w:LPq}(hx:Jok x)(hy:Pok y)(hz:z.length<=100000)(hw:w.length<=100000)(hzl:∀q∈z,q.length<=1000000)(hwl:∀q∈w,q.length<=1000000)
  (hyn:∀q∈y.cu,q≠[]) (hzn:∀q∈z,q≠[]):sa9 x y z w=Wa1 x y z w:=(ve4 hx hy hz hw hzl hwl hyn hzn).p
theorem bd4{x:Prt}{y:Pce}{z w:LPq}(hx:Jok x)(hy:Pok y)(hz:z.length<=100000)(hw:w.length<=100000)(hzl:∀q∈z,q.length<=1000000)(hwl:∀q∈w,q.length<=1000000)
  (hyn:∀q∈y.cu,q≠[]) (hzn:∀q∈z,q≠[]):ta0 x y z w=true:=(ve4 hx hy hz hw hzl hwl hyn hzn).g
end Go.Ev.Ce
