/- Own work. -/
import Derived.Test.YtigadclidanicaaGreatEvOaX1
set_option linter.all false
noncomputable section
def Qka:=@Bool.and_self
def Qkb:=@List.getD_eq_getElem?_getD
def Qkc:=@List.length_append
def Qkd:=@List.getElem?_eq_getElem
def Qke:=@Nat.lt_irrefl
def Qkf:=@Nat.zero_add
def Qkg:=@Nat.zero_le
def Qkh:=@List.take_length
def Qki:=@List.drop_zero
def Qkj:=@Nat.ble_eq
def Qkk:=@Nat.le_trans
def Qkl:=@List.ext_getElem
def Qkm:=@List.mem_range
def Qkn:=@List.all_eq_true
def Qko:=@List.any_eq_true
def Qkp:=@List.length_take
def Qkq:=@Nat.beq_refl
def Qkr:=@List.find?_eq_none
def Qks:=@Bool.false_eq_true
def Qkt:=@Bool.not_false
def Qku:=@List.findIdx_lt_length
def Qkv:=@Bool.not_true
def Qkw:=@List.getElem?_take
def Qkx:=@Bool.true_and
def Qky:=@List.exists_cons_of_ne_nil
def Qkz:=@List.take_add_one
def Qkaa:=@List.getElem?_eq_some_iff
def Qkab:=@List.drop_eq_getElem_cons
def Qkac:=@Bool.and_eq_true
def Qkad:=@Eq.trans
def Qkae:=@List.getElem?_replicate
def Qkaf:=@Nat.le_refl
def Qkag:=@List.length_filter_le
def Qkah:=@List.mem_iff_getElem?
def Qkai:=@List.length_replicate
namespace Go.Ev.Ce
open Go Go.Ev Go.Ev.L Go.Proofs
theorem lf7(ls:LPq)(hn:ls.length<=1000000000)(hl:ls.flatten.length<=1000000000):C5 ls=if ls.flatten=[] then ⟨1,0,[]⟩ else ⟨2,ls.flatten.length,bL tP ls.flatten⟩:=by
 unfold C5 R9;simp only[j8,l8];obtain⟨m,hm⟩:=De7 ls hn hl;rw[hm];by_cases h0:ls.flatten=[]
 ·obtain⟨s,hs⟩:=Ze2 ls hn h0;rw[if_pos h0,hs];rw[show (⟨(ls.flatten.length:Int),m⟩:B8)=⟨0,m⟩ by rw[h0];rfl]
  rfl
 ·obtain⟨m',hm'⟩:=De8 ls hn;rw[if_neg h0];simp only[Int.toNat_natCast];rw[hm'];have h1:0<ls.flatten.length:=List.length_pos_iff.2 h0;have e1:((ls.flatten.length:Int)==0)=false:=by rw[beq_eq_false_iff_ne];omega
  have e2:Bool.and (decide ((0:Int)<(ls.flatten.length:Int))) (Nat.ble (ls.flatten.length*32) room)=true:=by
   rw[ab4 (by omega),decide_eq_true (by omega)]
   rfl
  rw[e1,e2];rfl
theorem bf7(r:PLq)(p:Pln)(hr:r.length<=1000000):C5 [r,[p]]=⟨2,(r++[p]).length,bL tP (r++[p])⟩:=by
 have e:[r,[p]].flatten=r++[p]:=by simp
 rw[lf7 [r,[p]] (by simp) (by rw[e,Qkc];simp only[List.length_singleton];omega),e,if_neg (by simp)]
theorem Qf0(r:PLq)(p:Pln):slR tP (bL tP (r++[p])) 0 (r++[p]).length=r++[p]:=jc7 tP _
theorem Qf1(r:PLq)(p:Pln):okS tP (bL tP (r++[p])) 0 (r++[p]).length=true:=jc8 tP _
theorem Cd3{p:Pln}(h:Bd p):pb6 p=La9 p:=by
 unfold pb6 Bc6 La9
 simp only
 have:=h.x1;have:=h.x2;have:=h.y1;have:=h.y2;have:=h.z1;have:=h.z2;have:=h.b1;have:=h.b2
 rw[La6 (by omega) (by omega),La6 (by omega) (by omega),La6 (by omega) (by omega),La6 (by omega) (by omega)]
 simp only[Int.zero_sub]
def phL(O:LPq):Nat:=match O with
 |[]=>0
 |_::_=>1
theorem Xb2(O:LPq)(c:PLq):phL (O++[c])=1:=by cases O<;>rfl
theorem bf8(O:LPq)(c:PLq):app (bL tLq O) [[eL tP c]]=bL tLq (O++[c]):=Ka2 tLq O [c]
theorem qe9(O:LPq)(h:O.length<=1000000):(Nat.beq O.length (len (bL tLq O))&&Nat.ble ((O.length+1)*24) room)=true:=by
 rw[M2,Qkq,Qkx];exact Nat.ble_eq_true_of_le (by unfold room;omega)
theorem lf8(x fs:PLq)(j:Nat):jb1 x fs (j+1)=jb1 x fs j++(if 0<(Tb8 x fs j).length then [Tb8 x fs j] else []):=by
 unfold jb1;rw[List.range_succ,List.map_append,List.filter_append];congr 1;by_cases h:0<(Tb8 x fs j).length
 ·rw[if_pos h];simp[h]
 ·rw[if_neg h];simp[h]
theorem Ge2(x fs:PLq)(j:Nat):(jb1 x fs j).length<=j:=by
 unfold jb1
 have:=Qkag (λc:PLq=>decide (0<c.length)) ((List.range j).map (Tb8 x fs))
 simpa using this
theorem Cf7:Nat.beq 2 1=false:=rfl
theorem Cf8:Nat.beq 2 2=true:=rfl
theorem Qf2(x fs q:PLq)(xs:LPq)(a c:Int)(O:LPq)(hf:∀p∈fs,okp p=true)(hfl:fs.length<=1000)(hO:O.length<=900000) :
  ∃t s,lp (q7 ⟨fs,(fs.length:Int),q,fs,xs,a,c⟩) ⟨phL O,x,0,O.length,bL tLq O⟩=(t,s) /\
   ((Sa6 x fs=true->t=phL (O++jb1 x fs fs.length)*2+2/\s.I4=(O++jb1 x fs fs.length).length/\s.eh3=bL tLq (O++jb1 x fs fs.length))/\(Sa6 x fs=false->t=1\/t=3)):=by
 refine Fa0 (step:=q7 ⟨fs,(fs.length:Int),q,fs,xs,a,c⟩) (mk:=λj (O':LPq)=>(⟨phL O',na1 x fs j,(j:Int),O'.length,bL tLq O'⟩:l9)) fs.length
  (λj O'=>j<=fs.length/\O'=O++jb1 x fs j/\∀i,i<j->(na1 x fs i).length<48)
  (λt s=>(Sa6 x fs=true->t=phL (O++jb1 x fs fs.length)*2+2/\s.I4=(O++jb1 x fs fs.length).length/\s.eh3=bL tLq (O++jb1 x fs fs.length))/\(Sa6 x fs=false->t=1\/t=3)) (by omega)
  (λj O' hj hi=>?_) (λj O' hj hi=>?_) 0 O ⟨Qkg _,by simp[jb1],λi hi=>absurd hi (Nat.not_lt_zero i)⟩
 ·obtain⟨_,hO',hr⟩:=hi;have hn:W ((j:Int)+1)=((j+1:Nat):Int):=u7 hj (by omega)
  have hp:=hf _ (X7 tP hj);have hb:=md6 hp;have hOl:O'.length<=1000000:=by
   rw[hO',Qkc]
   have:=Ge2 x fs j
   omega
  have hroom:=qe9 O' hOl;by_cases h48:(na1 x fs j).length<48
  ·have e1:decide (((na1 x fs j).length:Int)>=48)=false:=decide_eq_false (by omega)
   have c1:=bf7 (na1 x fs j) (La9 (gL tP fs j)) (by omega)
   have c2:=bf7 (na1 x fs j) (gL tP fs j) (by omega)
   have l1:W9 (na1 x fs j++[La9 (gL tP fs j)])=true:=decide_eq_true (by rw[Qkc];simp only[List.length_singleton];omega)
   have l2:W9 (na1 x fs j++[gL tP fs j])=true:=decide_eq_true (by rw[Qkc];simp only[List.length_singleton];omega)
   have m1:W8 (na1 x fs j++[La9 (gL tP fs j)])=Tb8 x fs j:=rfl;have m2:W8 (na1 x fs j++[gL tP fs j])=na1 x fs (j+1):=rfl;have hnew:O++jb1 x fs (j+1)=O'++(if 0<(Tb8 x fs j).length then [Tb8 x fs j] else []):=by rw[lf8,<- List.append_assoc,<- hO']
   have hnx : ∀ {s : l9}, s = ⟨phL (O ++ jb1 x fs (j + 1)), na1 x fs (j + 1), ((j + 1 : Nat) : Int), (O ++ jb1 x fs (j + 1)).length, bL tLq (O ++ jb1 x fs (j + 1))⟩ →
     Nx (.next s) (λt=>(Sa6 x fs=true->t=phL (O++jb1 x fs fs.length)*2+2/\(⟨phL O',na1 x fs j,(j:Int),O'.length,bL tLq O'⟩:l9).I4=(O++jb1 x fs fs.length).length/\(⟨phL O',na1 x fs j,(j:Int),O'.length,bL tLq O'⟩:l9).eh3=bL tLq (O++jb1 x fs fs.length))/\(Sa6 x fs=false->t=1\/t=3))
      (λs=>∃O'',s=(⟨phL O'',na1 x fs (j+1),((j+1:Nat):Int),O''.length,bL tLq O''⟩:l9)/\(j+1<=fs.length/\O''=O++jb1 x fs (j+1)/\∀i,i<j+1->(na1 x fs i).length<48)) :=
    λ{s} hs=>.nx ⟨_,hs,hj,rfl,λi hi=>by
     by_cases e:i=j
     ·subst e;exact h48
     ·exact hr i (by omega)⟩
   by_cases hc:0<(Tb8 x fs j).length
   ·have e2:decide (((Tb8 x fs j).length:Int)>0)=true:=decide_eq_true (by omega)
    have e3:Nat.beq (Tb8 x fs j).length 0=false:=by
     cases h:(Tb8 x fs j).length with
     |zero=>omega
     |succ n=>rfl
    rw[if_pos hc] at hnew;cases O' with
    |nil =>
     have e:q7 ⟨fs,(fs.length:Int),q,fs,xs,a,c⟩ ⟨phL [],na1 x fs j,(j:Int),([]:LPq).length,bL tLq []⟩=.next ⟨1,na1 x fs (j+1),((j+1:Nat):Int),1,[[eL tP (Tb8 x fs j)]]⟩:=by
      show E7 Stp.next Stp.exit Stp.fail _ _=_;simp only[E7,Int.toNat_natCast,j8,w7,Cd3 hb,c1,c2,hn,Qf0,Qf1,l1,l2,m1,m2,Cf7,Cf8,e1,e2,e3,g9,w6,Qka,Qkt];rw[btD (o6 hj),bt (i9 hj)]
     rw[e];exact hnx (by rw[hnew];rfl)
    |cons o os =>
     have e:q7 ⟨fs,(fs.length:Int),q,fs,xs,a,c⟩ ⟨phL (o::os),na1 x fs j,(j:Int),(o::os).length,bL tLq (o::os)⟩=.next ⟨1,na1 x fs (j+1),((j+1:Nat):Int),(o::os).length+1,bL tLq (o::os++[Tb8 x fs j])⟩:=by
      show E8 Stp.next Stp.exit Stp.fail _ _=_;simp only[E8,Int.toNat_natCast,j8,w7,Cd3 hb,c1,c2,hn,Qf0,Qf1,l1,l2,m1,m2,Cf7,Cf8,e1,e2,e3,hroom,bf8,g9,w6,Qka,Qkt];rw[btD (o6 hj),bt (i9 hj)]
     rw[e];exact hnx (by rw[hnew,Xb2,Qkc];rfl)
   ·have e2:decide (((Tb8 x fs j).length:Int)>0)=false:=decide_eq_false (by omega)
    rw[if_neg hc,List.append_nil] at hnew;cases O' with
    |nil =>
     have e:q7 ⟨fs,(fs.length:Int),q,fs,xs,a,c⟩ ⟨phL [],na1 x fs j,(j:Int),([]:LPq).length,bL tLq []⟩=.next ⟨0,na1 x fs (j+1),((j+1:Nat):Int),0,[]⟩:=by
      show E7 Stp.next Stp.exit Stp.fail _ _=_;simp only[E7,Int.toNat_natCast,j8,w7,Cd3 hb,c1,c2,hn,Qf0,Qf1,l1,l2,m1,m2,Cf7,Cf8,e1,e2,g9,w6,Qka,Qkt];rw[btD (o6 hj),bt (i9 hj)]
     rw[e];exact hnx (by rw[hnew];rfl)
    |cons o os =>
     have e:q7 ⟨fs,(fs.length:Int),q,fs,xs,a,c⟩ ⟨phL (o::os),na1 x fs j,(j:Int),(o::os).length,bL tLq (o::os)⟩=.next ⟨1,na1 x fs (j+1),((j+1:Nat):Int),(o::os).length,bL tLq (o::os)⟩:=by
      show E8 Stp.next Stp.exit Stp.fail _ _=_;simp only[E8,Int.toNat_natCast,j8,w7,Cd3 hb,c1,c2,hn,Qf0,Qf1,l1,l2,m1,m2,Cf7,Cf8,e1,e2,g9,w6,Qka,Qkt];rw[btD (o6 hj),bt (i9 hj)]
     rw[e];exact hnx (by rw[hnew];rfl)
  ·have e1:decide (((na1 x fs j).length:Int)>=48)=true:=decide_eq_true (by omega)
   have hno:Sa6 x fs=false:=by
    cases h:Sa6 x fs with
    |false=>rfl
    |true =>
     have:=Qkn.1 h j (Qkm.2 hj)
     exact absurd (by simpa using this) h48
   have hex:∀{t:Nat},(t=1\/t=3)->(Sa6 x fs=true->t=phL (O++jb1 x fs fs.length)*2+2/\(⟨phL O',na1 x fs j,(j:Int),O'.length,bL tLq O'⟩:l9).I4=(O++jb1 x fs fs.length).length/\(⟨phL O',na1 x fs j,(j:Int),O'.length,bL tLq O'⟩:l9).eh3=bL tLq (O++jb1 x fs fs.length))/\(Sa6 x fs=false->t=1\/t=3):=λh=>⟨λh'=>(by rw[hno] at h';cases h'),λ_=>h⟩
   cases O' with
   |nil =>
    have e:q7 ⟨fs,(fs.length:Int),q,fs,xs,a,c⟩ ⟨phL [],na1 x fs j,(j:Int),([]:LPq).length,bL tLq []⟩=.exit 1:=by
     show E7 Stp.next Stp.exit Stp.fail _ _=_;simp only[E7,e1,g9];rw[btD (o6 hj),bt (i9 hj)]
    rw[e];exact .ex (hex (.inl rfl))
   |cons o os =>
    have e:q7 ⟨fs,(fs.length:Int),q,fs,xs,a,c⟩ ⟨phL (o::os),na1 x fs j,(j:Int),(o::os).length,bL tLq (o::os)⟩=.exit 3:=by
     show E8 Stp.next Stp.exit Stp.fail _ _=_;simp only[E8,e1,g9];rw[btD (o6 hj),bt (i9 hj)]
    rw[e];exact .ex (hex (.inr rfl))
 ·obtain⟨h1,hO',hr⟩:=hi;have hje:j=fs.length:=by omega
  subst hje;have hyes:Sa6 x fs=true:=Qkn.2 λi hi=>by simpa using hr i (Qkm.1 hi)
  refine⟨phL O'*2+2,?_,λ_=>?_,λh=>(by rw[hyes] at h;cases h)⟩
  ·cases O' with
   |nil =>
    show E7 Stp.next Stp.exit Stp.fail _ _=_;simp only[E7];rw[bfD (B0 (Qke _))];rfl
   |cons o os =>
    show E8 Stp.next Stp.exit Stp.fail _ _=_;simp only[E8];rw[bfD (B0 (Qke _))];rfl
  ·rw[<- hO'];exact⟨rfl,rfl,rfl⟩
theorem lf9{α β:Type}(t:Ty α)(l:List α)(f:α->List β){j:Nat}(hj:j<l.length):(l.take (j+1)).flatMap f=(l.take j).flatMap f++f (gL t l j):=by
 rw[Qkz,Qkd hj,List.flatMap_append];simp[gL,Qkb,Qkd hj]
theorem mf0{α:Type}(t:Ty α)(l:List α)(f:α->Bool){j:Nat}(hj:j<l.length):(l.take (j+1)).all f=((l.take j).all f&&f (gL t l j)):=by
 rw[Qkz,Qkd hj,List.all_append];simp[gL,Qkb,Qkd hj]
theorem Cf9{q x:PLq}(h:(lean q).length<=48):(lb7 q x).length<=48:=by
 unfold lb7;split
 ·simp
 ·exact Qkk (Ge2 _ _ _) h
theorem Ge3{q:PLq}(h:(lean q).length<=48):∀l:LPq,(l.flatMap (lb7 q)).length<=48*l.length
 |[]=>by simp
 |x::l=>by
  have:=Ge3 h l
  have:=Cf9 (x:=x) h
  simp only[List.flatMap_cons,Qkc,List.length_cons];omega
structure W0(q:PLq)(xs:LPq)(t:Nat)(s:s8):Prop where
 y:xs.all (tb2 q)=true->t=phL (xs.flatMap (lb7 q))*3+3/\s.I4=(xs.flatMap (lb7 q)).length/\s.eh3=bL tLq (xs.flatMap (lb7 q))
 n:xs.all (tb2 q)=false->t=1\/t=2\/t=4\/t=5
theorem nbA:Nat.beq 1 2=false/\Nat.beq 1 3=false/\Nat.beq 1 4=false/\Nat.beq 1 1=true/\Nat.beq 3 1=false/\Nat.beq 3 2=false/\Nat.beq 3 3=true/\Nat.beq 4 1=false/\Nat.beq 4 2=false/\Nat.beq 4 3=false/\Nat.beq 4 4=true/\Nat.beq 2 3=false/\Nat.beq 2 4=false:=⟨rfl,rfl,rfl,rfl,rfl,rfl,rfl,rfl,rfl,rfl,rfl,rfl,rfl⟩
theorem Qf3(q:PLq)(xs:LPq)(hq:q.length<=1000000)(hxs:xs.length<=10000)(hx:∀x∈xs,x.length<=1000000)(hf:∀p∈lean q,okp p=true)(hfl:(lean q).length<=48) :
  ∃t s,lp (C8 ⟨(xs.length:Int)⟩) ⟨0,q,lean q,xs,0,0,[]⟩=(t,s)/\W0 q xs t s:=by
 refine Fa0 (step:=C8 ⟨(xs.length:Int)⟩) (mk:=λj (O':LPq)=>(⟨phL O',q,lean q,xs,(j:Int),O'.length,bL tLq O'⟩:s8)) xs.length
  (λj O'=>j<=xs.length/\O'=(xs.take j).flatMap (lb7 q)/\(xs.take j).all (tb2 q)=true) (W0 q xs) (by omega)
  (λj O' hj hi=>?_) (λj O' hj hi=>?_) 0 [] ⟨Qkg _,by simp,by simp⟩
 ·obtain⟨_,hO',hr⟩:=hi;have hn:W ((j:Int)+1)=((j+1:Nat):Int):=u7 hj (by omega)
  have hxl:=hx _ (X7 tLq hj);have hOl:O'.length<=800000:=by
   rw[hO']
   have:=Ge3 hfl (xs.take j)
   have:=List.length_take_le j xs
   omega
  have hroom:=qe9 O' (by omega)
  have hA:=pe5 (a:=gL tLq xs j) (c:=q) (by omega) (by omega)
  have gA:=pe6 (a:=gL tLq xs j) (c:=q) (by omega) (by omega)
  have hnew:=lf9 tLq xs (lb7 q) hj;have hall:=mf0 tLq xs (tb2 q) hj;rw[<- hO'] at hnew;rw[hr,Qkx] at hall;have hfull:∀{v:Bool},tb2 q (gL tLq xs j)=v->v=false->xs.all (tb2 q)=false:=λ{v} h hv=>by
   rw[List.all_eq_false];exact⟨_,X7 tLq hj,by rw[h,hv];decide⟩
  have hnx : tb2 q (gL tLq xs j) = true → ∀ {s : s8}, s = ⟨phL ((xs.take (j + 1)).flatMap (lb7 q)), q, lean q, xs, ((j + 1 : Nat) : Int), ((xs.take (j + 1)).flatMap (lb7 q)).length, bL tLq ((xs.take (j + 1)).flatMap (lb7 q))⟩ →
    Nx (.next s) (λt=>W0 q xs t (⟨phL O',q,lean q,xs,(j:Int),O'.length,bL tLq O'⟩:s8))
     (λs=>∃O'',s=(⟨phL O'',q,lean q,xs,((j+1:Nat):Int),O''.length,bL tLq O''⟩:s8)/\(j+1<=xs.length/\O''=(xs.take (j+1)).flatMap (lb7 q)/\(xs.take (j+1)).all (tb2 q)=true)) :=
   λh {s} hs=>.nx ⟨_,hs,hj,rfl,by rw[hall,h]⟩
  have hex:tb2 q (gL tLq xs j)=false->∀{t:Nat},(t=1\/t=2\/t=4\/t=5)->W0 q xs t (⟨phL O',q,lean q,xs,(j:Int),O'.length,bL tLq O'⟩:s8):=λh {t} ht =>
   ⟨λh'=>(by rw[hfull h rfl] at h';cases h'),λ_=>ht⟩
  have hgx:inB (j:Int) xs.length=true:=i9 hj;have hlt:((j:Int)<(xs.length:Int)):=o6 hj;generalize hX:gL tLq xs j=x at *
  obtain⟨z1,z2,z3,z4,z5,z6,z7,z8,z9,zA,zB,zC,zD⟩:=nbA;cases hap:apart x q with
  |true =>
   have hp:lb7 q x=[x]:=by unfold lb7;rw[hap,if_pos rfl]
   have hro:tb2 q x=true:=by unfold tb2;rw[hap];rfl
   rw[hap] at hA;rw[hp] at hnew;cases O' with
   |nil =>
    have e:C8 ⟨(xs.length:Int)⟩ ⟨phL [],q,lean q,xs,(j:Int),([]:LPq).length,bL tLq []⟩=.next ⟨1,q,lean q,xs,((j+1:Nat):Int),1,[[eL tP x]]⟩:=by
     show s6 Stp.next Stp.exit Stp.fail _ _=_;simp only[s6,Int.toNat_natCast,j8,w7,hX,hA,gA,hn,hgx,g9];rw[btD hlt]
    rw[e];exact hnx hro (by rw[hnew];rfl)
   |cons o os =>
    have e:C8 ⟨(xs.length:Int)⟩ ⟨phL (o::os),q,lean q,xs,(j:Int),(o::os).length,bL tLq (o::os)⟩=.next ⟨1,q,lean q,xs,((j+1:Nat):Int),(o::os).length+1,bL tLq (o::os++[x])⟩:=by
     show B5 Stp.next Stp.exit Stp.fail _ _=_;simp only[B5,Int.toNat_natCast,j8,w7,hX,hA,gA,hn,hgx,hroom,bf8,g9];rw[btD hlt]
    rw[e];exact hnx hro (by rw[hnew,Xb2,Qkc];rfl)
  |false =>
   have hp:lb7 q x=jb1 x (lean q) (lean q).length:=by unfold lb7;rw[hap,if_neg (by decide)]
   have hro:tb2 q x=Sa6 x (lean q):=by unfold tb2;rw[hap];rfl
   rw[hap] at hA;rw[hp] at hnew;obtain⟨t,s,hlp,hy,hno⟩:=Qf2 x (lean q) q xs (xs.length:Int) (j:Int) O' hf (by omega) (by omega)
   cases hr48:Sa6 x (lean q) with
   |true =>
    obtain⟨h1,h2,h3⟩:=hy hr48;rw[<- hnew] at h1 h2 h3;cases O' with
    |nil =>
     have hlp:lp (q7 ⟨lean q,((lean q).length:Int),q,lean q,xs,(xs.length:Int),(j:Int)⟩) ⟨0,x,0,0,[]⟩=(t,s):=hlp;by_cases hO:(xs.take (j+1)).flatMap (lb7 q)=[]
     ·rw[hO] at h1;have h1:t=2:=h1;subst h1;have e:C8 ⟨(xs.length:Int)⟩ ⟨phL [],q,lean q,xs,(j:Int),([]:LPq).length,bL tLq []⟩=.next ⟨0,q,lean q,xs,((j+1:Nat):Int),0,[]⟩:=by
       show s6 Stp.next Stp.exit Stp.fail _ _=_;simp only[s6,Int.toNat_natCast,j8,w7,l8,hX,hA,gA,hn,hgx,hlp,Cf7,Cf8,g9,w6,Qka];rw[btD hlt]
      rw[e];exact hnx (hro.trans hr48) (by rw[hO];rfl)
     ·obtain⟨o,os,hO⟩:=Qky hO;rw[hO] at h1 h2 h3;have h1:t=4:=h1;subst h1;have e:C8 ⟨(xs.length:Int)⟩ ⟨phL [],q,lean q,xs,(j:Int),([]:LPq).length,bL tLq []⟩=.next ⟨1,q,lean q,xs,((j+1:Nat):Int),s.I4,s.eh3⟩:=by
       show s6 Stp.next Stp.exit Stp.fail _ _=_;simp only[s6,Int.toNat_natCast,j8,w7,l8,hX,hA,gA,hn,hgx,hlp,z8,z9,zA,zB,g9,w6,Qka];rw[btD hlt]
      rw[e];exact hnx (hro.trans hr48) (by rw[h2,h3,hO];rfl)
    |cons o os =>
     have hlp:lp (q7 ⟨lean q,((lean q).length:Int),q,lean q,xs,(xs.length:Int),(j:Int)⟩) ⟨1,x,0,(o::os).length,bL tLq (o::os)⟩=(t,s):=hlp;have h1:t=4:=by rw[h1,hnew];rfl
     subst h1;have e:C8 ⟨(xs.length:Int)⟩ ⟨phL (o::os),q,lean q,xs,(j:Int),(o::os).length,bL tLq (o::os)⟩=.next ⟨1,q,lean q,xs,((j+1:Nat):Int),s.I4,s.eh3⟩:=by
      show B5 Stp.next Stp.exit Stp.fail _ _=_;simp only[B5,Int.toNat_natCast,j8,w7,l8,hX,hA,gA,hn,hgx,hlp,z8,z9,zA,zB,g9,w6,Qka];rw[btD hlt]
     rw[e];exact hnx (hro.trans hr48) (by rw[h2,h3,hnew];rfl)
   |false =>
    have ht:=hno hr48;cases O' with
    |nil =>
     have hlp:lp (q7 ⟨lean q,((lean q).length:Int),q,lean q,xs,(xs.length:Int),(j:Int)⟩) ⟨0,x,0,0,[]⟩=(t,s):=hlp
     rcases ht with rfl|rfl
     ·have e : C8 ⟨(xs.length : Int)⟩ ⟨phL [], q, lean q, xs, (j : Int), ([] : LPq).length, bL tLq []⟩ = .exit 1 := by
       show s6 Stp.next Stp.exit Stp.fail _ _=_;simp only[s6,Int.toNat_natCast,j8,w7,l8,hX,hA,gA,hn,hgx,hlp,z4,g9,w6,Qka];rw[btD hlt]
      rw[e];exact .ex (hex (hro.trans hr48) (by simp))
     ·have e : C8 ⟨(xs.length : Int)⟩ ⟨phL [], q, lean q, xs, (j : Int), ([] : LPq).length, bL tLq []⟩ = .exit 2 := by
       show s6 Stp.next Stp.exit Stp.fail _ _=_;simp only[s6,Int.toNat_natCast,j8,w7,l8,hX,hA,gA,hn,hgx,hlp,z5,z6,z7,g9,w6,Qka];rw[btD hlt]
      rw[e];exact .ex (hex (hro.trans hr48) (by simp))
    |cons o os =>
     have hlp:lp (q7 ⟨lean q,((lean q).length:Int),q,lean q,xs,(xs.length:Int),(j:Int)⟩) ⟨1,x,0,(o::os).length,bL tLq (o::os)⟩=(t,s):=hlp
     rcases ht with rfl|rfl
     ·have e : C8 ⟨(xs.length : Int)⟩ ⟨phL (o :: os), q, lean q, xs, (j : Int), (o :: os).length, bL tLq (o :: os)⟩ = .exit 4 := by
       show B5 Stp.next Stp.exit Stp.fail _ _=_;simp only[B5,Int.toNat_natCast,j8,w7,l8,hX,hA,gA,hn,hgx,hlp,z4,g9,w6,Qka];rw[btD hlt]
      rw[e];exact .ex (hex (hro.trans hr48) (by simp))
     ·have e : C8 ⟨(xs.length : Int)⟩ ⟨phL (o :: os), q, lean q, xs, (j : Int), (o :: os).length, bL tLq (o :: os)⟩ = .exit 5 := by
       show B5 Stp.next Stp.exit Stp.fail _ _=_;simp only[B5,Int.toNat_natCast,j8,w7,l8,hX,hA,gA,hn,hgx,hlp,z5,z6,z7,g9,w6,Qka];rw[btD hlt]
      rw[e];exact .ex (hex (hro.trans hr48) (by simp))
 ·obtain⟨h1,hO',hr⟩:=hi;have hje:j=xs.length:=by omega
  subst hje;rw[Qkh] at hO' hr;refine⟨phL O'*3+3,?_,λ_=>?_,λh=>(by rw[hr] at h;cases h)⟩
  ·cases O' with
   |nil =>
    show s6 Stp.next Stp.exit Stp.fail _ _=_;simp only[s6];rw[bfD (B0 (Qke _))];rfl
   |cons o os =>
    show B5 Stp.next Stp.exit Stp.fail _ _=_;simp only[B5];rw[bfD (B0 (Qke _))];rfl
  ·rw[<- hO'];exact⟨rfl,rfl,rfl⟩
def xa5(x:LPq)(y:PLq):LPq×Int:=match ma1 x y with
 |some r=>(r,0)
 |none=>([],9)
theorem Xf2{α:Type}(t:Ty α)(l:List α)(n:Int):(two (r1L t) r1I).rd (.tup [eL t l,i n],[])=some (l,n):=by
 have h:(r1L t).rd [] (eL t l)=some l:=by
  show Bool.rec (motive:=λ_=>Option (List α)) none (some (rt t l)) (Bool.and (Nat.beq t.es t.es) (okE t l))=_
  rw[j8,w7,Qkq];rfl
 simp only[two,h];rfl
theorem pg6{α:Type}(t:Ty α)(l:List α)(n:Int):(two (r1L t) r1I).rd (.tup [.tree t.es l.length (λk=>g8 (bL t l) (0+k)),i n],[])=some (l,n):=by
 have h:(r1L t).rd [] (.tree t.es l.length (λk=>g8 (bL t l) (0+k)))=some l:=by
  show Bool.rec (motive:=λ_=>Option (List α)) none (some (lsL t l.length λk=>g8 (bL t l) (0+k))) (Bool.and (Nat.beq t.es t.es) (okL t l.length λk=>g8 (bL t l) (0+k)))=_
  rw[jc6 t (l:=l) rfl λk hk=>by rw[Qkf,U1 t hk],Yb6 t (f:=λk=>gL t l k) λk hk=>by rw[Qkf,U1 t hk],Qkq]
  rfl
 simp only[two,h];rfl
theorem pg7{α:Type}(t:Ty α)(k:Nat)(l:List α)(n:Int):(two (r1L t) r1I).rd (.tup [.sl 0 0 l.length 0,i n],[⟨k,t.es,bL t l,true,false,0⟩])=some (l,n):=by
 have h:(r1L t).rd [⟨k,t.es,bL t l,true,false,0⟩] (.sl 0 0 l.length 0)=some l:=eg0 t k l;simp only[two,h];rfl
theorem Od0(x:LPq)(y:PLq)(hy:y.length<=1000000)(hx:x.length<=10000)(hxl:∀c∈x,c.length<=1000000):Rd (two (r1L tLq) r1I) (Pa3 x y) (λr=>r=xa5 x y):=by
 have hF:=md9 (c:=y) (by omega);have gF:=nd0 (c:=y) (by omega)
 have hL:W8 y=lean y:=rfl;have gL':W9 y=true:=decide_eq_true hy;unfold Pa3 xa5 ma1;simp only[j8,w7,l8,hF,gF,hL,gL',g9,Qka];cases hf:ful y with
 |false=>exact⟨_,(x,0),rfl,Xf2 tLq x 0,rfl⟩
 |true =>
  have hc:=(ed3.1 hf).1;have hfl:(lean y).length<=48:=by
   have:=Nd8 y
   rw[beq_iff_eq,Pb4] at hc;omega
  obtain⟨t,s,hlp,hw⟩:=Qf3 y x hy hx hxl (λp hp=>jd2 hc p (List.mem_append_left _ (Cf5 hp))) hfl
  simp only[hlp,Qkv,w6,if_true];cases hr:x.all (tb2 y) with
  |false =>
   rcases hw.n hr with rfl|rfl|rfl|rfl<;>exact⟨_,([],9),rfl,rfl,rfl⟩
  |true =>
   obtain⟨h1,h2,h3⟩:=hw.y hr;by_cases hO:x.flatMap (lb7 y)=[]
   ·rw[hO] at h1 ⊢;have h1:t=3:=h1;subst h1;exact⟨_,([],0),rfl,rfl,rfl⟩
   ·have h1 : t = 6 := by
     obtain⟨o,os,hO⟩:=Qky hO;rw[h1,hO];rfl
    subst h1;rw[h2,h3];by_cases h200:(x.flatMap (lb7 y)).length<=200
    ·rw[decide_eq_true h200];refine⟨_,(x.flatMap (lb7 y),0),?_,pg6 tLq _ 0,rfl⟩
     have:decide (((x.flatMap (lb7 y)).length:Int)>200)=false:=decide_eq_false (by omega)
     rw[this];rfl
    ·rw[decide_eq_false h200]
     have:decide (((x.flatMap (lb7 y)).length:Int)>200)=true:=decide_eq_true (by omega)
     rw[this];exact⟨_,([],9),rfl,rfl,rfl⟩
theorem Jc5{x:LPq}{y:PLq}(hy:y.length<=1000000)(hx:x.length<=10000)(hxl:∀c∈x,c.length<=1000000):ja0 x y=xa5 x y:=(Od0 x y hy hx hxl).p
theorem mf1{x:LPq}{y:PLq}(hy:y.length<=1000000)(hx:x.length<=10000)(hxl:∀c∈x,c.length<=1000000):hb5 x y=true:=(Od0 x y hy hx hxl).g
def schk(s:LPq):Int:=if (s.length:Int)>16 then 2 else match s.find? λc=>chk c != 0 with
 |some c=>chk c
 |none=>0
theorem bf9{α:Type}(t:Ty α)(l:List α)(f:α->Bool)(h:l.any f=true):l.find? f=some (gL t l (l.findIdx f)):=by
 have hlt:l.findIdx f<l.length:=Qku.2 (Qko.1 h);rw[List.find?_eq_some_iff_getElem];refine⟨?_,l.findIdx f,hlt,?_,λj hj=>?_⟩
 ·simp only[gL,Qkb,Qkd hlt,Option.getD_some];exact List.findIdx_getElem (w:=hlt)
 ·simp[gL,Qkb,Qkd hlt]
 ·have:=List.not_of_lt_findIdx hj
  simpa using this
theorem ee6(s:LPq)(hs:s.length<=1000000)(hl:∀c∈s,c.length<=1000000):fb2 s=some (i (schk s),[]):=by
 have h:=yb7 (step:=Ha8 ⟨s,(s.length:Int)⟩) (mk:=λj=>(⟨(j:Int)⟩:ba2)) (c:=λc=>chk c != 0) (u:=1) (fin:=2) tLq s (by omega)
  (λj hj=>by
   have hc:=hl _ (X7 tLq hj);simp only[Ha8,Ba9,Int.toNat_natCast,j8,w7,Jc1 _ (show (gL tLq s j).length<=1000000000 by omega),Cd1 _ (show (gL tLq s j).length<=1000000000 by omega),u7 hj (show s.length<=4611686018427387904 by omega),g9]
   rw[btD (o6 hj),bt (i9 hj)])
  (by simp only[Ha8,Ba9];rw[bfD (B0 (Qke _))]) 0 (Qkg _)
 rw[Qki,Qkf] at h;unfold fb2 schk;simp only[j8,w7,l8];rw[show (⟨0⟩:ba2)=⟨((0:Nat):Int)⟩ from rfl,h]
 by_cases h16:(s.length:Int)>16
 ·rw[btD h16,if_pos h16]
 ·rw[bfD h16,if_neg h16];cases ha:s.any λc=>chk c != 0 with
  |true =>
   have hlt:s.findIdx (λc=>chk c != 0)<s.length:=Qku.2 (Qko.1 ha)
   have hc:=hl _ (X7 tLq hlt);rw[bf9 tLq s _ ha];simp only[Int.toNat_natCast,if_true,Jc1 _ (show (gL tLq s (s.findIdx λc=>chk c != 0)).length<=1000000000 by omega)]
   rfl
  |false =>
   rw[Qkr.2 λc hc=>by have:=List.any_eq_false.1 ha c hc;simpa using this]
   rfl
theorem Df0{s:LPq}(hs:s.length<=1000000)(hl:∀c∈s,c.length<=1000000):yb8 s=schk s:=by unfold yb8;rw[ee6 s hs hl];rfl
theorem Df1{s:LPq}(hs:s.length<=1000000)(hl:∀c∈s,c.length<=1000000):yb9 s=true:=by unfold yb9;rw[ee6 s hs hl];rfl
theorem fg7{c:PLq}(h:chk c=0):c.length<=48:=(Pb4.1 h).1
theorem mf2{s:LPq}(h:schk s=0):s.length<=16/\∀c∈s,chk c=0:=by
 unfold schk at h
 split at h
 ·cases h
 ·refine⟨by omega,λc hc=>?_⟩
  cases hf:s.find? λc=>chk c != 0 with
  |none=>simpa using Qkr.1 hf c hc
  |some d =>
   rw[hf] at h
   have:=List.find?_some hf
   simp only at h
   rw[h] at this;cases this
theorem ed4{ps r:LPq}{q:PLq}(h:ma1 ps q=some r)(hp:ps.length<=200):r.length<=200:=by
 unfold ma1 at h
 split at h
 ·split at h
  ·rename_i h';injection h with h;subst h;rw[Qkac] at h';exact of_decide_eq_true h'.2
  ·cases h
 ·injection h with h;subst h;exact hp
theorem Df2(x fs:PLq)(j:Nat)(h:(na1 x fs j).length<48):(Tb8 x fs j).length<=48:=by
 unfold Tb8
 have:=Nd8 (na1 x fs j++[La9 (gL tP fs j)])
 rw[Qkc] at this;simp only[List.length_singleton] at this;omega
theorem ud2{ps r:LPq}{q:PLq}(h:ma1 ps q=some r)(hp:∀c∈ps,c.length<=48):∀c∈r,c.length<=48:=by
 unfold ma1 at h
 split at h
 ·split at h
  ·rename_i h';injection h with h;subst h;rw[Qkac,Qkn] at h';intro c hc;obtain⟨x,hx,hc⟩:=List.mem_flatMap.1 hc;have hr:=h'.1 x hx;unfold lb7 at hc;unfold tb2 at hr;cases ha:apart x q with
   |true=>rw[ha,if_pos rfl] at hc;rw[List.mem_singleton.1 hc];exact hp x hx
   |false =>
    rw[ha,if_neg (by decide)] at hc
    rw[ha,Bool.false_or] at hr;obtain⟨j,hj,rfl,_⟩:=Cf6.1 hc
    have:=Qkn.1 hr j (Qkm.2 hj)
    exact Df2 x _ j (by simpa using this)
  ·cases h
 ·injection h with h;subst h;exact hp
def Cb3(s:LPq)(o:Option LPq):Option LPq:=s.foldl (λst q=>st.bind λps=>ma1 ps q) o
def bc5(x:PLq)(y:LPq):LPq×Int :=
 if chk x != 0 then ([],chk x) else if schk y != 0 then ([],schk y) else match Uc4 x y with
  |some r=>(r,0)
  |none=>([],9)
structure M0(c:PLq)(ys:LPq)(t:Nat)(s:E4):Prop where
 y:∀r,Cb3 ys (some [c])=some r->(ys=[]/\t=2)\/(ys≠[]/\t=4/\s.ma7=r)
 n:Cb3 ys (some [c])=none->(t=1/\∃j,s.Gc1=((j:Nat):Int)/\xa5 [c] (gL tLq ys j)=([],9))\/(t=3/\∃j,s.Gc1=((j:Nat):Int)/\xa5 s.ma7 (gL tLq ys j)=([],9)/\j<ys.length/\s.ma7.length<=200/\∀c∈s.ma7,c.length<=48)
theorem Od1(s:LPq):Cb3 s none=none:=zd1 s
theorem Se3{ys:LPq}{j:Nat}(hj:j<ys.length)(o:Option LPq):Cb3 (ys.take (j+1)) o=(Cb3 (ys.take j) o).bind λps=>ma1 ps (gL tLq ys j):=by
 unfold Cb3;rw[Qkz,Qkd hj,List.foldl_append];simp[gL,Qkb,Qkd hj]
theorem Ge4(ys:LPq)(j:Nat)(o:Option LPq):Cb3 ys o=Cb3 (ys.drop j) (Cb3 (ys.take j) o):=by
 unfold Cb3;rw[<- List.foldl_append,List.take_append_drop]
theorem Qf4(c:PLq)(ys:LPq)(hc:c.length<=48)(hn:ys.length<=1000)(hy:∀q∈ys,q.length<=1000000) :
  ∃t s,lp (R6 ⟨ys,(ys.length:Int),c⟩) ⟨0,0,[]⟩=(t,s)/\M0 c ys t s:=by
 refine Fa0 (step:=R6 ⟨ys,(ys.length:Int),c⟩) (mk:=λj (ps:LPq)=>(⟨if j=0 then 0 else 1,(j:Int),if j=0 then [] else ps⟩:E4)) ys.length
  (λj ps=>j<=ys.length/\Cb3 (ys.take j) (some [c])=some ps/\ps.length<=200/\∀x∈ps,x.length<=48) (M0 c ys) (by omega)
  (λj ps hj hi=>?_) (λj ps hj hi=>?_) 0 [c] ⟨Qkg _,rfl,by simp,by simpa using hc⟩
 ·obtain⟨_,hm,hl,hle⟩:=hi;have hw1:W ((j:Int)+1)=((j+1:Nat):Int):=u7 hj (by omega)
  have hq:=hy _ (X7 tLq hj);have hgx:inB (j:Int) ys.length=true:=i9 hj;have hmj:=Se3 hj (some [c]);have hsp:=Ge4 ys (j+1) (some [c]);rw[hm] at hmj;have pw:=Jc5 (x:=ps) hq (by omega) λx hx=>Qkk (hle x hx) (by omega)
  have gw:=mf1 (x:=ps) hq (by omega) λx hx=>Qkk (hle x hx) (by omega)
  have hmj:Cb3 (ys.take (j+1)) (some [c])=ma1 ps (gL tLq ys j):=hmj;by_cases h0:j=0
  ·subst h0;have hps:ps=[c]:=by
    have:some [c]=some ps:=hm
    injection this with this;exact this.symm
   subst hps;cases hw:ma1 [c] (gL tLq ys 0) with
   |some r =>
    have hR:xa5 [c] (gL tLq ys 0)=(r,0):=by unfold xa5;rw[hw]
    rw[hR] at pw;have e:R6 ⟨ys,(ys.length:Int),c⟩ ⟨0,((0:Nat):Int),[]⟩=.next ⟨1,((0+1:Nat):Int),r⟩:=by
     show T3 Stp.next Stp.exit Stp.fail _ _=_;simp only[T3,Int.toNat_natCast,j8,w7,pw,gw,hw1,hgx,g9,Qka];rw[btD (o6 hj)];rfl
    show Nx (R6 ⟨ys,(ys.length:Int),c⟩ ⟨0,((0:Nat):Int),[]⟩) _ _;rw[e];exact .nx ⟨r,rfl,hj,hmj.trans hw,ed4 hw (by simp),ud2 hw (by simpa using hc)⟩
   |none =>
    have hR:xa5 [c] (gL tLq ys 0)=([],9):=by unfold xa5;rw[hw]
    rw[hR] at pw;have e:R6 ⟨ys,(ys.length:Int),c⟩ ⟨0,((0:Nat):Int),[]⟩=.exit 1:=by
     show T3 Stp.next Stp.exit Stp.fail _ _=_;simp only[T3,Int.toNat_natCast,j8,w7,pw,gw,hw1,hgx,g9,Qka];rw[btD (o6 hj)];rfl
    show Nx (R6 ⟨ys,(ys.length:Int),c⟩ ⟨0,((0:Nat):Int),[]⟩) _ _;rw[e];rw[hmj,hw,Od1] at hsp;exact .ex ⟨λr hr=>(by rw[hsp] at hr;cases hr),λ_=>.inl ⟨rfl,0,rfl,hR⟩⟩
  ·have em:(⟨if j=0 then 0 else 1,(j:Int),if j=0 then [] else ps⟩:E4)=⟨1,(j:Int),ps⟩:=by rw[if_neg h0,if_neg h0]
   rw[em];cases hw:ma1 ps (gL tLq ys j) with
   |some r =>
    have hR:xa5 ps (gL tLq ys j)=(r,0):=by unfold xa5;rw[hw]
    rw[hR] at pw;have e:R6 ⟨ys,(ys.length:Int),c⟩ ⟨1,(j:Int),ps⟩=.next ⟨1,((j+1:Nat):Int),r⟩:=by
     show T4 Stp.next Stp.exit Stp.fail _ _=_;simp only[T4,Int.toNat_natCast,j8,w7,pw,gw,hw1,hgx,g9,Qka];rw[btD (o6 hj)];rfl
    rw[e];exact .nx ⟨r,by rw[if_neg (by omega),if_neg (by omega)],hj,hmj.trans hw,ed4 hw hl,ud2 hw hle⟩
   |none =>
    have hR:xa5 ps (gL tLq ys j)=([],9):=by unfold xa5;rw[hw]
    rw[hR] at pw;have e:R6 ⟨ys,(ys.length:Int),c⟩ ⟨1,(j:Int),ps⟩=.exit 3:=by
     show T4 Stp.next Stp.exit Stp.fail _ _=_;simp only[T4,Int.toNat_natCast,j8,w7,pw,gw,hw1,hgx,g9,Qka];rw[btD (o6 hj)];rfl
    rw[e];rw[hmj,hw,Od1] at hsp;exact .ex ⟨λr hr=>(by rw[hsp] at hr;cases hr),λ_=>.inr ⟨rfl,j,rfl,hR,hj,hl,hle⟩⟩
 ·obtain⟨h1,hm,hl,hle⟩:=hi;have hje:j=ys.length:=by omega
  subst hje;rw[Qkh] at hm;by_cases h0:ys.length=0
  ·have hnil:ys=[]:=List.length_eq_zero_iff.1 h0;subst hnil;refine⟨2,?_,λr hr=>.inl ⟨rfl,rfl⟩,λh=>(by rw[hm] at h;cases h)⟩
   show T3 Stp.next Stp.exit Stp.fail ⟨[],((([]:LPq).length:Nat):Int),c⟩ ⟨0,((([]:LPq).length:Nat):Int),[]⟩=_;simp only[T3];rfl
  ·have em:(⟨if ys.length=0 then 0 else 1,(ys.length:Int),if ys.length=0 then [] else ps⟩:E4)=⟨1,(ys.length:Int),ps⟩:=by rw[if_neg h0,if_neg h0]
   rw[em];refine⟨4,?_,λr hr=>.inr ⟨λe=>h0 (by rw[e];rfl),rfl,?_⟩,λh=>(by rw[hm] at h;cases h)⟩
   ·show T4 Stp.next Stp.exit Stp.fail _ _=_;simp only[T4];rw[bfD (B0 (Qke _))]
   ·rw[hm] at hr;injection hr
theorem mf3{c:PLq}(h:ful c=false):∀s:LPq,Uc4 c s=some []:=by
 intro s;unfold Uc4;rw[h,if_neg (by decide)]
 induction s with
 |nil=>rfl
 |cons q s ih =>
  have:ma1 [] q=some []:=by unfold ma1;split<;>rfl
  show s.foldl _ (ma1 [] q)=_;rw[this];exact ih
theorem Ge5(x:PLq)(y:LPq)(hx:x.length<=1000000)(hn:y.length<=1000000)(hy:∀q∈y,q.length<=1000000):Rd (two (r1L tLq) r1I) (fb3 x y) (λr=>r=bc5 x y):=by
 have hC:=Jc1 x (show x.length<=1000000000 by omega);have gC:=Cd1 x (show x.length<=1000000000 by omega)
 have hS:=Df0 hn hy;have gS:=Df1 hn hy;have hF:=md9 (c:=x) (by omega);have gF:=nd0 (c:=x) (by omega)
 have hL:W8 x=lean x:=rfl;have gL':W9 x=true:=decide_eq_true hx;unfold fb3 bc5;simp only[j8,w7,l8,hC,gC,hS,gS,hF,gF,hL,gL',g9,Qka];cases hc:chk x != 0 with
 |true=>exact⟨_,([],chk x),rfl,rfl,rfl⟩
 |false =>
  cases hs:schk y != 0 with
  |true=>exact⟨_,([],schk y),rfl,rfl,rfl⟩
  |false =>
   have hc0:chk x=0:=by simpa using hc
   have hs0:=mf2 (show schk y=0 by simpa using hs)
   simp only[w6,Qks,if_false];cases hf:ful x with
   |false =>
    rw[mf3 hf];exact⟨_,([],0),rfl,rfl,rfl⟩
   |true =>
    simp only[Qkv,w6];have hm:Uc4 x y=Cb3 y (some [lean x]):=by unfold Uc4 Cb3;rw[hf];rfl
    have hll:(lean x).length<=48:=Qkk (Nd8 x) (fg7 hc0);obtain⟨t,s,hlp,hM⟩:=Qf4 (lean x) y hll (by omega) hy
    rw[hlp,hm];cases hr:Cb3 y (some [lean x]) with
    |some r =>
     rcases hM.y r hr with⟨rfl,rfl⟩|⟨_,rfl,rfl⟩
     ·have : r = [lean x] := by
       have:some [lean x]=some r:=hr
       injection this with this;exact this.symm
      subst this;exact⟨_,([lean x],0),rfl,pg7 tLq 24 [lean x] 0,rfl⟩
     ·exact⟨_,(s.ma7,0),rfl,Xf2 tLq _ 0,rfl⟩
    |none =>
     rcases hM.n hr with⟨rfl,j,h1,h2⟩|⟨rfl,j,h1,h2,hj,h4,h5⟩
     ·by_cases hj:j<y.length
      ·have pw:=Jc5 (x:=[lean x]) (hy _ (X7 tLq hj)) (by simp) (by simpa using Qkk hll (by omega))
       rw[h2] at pw;simp only[h1,Int.toNat_natCast,pw];exact⟨_,([],9),rfl,rfl,rfl⟩
      ·have hd:gL tLq y j=[]:=by simp[gL,Qkb,List.getElem?_eq_none (show y.length<=j by omega)];rfl
       have pw:=Jc5 (x:=[lean x]) (y:=gL tLq y j) (by rw[hd];simp) (by simp) (by simpa using Qkk hll (by omega))
       rw[h2] at pw;simp only[h1,Int.toNat_natCast,pw];exact⟨_,([],9),rfl,rfl,rfl⟩
     ·have pw:=Jc5 (x:=s.ma7) (hy _ (X7 tLq hj)) (by omega) λc hc=>Qkk (h5 c hc) (by omega)
      rw[h2] at pw;simp only[h1,Int.toNat_natCast,pw];exact⟨_,([],9),rfl,rfl,rfl⟩
theorem Qf5{x:PLq}{y:LPq}(hx:x.length<=1000000)(hn:y.length<=1000000)(hy:∀q∈y,q.length<=1000000):bc2 x y=bc5 x y:=(Ge5 x y hx hn hy).p
theorem Qf6{x:PLq}{y:LPq}(hx:x.length<=1000000)(hn:y.length<=1000000)(hy:∀q∈y,q.length<=1000000):bc3 x y=true:=(Ge5 x y hx hn hy).g
def ya5(x:LPq)(y:PLq):Bool×Int:=((bc5 y x).2==0&&((bc5 y x).1.length:Int)==0,(bc5 y x).2)
theorem ee7(x:LPq)(y:PLq)(hy:y.length<=1000000)(hn:x.length<=1000000)(hx:∀q∈x,q.length<=1000000):Xa1 x y=some (.tup [b (ya5 x y).1,i (ya5 x y).2],[]):=by
 unfold Xa1 ya5;simp only[j8,w7,Qf5 hy hn hx,Qf6 hy hn hx,g9];cases (bc5 y x).2==0<;>rfl
theorem ed5{x:LPq}{y:PLq}(hy:y.length<=1000000)(hn:x.length<=1000000)(hx:∀q∈x,q.length<=1000000):u9 x y=ya5 x y:=by unfold u9;rw[ee7 x y hy hn hx];rfl
theorem Ge6{x:LPq}{y:PLq}(hy:y.length<=1000000)(hn:x.length<=1000000)(hx:∀q∈x,q.length<=1000000):xa3 x y=true:=by unfold xa3;rw[ee7 x y hy hn hx];rfl
def qb5(c:PLq)(s:LPq):Bool:=!s.any λq=>!apart c q
theorem mf4{c q:PLq}(hc:c.length<=1000000)(hq:q.length<=1000000):hb8 ⟨q,c⟩=⟨1,!apart c q⟩:=by
 unfold hb8 za9;simp only[j8,w7,pe5 (a:=c) (c:=q) (by omega) (by omega),pe6 (a:=c) (c:=q) (by omega) (by omega),g9]
theorem ee8(c:PLq)(s:LPq)(hc:c.length<=1000000)(hs:s.length<=1000000)(hl:∀q∈s,q.length<=1000000):fb4 c s=some (b (qb5 c s),[]):=by
 have h:=yb7 (step:=O3 ⟨s,(s.length:Int)⟩) (mk:=λj=>(⟨(j:Int),c⟩:v7)) (c:=λq=>!apart c q) (u:=1) (fin:=2) tLq s (by omega)
  (λj hj=>by
   have hq:=hl _ (X7 tLq hj);simp only[O3,M4,Int.toNat_natCast,j8,l8,mf4 hc hq,u7 hj (show s.length<=4611686018427387904 by omega),g9,Qka]
   rw[btD (o6 hj),bt (i9 hj)]
   rfl)
  (by simp only[O3,M4];rw[bfD (B0 (Qke _))]) 0 (Qkg _)
 rw[Qki,Qkf] at h;have hI:ga5 ⟨s,c⟩=⟨1,if s.any (λq=>!apart c q) then ((s.findIdx (λq=>!apart c q):Nat):Int) else -1,c⟩:=by
  unfold ga5 M6;simp only[j8,l8];rw[show (⟨0,c⟩:v7)=⟨((0:Nat):Int),c⟩ from rfl,h]
  cases s.any (λq=>!apart c q)<;>rfl
 unfold fb4 qb5 pa2 H7;simp only[j8,l8,hI];cases hA:s.any (λq=>!apart c q) with
 |true =>
  simp only[if_true]
  have:decide (((s.findIdx (λq=>!apart c q):Nat):Int)>=0)=true:=decide_eq_true (by omega)
  rw[this];rfl
 |false=>rfl
theorem ed6{c:PLq}{s:LPq}(hc:c.length<=1000000)(hs:s.length<=1000000)(hl:∀q∈s,q.length<=1000000):R7 c s=qb5 c s:=by unfold R7;rw[ee8 c s hc hs hl];rfl
theorem ed7{c:PLq}{s:LPq}(hc:c.length<=1000000)(hs:s.length<=1000000)(hl:∀q∈s,q.length<=1000000):Ea3 c s=true:=by unfold Ea3;rw[ee8 c s hc hs hl];rfl
def inR(s t:LPq):Bool×Int:=match s.find? λc=>!(ya5 t c).1 with
 |some c=>ya5 t c
 |none=>(true,0)
def Df3(x y:LPq):Bool×Int:=if schk x != 0 then (false,schk x) else if schk y != 0 then (false,schk y) else if (inR x y).1 then inR y x else inR x y
end Go.Ev.Ce
namespace Go.Ev.Ce
def Uc5(a b:V3):V3:=⟨a.x-b.x,a.y-b.y,a.z-b.z⟩
def N3(u w x:V3):V3:=A5 (Uc5 w u) (Uc5 x u)
def Sol(l:List V3):Prop:=∃a c k v,a∈l/\c∈l/\k∈l/\v∈l/\dot (N3 a c k) (Uc5 v a)≠0
theorem Sol.off{l:List V3}(h:Sol l){n:V3}(hn:n≠⟨0,0,0⟩)(b:Int):∃v∈l,dot n v≠b:=by
 obtain⟨a,c,k,v,ha,hc,hk,hv,hd⟩:=h;by_cases h1:dot n a=b
 ·by_cases h2:dot n c=b
  ·by_cases h3:dot n k=b
   ·by_cases h4:dot n v=b
    ·exfalso;unfold N3 at hd;generalize hD:dot (A5 (Uc5 c a) (Uc5 k a)) (Uc5 v a)=D at *
     have q1:dot n (Uc5 c a)=0:=by unfold dot Uc5 at *;grind
     have q2:dot n (Uc5 k a)=0:=by unfold dot Uc5 at *;grind
     have q3:dot n (Uc5 v a)=0:=by unfold dot Uc5 at *;grind
     generalize Uc5 c a=p at *
     generalize Uc5 k a=q at *
     generalize Uc5 v a=r at *
     have i1:D*n.x=(A5 q r).x*dot n p+(A5 r p).x*dot n q+(A5 p q).x*dot n r:=by rw[<- hD];simp only[dot,A5];grind
     have i2:D*n.y=(A5 q r).y*dot n p+(A5 r p).y*dot n q+(A5 p q).y*dot n r:=by rw[<- hD];simp only[dot,A5];grind
     have i3:D*n.z=(A5 q r).z*dot n p+(A5 r p).z*dot n q+(A5 p q).z*dot n r:=by rw[<- hD];simp only[dot,A5];grind
     rw[q1,q2,q3] at i1 i2 i3;have z:∀{x:Int},D*x=0->x=0:=λh=>(Int.mul_eq_zero.1 h).resolve_left hd
     exact hn (V3.ext' (z (by omega)) (z (by omega)) (z (by omega)))
    ·exact⟨v,hv,h4⟩
   ·exact⟨k,hk,h3⟩
  ·exact⟨c,hc,h2⟩
 ·exact⟨a,ha,h1⟩
theorem Sol.ne{l:List V3}(h:Sol l):∃v,v∈l:=by obtain⟨a,_,_,_,ha,_⟩:=h;exact⟨a,ha⟩
structure Fac(l:List V3)(n:V3)(b:Int):Prop where
 hd:∀v∈l,dot n v<=b
 on:∃u w x,u∈l/\w∈l/\x∈l/\N3 u w x≠⟨0,0,0⟩/\dot n u=b/\dot n w=b/\dot n x=b
end Go.Ev.Ce
namespace Go.Ev.Ce
open Go Go.Ev Go.Ev.L Go.Proofs
structure Bg2(l:List V3)(p:Pln):Prop extends Fac l p.n p.b where
 ok:okp p=true
def Fv:V3:=⟨10000,100,1⟩
structure Crs(l:List V3)(p:Pln)(v:V3):Prop where
 h:∃u w,u∈l/\w∈l/\dot p.n u=p.b/\dot p.n w=p.b/\dot Fv w<dot Fv v/\dot Fv v<dot Fv u/\N3 v u w≠⟨0,0,0⟩
 on:dot p.n v=p.b
section
variable{l:List V3}(hl:l.all inV=true)
include hl
end
structure Mc(c:PLq):Prop where
 g:qe8 c
 l:c.length<=12
structure Ms(y:Nat)(s:LPq):Prop where
 n:s.length<=y
 c:∀c∈s,Mc c
structure Bnd(n m:Nat)(ps:LPq):Prop where
 n:ps.length<=n
 m:∀x∈ps,x.length<=m
def Cov(s:LPq)(c:PLq):Prop:=ful c=true->∀z,Inr (c++ws) z->∃q∈s,ful q=true/\Inr (q++ws) z
theorem Cov.mono{s t:LPq}{c:PLq}(h:Cov s c)(hs:∀q∈s,q∈t):Cov t c:=λhf z hz=>by
 obtain⟨q,hq,h2⟩:=h hf z hz;exact⟨q,hs q hq,h2⟩
theorem Qf7{s:LPq}(hn:s.length<=16)(hs:∀q∈s,(chk q==0)=true):schk s=0:=by
 unfold schk;rw[if_neg (by omega),Qkr.2 λq hq=>by have:=hs q hq;rw[beq_iff_eq] at this;simp[this]]
theorem Mc.chk{c:PLq}(h:Mc c):(chk c==0)=true:=h.g.chk
theorem Mc.ful{c:PLq}(h:Mc c):ful c=true:=h.g.ful
theorem Ms.schk{y:Nat}{s:LPq}(h:Ms y s)(hy:y<=16):schk s=0:=Qf7 (Qkk h.n hy) λq hq=>(h.c q hq).chk
structure Und(c U:PLq)(n:Nat)(ps:LPq):Prop where
 n:ps.length<=n
 d:∀x∈ps,x.Nodup/\(∀p∈x,p∈U)/\ful x=true/\∀z,Inr (x++ws) z->Inr (c++ws) z
def cf0(c:PLq):PLq:=if ful c then c.foldl (ee3 (pts c)) [] else []
theorem fg8:lean=cf0:=by
 funext c;unfold lean cf0;rw[Cf2]
section
variable(L:PLq->PLq)
def Ge7(x fs:PLq):Nat->PLq
 |0=>x
 |j+1=>L (Ge7 x fs j++[gL tP fs j])
def fg9(x fs:PLq)(j:Nat):PLq:=L (Ge7 L x fs j++[La9 (gL tP fs j)])
def gg0(x fs:PLq)(j:Nat):LPq:=((List.range j).map (fg9 L x fs)).filter λc=>decide (0<c.length)
def Df4(x fs:PLq):Bool:=(List.range fs.length).all λj=>decide ((Ge7 L x fs j).length<48)
def Qf8(q x:PLq):LPq:=if apart x q then [x] else gg0 L x (L q) (L q).length
def Od2(ps:LPq)(q:PLq):Option LPq :=
 if ful q then (if ps.all (λx=>apart x q||Df4 L x (L q))&&decide ((ps.flatMap (Qf8 L q)).length<=200) then some (ps.flatMap (Qf8 L q)) else none) else some ps
def Se4(c:PLq)(s:LPq):Option LPq :=
 s.foldl (λst q=>st.bind λps=>Od2 L ps q) (some (if ful c then [L c] else []))
end
theorem Od3(x fs:PLq):∀j,Ge7 lean x fs j=na1 x fs j
 |0=>rfl
 |j+1=>by
  show lean (Ge7 lean x fs j++_)=lean (na1 x fs j++_);rw[Od3 x fs j]
theorem Qf9:fg9 lean=Tb8:=by funext x fs j;unfold fg9 Tb8;rw[Od3]
theorem Rf0:gg0 lean=jb1:=by funext x fs j;unfold gg0 jb1;rw[Qf9]
theorem Df5:Df4 lean=Sa6:=by funext x fs;unfold Df4 Sa6;simp only[Od3]
theorem Rf1:Qf8 lean=lb7:=by funext q x;unfold Qf8 lb7;rw[Rf0]
theorem Ge8:Od2 lean=ma1:=by
 funext ps q;unfold Od2 ma1;rw[Rf1,Df5];rfl
theorem mf5:Uc4=Se4 cf0:=by
 funext c s;rw[<- fg8];unfold Uc4 Se4;rw[Ge8]
def bx(x y z u v w:Int):PLq:=[⟨⟨1,0,0⟩,u⟩,⟨⟨-1,0,0⟩,-x⟩,⟨⟨0,1,0⟩,v⟩,⟨⟨0,-1,0⟩,-y⟩,⟨⟨0,0,1⟩,w⟩,⟨⟨0,0,-1⟩,-z⟩]
theorem Od4(x y z u v w:Int):(bx x y z u v w).length=6:=rfl
structure Bg3(own:PLq)(s r:LPq):Prop where
 m:bc5 own s=(r,0)
 n:r.length<=144
 l:∀x∈r,x.length<=37
 full:∀x∈r,ful x=true
 lies:∀x∈r,Ce.lies x own=true
 off:∀x∈r,qb5 x s=true
 dis:∀j,j<r.length->qb5 (gL tLq r j) (r.take j)=true
 all:(s++r).length<=16->ya5 (s++r) own=(true,0)
 self:r.length<=16->(ya5 r own).2=9\/((ya5 r own).2=0/\(ya5 r own).1=qb5 own s)
theorem Od5{α:Type}(t:Ty α)(l:List α)(j:Nat)(h:j<=l.length):lsL t (j-0) (λk=>(λk=>t.row (gL t l k)) (0+k))=l.take j/\okL t (j-0) (λk=>(λk=>t.row (gL t l k)) (0+k))=true:=by
 refine⟨jc6 t (by rw[Qkp];omega) λk hk=>?_,Yb6 t (f:=λk=>gL t l (0+k)) λ_ _=>rfl⟩
 simp only[Qkf];congr 1;simp only[gL,Qkb];rw[Qkw,if_pos (by omega)]
theorem Ge9{α:Type}(t:Ty α)(l:List α){n:Nat}(h:n=l.length):lsL t n (λk=>g8 (bL t l) k)=l/\okL t n (λk=>g8 (bL t l) k)=true:=by
 subst h;exact⟨jc6 t rfl λk hk=>by rw[U1 t hk],Yb6 t (f:=λk=>gL t l k) λk hk=>by rw[U1 t hk]⟩
set_option maxRecDepth 100000
structure Gf6 where
 s9:LPq
structure Gf7 where
 is3:Int
structure Gf8 where
 ea1:PLq
structure Gf9 where
 ph:Nat
 Bg0:PLq
 is8:Int
 ns6:Nat
 eh0:List (List d7)
structure of4 where
 s9:LPq
 ea1:PLq
structure zd2 where
 ph:Nat
 is7:Int
 ns6:Nat
 eh0:List (List d7)
structure Hf0 where
 Rd3:LPq
 g7:PLq
structure Wd3 where
 ph:Nat
 is8:Int
 te1:LPq
structure Hf1 where
 j5:PLq
 Rd3:LPq
structure Hf2 where
 is5:Int
def sc8:List (Nat×Sum):=[(59,Kd5)]
theorem od8:j9 prog G sc8:=⟨Ce2,trivial⟩
structure Ia1 where
 (s9 Rd3:LPq)
structure X0 where
 is5:Int
def Xb3(p:Ia1)(s:X0):St:=⟨eL tLq p.s9::eL tLq p.Rd3::ra 3 (i s.is5::ra 21 []),[]⟩
def xa6{α:Type}(k:X0->α)(e:Nat->α)(z:α)(p:Ia1)(s:X0):α:=let y1:=(gL tLq p.Rd3 s.is5.toNat);let y0:=(gL tLq p.s9 s.is5.toNat);let t1:=(mc7 (rt tP y0) (rt tP y1));(sl (decide (s.is5<(↑(List.length p.s9):Int))) (sl (inB s.is5 (List.length p.s9)) (sl (inB s.is5 (List.length p.Rd3)) (sl (okE tP y0) (sl (okE tP y1) (sl (mc8 (rt tP y0) (rt tP y1)) (sl (!t1) (e 1) (k ⟨W (s.is5+1)⟩)) z) z) z) z) z) (e 2))
def Ca2(p:Ia1)(s:X0):Stp X0:=xa6 .next .exit .fail p s
def wb8:Lo Ia1 X0:=⟨En sc8,0,kg4,[1,1,0,1,4,4],[0,1,5],.p,[⟨sLq tLq::sLq tLq::ru2 3 (sIq::ru2 21 []),[],λa H=>(⟨aLq tLq a 0,aLq tLq a 1⟩,⟨aIq a 5⟩)⟩],Ca2,[(none,λp s=>⟨[b false],[]⟩),(some 0,λp s=>upq (Xb3 p s) [(11,i s.is5),(12,eL tLq p.s9),(13,i (↑(List.length p.s9):Int)),(14,b (decide (s.is5<(↑(List.length p.s9):Int))))])],Xb3⟩
theorem ed8:wb8.Ok:=Lo.ok [] (by kernel_rfl) .nil rfl (.cons (λa H=>by kernel_rfl) .nil) λp s=>(.of @xa6 (λF _ _ _ _ _=>by unfold xa6;(repeat' apply k8 (f:=F))<;>rfl) (by kernel_rfl))
def Xa6(x:LPq)(y:LPq):ROq:=let t1:=(lp (Ca2 (⟨rt tLq x,rt tLq y⟩:Ia1)) (⟨0⟩:X0));(sl ((↑(List.length x):Int) != (↑(List.length y):Int)) (some (b false,[])) (sl ((cnE tLq x)&&((cnE tLq y)&&true)) (sl (Nat.beq t1.1 1) (some (b false,[])) (sl (Nat.beq t1.1 2) (some (b true,[])) none)) none))
def Ia2(x:LPq)(y:LPq):Bool:=V2 (one r1B) (Xa6 x y)
def Ia3(x:LPq)(y:LPq):Bool:=okO (one r1B) (Xa6 x y)
def Qb6:Sum:=ta3 (na2 tLq) (na2 tLq) (λx y=>.guard (Ia3 x y) (.ret ((one r1B).enc (Ia2 x y),[])))
theorem sc9:j6 prog G 24 Qb6:=ub3 (bd b24 od8) (one r1B) (o:=Xa6) λx y=>Ga2 (.s .p (.s .p (.s (.s .p (.b (.u wb8.ls))) .p))) [wb8.pr] (by kernel_rfl) (.cons ed8 .nil) (by kernel_rfl)
def hc3:List (Nat×Sum):=[]
theorem ed9:j9 prog G hc3:=trivial
structure Ca3 where
 (Rd4 Gf5:List Bool)
structure T7 where
 is5:Int
def Qb7(p:Ca3)(s:T7):St:=⟨eL tB p.Rd4::eL tB p.Gf5::ra 3 (i s.is5::ra 20 []),[]⟩
def sa3{α:Type}(k:T7->α)(e:Nat->α)(z:α)(p:Ca3)(s:T7):α:=(sl (decide (s.is5<(↑(List.length p.Rd4):Int))) (sl (inB s.is5 (List.length p.Rd4)) (sl (inB s.is5 (List.length p.Gf5)) (sl (!((gL tB p.Rd4 s.is5.toNat)==(gL tB p.Gf5 s.is5.toNat))) (e 1) (k ⟨W (s.is5+1)⟩)) z) z) (e 2))
def xa7(p:Ca3)(s:T7):Stp T7:=sa3 .next .exit .fail p s
def qb6:Lo Ca3 T7:=⟨En hc3,0,kg8,[1,1,0,1,4,4],[0,1,5],.p,[⟨sLq tB::sLq tB::ru2 3 (sIq::ru2 20 []),[],λa H=>(⟨aLq tB a 0,aLq tB a 1⟩,⟨aIq a 5⟩)⟩],xa7,[(none,λp s=>⟨[b false],[]⟩),(some 0,λp s=>upq (Qb7 p s) [(11,i s.is5),(12,eL tB p.Rd4),(13,i (↑(List.length p.Rd4):Int)),(14,b (decide (s.is5<(↑(List.length p.Rd4):Int))))])],Qb7⟩
theorem Uc6:qb6.Ok:=Lo.ok [] (by kernel_rfl) .nil rfl (.cons (λa H=>by kernel_rfl) .nil) λp s=>(.of @sa3 (λF _ _ _ _ _=>by unfold sa3;(repeat' apply k8 (f:=F))<;>rfl) (by kernel_rfl))
def Pa7(x:List Bool)(y:List Bool):ROq:=let t1:=(lp (xa7 (⟨rt tB x,rt tB y⟩:Ca3)) (⟨0⟩:T7));(sl ((↑(List.length x):Int) != (↑(List.length y):Int)) (some (b false,[])) (sl ((cnE tB x)&&((cnE tB y)&&true)) (sl (Nat.beq t1.1 1) (some (b false,[])) (sl (Nat.beq t1.1 2) (some (b true,[])) none)) none))
def Pa8(x:List Bool)(y:List Bool):Bool:=V2 (one r1B) (Pa7 x y)
def Pa9(x:List Bool)(y:List Bool):Bool:=okO (one r1B) (Pa7 x y)
def tc0:Sum:=ta3 (na2 tB) (na2 tB) (λx y=>.guard (Pa9 x y) (.ret ((one r1B).enc (Pa8 x y),[])))
theorem od9:j6 prog G 42 tc0:=ub3 (bd b42 ed9) (one r1B) (o:=Pa7) λx y=>Ga2 (.s .p (.s .p (.s (.s .p (.b (.u qb6.ls))) .p))) [qb6.pr] (by kernel_rfl) (.cons Uc6 .nil) (by kernel_rfl)
def He0:List (Nat×Sum):=[(42,tc0),(24,Qb6)]
theorem re0:j9 prog G He0:=⟨od9,sc9,trivial⟩
def Qb8(x:Pce)(y:Pce):ROq:=let t1:=(Pa8 (rt tB x.su) (rt tB y.su));let t2:=(Pa8 (rt tB x.to) (rt tB y.to));let t3:=(Ia2 (rt tLq x.cu) (rt tLq y.cu));(sl (okE tB x.su) (sl (okE tB y.su) (sl (Pa9 (rt tB x.su) (rt tB y.su)) (sl t1 (sl (okE tB x.to) (sl (okE tB y.to) (sl (Pa9 (rt tB x.to) (rt tB y.to)) (sl t2 (sl (okE tLq x.cu) (sl (okE tLq y.cu) (sl (Ia3 (rt tLq x.cu) (rt tLq y.cu)) (some (b t3,[])) none) none) none) (some (b false,[]))) none) none) none) (some (b false,[]))) none) none) none)
def jb2(x:Pce)(y:Pce):Bool:=V2 (one r1B) (Qb8 x y)
def Ma0(x:Pce)(y:Pce):Bool:=okO (one r1B) (Qb8 x y)
def Od6:Sum:=ta3 cO cO (λx y=>.guard (Ma0 x y) (.ret ((one r1B).enc (jb2 x y),[])))
theorem He1:j6 prog G 14 Od6:=ub3 (bd b14 re0) (one r1B) (o:=Qb8) λx y=>B6 (by kernel_rfl)
def Kb3:List (Nat×Sum):=[(40,Sc6),(41,td6)]
theorem Wd4:j9 prog G Kb3:=⟨sd9,oe2,trivial⟩
structure fb7 where
 K9:ByteArray
 l0:LPq
 u6:List Int
structure oa0 where
 is3:Int
def Dc0(p:fb7)(s:oa0):St:=⟨.unk::.ptr 0 0 0 0::.unk::i s.is3::ra 71 [],[⟨0,3,[[.v (.string p.K9),eL tLq p.l0,eL tI p.u6]],true,false,0⟩]⟩
def Qa0{α:Type}(k:oa0->α)(e:Nat->α)(z:α)(p:fb7)(s:oa0):α:=let y0:=(List.length p.u6);(sl (decide (s.is3<(↑y0:Int))) (sl (inB s.is3 y0) (sl (decide ((gL tI p.u6 s.is3.toNat)<1)) (e 1) (sl (inB s.is3 y0) (sl (decide ((gL tI p.u6 s.is3.toNat)>3)) (e 1) (k ⟨W (s.is3+1)⟩)) z)) z) (e 2))
def Xa7(p:fb7)(s:oa0):Stp oa0:=Qa0 .next .exit .fail p s
def bc6:Lo fb7 oa0:=⟨En Kb3,0,Mf4,[1,1,1,0,1,4,4],[1,3],.p,[⟨sUq::sPq 0::sUq::sIq::ru2 71 [],[⟨0,3,true,some [[.o .val,.c 1 (nL tLq),.c 1 (nL tI)]]⟩],λa H=>(⟨ca2 (slT (rwT (elT H 0) 0) 0),hLq tLq H 0 0 1,hLq tI H 0 0 2⟩,⟨aIq a 3⟩)⟩],Xa7,[(none,λp s=>⟨[i 1],[]⟩),(some 0,λp s=>upq (Dc0 p s) [(23,i s.is3),(24,.ptr 0 0 2 0),(25,eL tI p.u6),(26,i (↑(List.length p.u6):Int)),(27,b (decide (s.is3<(↑(List.length p.u6):Int))))])],Dc0⟩
theorem Od7:bc6.Ok:=Lo.ok [] (by kernel_rfl) .nil rfl (.cons (λa H=>by kernel_rfl) .nil) λp s=>(.of @Qa0 (λF _ _ _ _ _=>by unfold Qa0;(repeat' apply k8 (f:=F))<;>rfl) (by kernel_rfl))
structure fb8 where
 is4:Int
 K9:ByteArray
 l0:LPq
 u6:List Int
structure oa1 where
 is5:Int
def Dc1(p:fb8)(s:oa1):St:=⟨.unk::.ptr 0 0 0 0::.unk::.unk::i p.is4::i s.is5::ra 69 [],[⟨0,3,[[.v (.string p.K9),eL tLq p.l0,eL tI p.u6]],true,false,0⟩]⟩
def Qa1{α:Type}(k:oa1->α)(e:Nat->α)(z:α)(p:fb8)(s:oa1):α:=let y1:=(gL tLq p.l0 p.is4.toNat);let y0:=(gL tLq p.l0 s.is5.toNat);let t1:=(Wb5 (rt tP y0) (rt tP y1));(sl (decide (s.is5<p.is4)) (sl (inB s.is5 (List.length p.l0)) (sl (inB p.is4 (List.length p.l0)) (sl (okE tP y0) (sl (okE tP y1) (sl (Wb6 (rt tP y0) (rt tP y1)) (sl (!t1) (e 1) (k ⟨W (s.is5+1)⟩)) z) z) z) z) z) (e 2))
def Ia4(p:fb8)(s:oa1):Stp oa1:=Qa1 .next .exit .fail p s
def bc7:Lo fb8 oa1:=⟨En Kb3,0,Mf4,[1,1,1,1,0,1,4,4,1,0,4,1,1,4,4],[1,4,5],.p,[⟨sUq::sPq 0::sUq::sUq::sIq::sIq::ru2 69 [],[⟨0,3,true,some [[.o .val,.c 1 (nL tLq),.c 1 (nL tI)]]⟩],λa H=>(⟨aIq a 4,ca2 (slT (rwT (elT H 0) 0) 0),hLq tLq H 0 0 1,hLq tI H 0 0 2⟩,⟨aIq a 5⟩)⟩],Ia4,[(none,λp s=>⟨[i 13],[]⟩),(some 4,λp s=>upq (Dc1 p s) [(58,i s.is5),(59,i p.is4),(60,b (decide (s.is5<p.is4)))])],Dc1⟩
theorem Od8:bc7.Ok:=Lo.ok [] (by kernel_rfl) .nil rfl (.cons (λa H=>by kernel_rfl) .nil) λp s=>(.of @Qa1 (λF _ _ _ _ _=>by unfold Qa1;(repeat' apply k8 (f:=F))<;>rfl) (by kernel_rfl))
structure fb9 where
 K9:ByteArray
structure oa2 where
 is4:Int
 l0:LPq
 u6:List Int
def Dc2(p:fb9)(s:oa2):St:=⟨.unk::.ptr 0 0 0 0::.unk::.unk::i s.is4::ra 70 [],[⟨0,3,[[.v (.string p.K9),eL tLq s.l0,eL tI s.u6]],true,false,0⟩]⟩
def Qa2{α:Type}(k:oa2->α)(e:Nat->α)(z:α)(p:fb9)(s:oa2):α:=let y0:=(gL tLq s.l0 s.is4.toNat);let t1:=(ub9 (rt tP y0));let t2:=(lp (Ia4 (⟨s.is4,p.K9,rt tLq s.l0,rt tI s.u6⟩:fb8)) (⟨0⟩:oa1));(sl (decide (s.is4<(↑(List.length s.l0):Int))) (sl (inB s.is4 (List.length s.l0)) (sl (okE tP y0) (sl (vb0 (rt tP y0)) (sl (!t1) (e 1) (sl ((cnE tLq s.l0)&&((cnE tI s.u6)&&true)) (sl (Nat.beq t2.1 1) (e 1) (sl (Nat.beq t2.1 2) (k ⟨W (s.is4+1),rt tLq s.l0,rt tI s.u6⟩) z)) z)) z) z) z) (e 2))
def Ia5(p:fb9)(s:oa2):Stp oa2:=Qa2 .next .exit .fail p s
def bc8:Lo fb9 oa2:=⟨En Kb3,0,Mf4,[1,1,1,1,0,1,4,4],[1,4],.s .p (.s (.b (.s .p (.s .p (.b (.u bc7.ls))))) .p),[⟨sUq::sPq 0::sUq::sUq::sIq::ru2 70 [],[⟨0,3,true,some [[.o .val,.c 1 (nL tLq),.c 1 (nL tI)]]⟩],λa H=>(⟨ca2 (slT (rwT (elT H 0) 0) 0)⟩,⟨aIq a 4,hLq tLq H 0 0 1,hLq tI H 0 0 2⟩)⟩],Ia5,[(none,λp s=>⟨[i 13],[]⟩),(some 2,λp s=>upq (Dc2 p s) [(44,i s.is4),(45,.ptr 0 0 1 0),(46,eL tLq s.l0),(47,i (↑(List.length s.l0):Int)),(48,b (decide (s.is4<(↑(List.length s.l0):Int))))])],Dc2⟩
theorem Od9:bc8.Ok:=Lo.ok [bc7.pr] (by kernel_rfl) (.cons Od8 .nil) rfl (.cons (λa H=>by kernel_rfl) .nil) λp s=>(.of @Qa2 (λF _ _ _ _ _=>by unfold Qa2;(repeat' apply k8 (f:=F))<;>rfl) (by kernel_rfl))
def Cb4(x:Prt):ROq:=let y0:=(↑(List.length x.cl):Int);let t1:=(lp (Xa7 (⟨x.nm,rt tLq x.cl,rt tI x.wt⟩:fb7)) (⟨0⟩:oa0));let t2:=(lp (Ia5 (⟨x.nm⟩:fb9)) (⟨0,rt tLq (rt tLq x.cl),rt tI (rt tI x.wt)⟩:oa2));(sl (decide (y0<1)) (some (i 2,[])) (sl (decide (y0>16)) (some (i 2,[])) (sl ((↑(List.length x.wt):Int) != y0) (some (i 1,[])) (sl ((cnE tLq x.cl)&&((cnE tI x.wt)&&true)) (sl (Nat.beq t1.1 1) (some (i 1,[])) (sl (Nat.beq t1.1 2) (sl ((cnE tLq (rt tLq x.cl))&&((cnE tI (rt tI x.wt))&&true)) (sl (Nat.beq t2.1 1) (some (i 13,[])) (sl (Nat.beq t2.1 2) (some (i 0,[])) none)) none) none)) none))))
def Xa8(x:Prt):Int:=V2 (one r1I) (Cb4 x)
def Ca4(x:Prt):Bool:=okO (one r1I) (Cb4 x)
def ud3:Sum:=ca1 cJ (λx=>.guard (Ca4 x) (.ret ((one r1I).enc (Xa8 x),[])))
theorem re1:j6 prog G 13 ud3:=ab0 (bd b13 Wd4) (one r1I) (o:=Cb4) λx=>Ga2 (.s .p (.s .p (.s .p (.s (.s .p (.b (.u bc6.ls))) (.s (.s .p (.b (.u bc8.ls))) .p))))) [bc6.pr,bc8.pr] (by kernel_rfl) (.cons Od7 (.cons Od9 .nil)) (by kernel_rfl)
def Se5:List (Nat×Sum):=[]
theorem He2:j9 prog G Se5:=trivial
def hc5(x:Prt):ROq:=let y0:=(↑(List.length x.cl):Int);let y2:=(List.replicate y0.toNat [b false]);let y1:=(inB y0 (room+1)&&inB y0 (room+1)&&Nat.ble y0.toNat y0.toNat&&Nat.ble (y0.toNat*1) room);(sl y1 (sl y1 (some ((.agg [(.tree 1 y0.toNat (λi=>g8 y2 (0+i))),(.tree 1 y0.toNat (λi=>g8 y2 (0+i))),.v (.slice none 0 0)]),[])) none) none)
def Lb3(x:Prt):Pce:=V2 (one r1O) (hc5 x)
def kb7(x:Prt):Bool:=okO (one r1O) (hc5 x)
def ee9:Sum:=ca1 cJ (λx=>.guard (kb7 x) (.ret ((one r1O).enc (Lb3 x),[])))
theorem Se6:j6 prog G 16 ee9:=ab0 (bd b16 He2) (one r1O) (o:=hc5) λx=>B6 (by kernel_rfl)
structure of5 where
 s9:LPq
structure of6 where
 is3:Int
structure Hf3 where
 s9:LPq
 ea1:PLq
structure Wd5 where
 ph:Nat
 is6:Int
 ns5:Nat
 eh0:List (List d7)
structure Rf2 where
 s9:LPq
structure Rf3 where
 ph:Nat
 is4:Int
 ns3:Nat
 eh0:List (List d7)
structure of7 where
 K9:ByteArray
 l0:LPq
 u6:List Int
 (Kc0 Kc1:List Bool)
 D6:LPq
structure of8 where
 is6:Int
structure of9 where
 K9:ByteArray
 l0:LPq
 u6:List Int
 (Kc0 Kc1:List Bool)
 D6:LPq
structure pf0 where
 is7:Int
structure pf1 where
 K9:ByteArray
 l0:LPq
 u6:List Int
 (Kc0 Kc1:List Bool)
 D6:LPq
structure pf2 where
 is8:Int
structure Rf4 where
 K9:ByteArray
 l0:LPq
 u6:List Int
 (Kc0 Kc1:List Bool)
 D6:LPq
structure Rf5 where
 ph:Nat
 is6:Int
 ns5:Nat
 eh2:List (List d7)
def fd0:List (Nat×Sum):=[]
theorem Wd6:j9 prog G fd0:=trivial
structure va8 where
 s9:LPq
structure V1 where
 ph:Nat
 is4:Int
 ns3:Nat
 eh0:List (List d7)
def tc1(p:va8)(s:V1):St:=⟨eL tLq p.s9::.unk::.unk::.v (.slice none 0 0)::i s.is4::ra 16 [],[]⟩
def tc2(p:va8)(s:V1):St:=⟨eL tLq p.s9::.unk::.unk::.sl 0 0 s.ns3 0::i s.is4::ra 16 [],[⟨35,1,s.eh0,true,false,0⟩]⟩
def Pd0(p:va8)(s:V1):St:=(sel (Nat.beq s.ph 1) (tc2 p s) (tc1 p s))
def ra5{α:Type}(k:V1->α)(e:Nat->α)(z:α)(p:va8)(s:V1):α:=let y0:=(gL tLq p.s9 s.is4.toNat);let y1:=(List.range (List.length y0));(sl (decide (s.is4<(↑(List.length p.s9):Int))) (sl (inB s.is4 (List.length p.s9)) (sl (Nat.beq 0 0&&Nat.ble ((0+(len (o9 (λk=>(tP).row (gL tP y0 k)) y1)))*32) room) (k ⟨1,W (s.is4+1),1,[[(.tree 4 (0+(len (o9 (λk=>(tP).row (gL tP y0 k)) y1))) (λk=>g8 (app [] (o9 (λk=>(tP).row (gL tP y0 k)) y1)) (0+k)))]]⟩) z) z) (e 1))
def ra6{α:Type}(k:V1->α)(e:Nat->α)(z:α)(p:va8)(s:V1):α:=let y0:=(gL tLq p.s9 s.is4.toNat);let y1:=(List.range (List.length y0));(sl (decide (s.is4<(↑(List.length p.s9):Int))) (sl (inB s.is4 (List.length p.s9)) (sl (Nat.beq 0 0&&Nat.ble ((0+(len (o9 (λk=>(tP).row (gL tP y0 k)) y1)))*32) room) (sl (Nat.beq s.ns3 (len s.eh0)&&Nat.ble ((s.ns3+1)*24) room) (k ⟨1,W (s.is4+1),s.ns3+1,(app s.eh0 [[(.tree 4 (0+(len (o9 (λk=>(tP).row (gL tP y0 k)) y1))) (λk=>g8 (app [] (o9 (λk=>(tP).row (gL tP y0 k)) y1)) (0+k)))]])⟩) z) z) z) (e 2))
def Ia6(p:va8)(s:V1):Stp V1:=(sel (Nat.beq s.ph 1) (ra6 .next .exit .fail p s) (ra5 .next .exit .fail p s))
def bc9:Lo va8 V1:=⟨En fd0,0,kg5,[1,1,0,1,4,4],[0,3,4],.p,[⟨sLq tLq::sUq::sUq::.s (.o .nil)::sIq::ru2 16 [],[],λa H=>(⟨aLq tLq a 0⟩,⟨0,aIq a 4,0,[]⟩)⟩,⟨sLq tLq::sUq::sUq::.s (.o (.sl 0 0 (some 0) none))::sIq::ru2 16 [],[⟨35,1,true,none⟩],λa H=>(⟨aLq tLq a 0⟩,⟨1,aIq a 4,slN (slT a 3),elT H 0⟩)⟩],Ia6,[(some 0,λp s=>upq (tc1 p s) [(5,i s.is4),(6,eL tLq p.s9),(7,i (↑(List.length p.s9):Int)),(8,b (decide (s.is4<(↑(List.length p.s9):Int))))]),(some 0,λp s=>upq (tc2 p s) [(5,i s.is4),(6,eL tLq p.s9),(7,i (↑(List.length p.s9):Int)),(8,b (decide (s.is4<(↑(List.length p.s9):Int))))])],Pd0⟩
theorem Pd1:bc9.Ok:=Lo.ok [] (by kernel_rfl) .nil rfl (.cons (λa H=>by kernel_rfl) (.cons (λa H=>by kernel_rfl) .nil)) λp s=>(.sel (Nat.beq s.ph 1) (.of @ra6 (λF _ _ _ _ _=>by unfold ra6;(repeat' apply k8 (f:=F))<;>rfl) (by kernel_rfl)) (.of @ra5 (λF _ _ _ _ _=>by unfold ra5;(repeat' apply k8 (f:=F))<;>rfl) (by kernel_rfl)))
structure Xb4 where
 (alt ns0:Nat)
 eh0:List (List d7)
def kb8{α:Type}(kk:Xb4->α)(x:LPq):α:=let t1:=(lp (Ia6 (⟨rt tLq x⟩:va8)) (⟨0,0,0,[]⟩:V1));(sl ((cnE tLq x)&&true) (sl (Nat.beq t1.1 1) (kk ⟨1,0,[]⟩) (sl (Nat.beq t1.1 2) (kk ⟨2,t1.2.ns3,t1.2.eh0⟩) (kk ⟨0,0,[]⟩))) (kk ⟨0,0,[]⟩))
def Xb5(x:LPq):Xb4:=kb8 (λr=>r) x
def oc1(r:Xb4):DT (d7×List d8):=(.ite (Nat.beq r.alt 1) (.ret (.v (.slice none 0 0),[])) (.ite (Nat.beq r.alt 2) (.ret (.sl 0 0 r.ns0 0,[⟨35,1,r.eh0,true,false,0⟩])) .fail))
theorem He3{α β:Type}(F:α->β)(kk:Xb4->α)(x:LPq):F (kb8 kk x)=kb8 (λr=>F (kk r)) x:=by unfold kb8;(repeat' apply k8 (f:=F))<;>rfl
def ud4:Sum:=ca1 (na2 tLq) (λx=>oc1 (Xb5 x))
theorem re2:j6 prog G 30 ud4:=gb2 (bd b30 Wd6) λx=>Ga2 (.s .p (.s .p (.s (.s .p (.b (.u bc9.ls))) .p))) [bc9.pr] (by kernel_rfl) (.cons Pd1 .nil) (Qkad (b:=kb8 (λr=>(oc1 r).run) x) (by kernel_rfl) (He3 (λr=>(oc1 r).run) (λr=>r) x).symm)
structure Hf4 where
 (Ma9 jb3:LPq)
 K9:ByteArray
 l0:LPq
 u6:List Int
 (Kc0 Kc1:List Bool)
 D6:LPq
 te2:Nat
structure Hf5 where
 ph:Nat
 Bg4:Int
 (gd9 ba4:Nat)
 (eh4 eh5 eh6:List (List d7))
def gg1(x fs:PLq):LPq×Int:=if Sa6 x fs then (jb1 x fs fs.length,0) else ([],9)
theorem nbR:Nat.beq 1 2=false/\Nat.beq 2 1=false/\Nat.beq 3 1=false/\Nat.beq 3 2=false/\Nat.beq 4 1=false/\Nat.beq 4 2=false/\Nat.beq 4 3=false/\Nat.beq 6 1=false/\Nat.beq 6 2=false/\Nat.beq 6 3=false/\Nat.beq 6 4=false/\Nat.beq 6 5=false:=by decide
structure RW(q:PLq)(xs:LPq)(t:Nat)(s:zd2):Prop where
 y:xs.all (tb2 q)=true->t=phL (xs.flatMap (lb7 q))*2+2/\s.ns6=(xs.flatMap (lb7 q)).length/\s.eh0=bL tLq (xs.flatMap (lb7 q))
 n:xs.all (tb2 q)=false->(t=1\/t=3)/\∃j,s.is7=((j:Nat):Int)/\gg1 (gL tLq xs j) (lean q)=([],9)
structure RM0(c:PLq)(ys:LPq)(t:Nat)(s:Wd3):Prop where
 y:∀r,Cb3 ys (some [c])=some r->(ys=[]/\t=2)\/(ys≠[]/\t=4/\s.te1=r)
 n:Cb3 ys (some [c])=none->(t=1/\∃j,s.is8=((j:Nat):Int)/\xa5 [c] (gL tLq ys j)=([],9))\/(t=3/\∃j,s.is8=((j:Nat):Int)/\xa5 s.te1 (gL tLq ys j)=([],9)/\j<ys.length/\s.te1.length<=200/\∀c∈s.te1,c.length<=48)
theorem ud5(x:LPq)(hx:x.length<=1000000)(hl:∀q∈x,q.length<=1000000):Xa6 x x=some (b true,[]):=by
 have h:=nc2 (step:=Ca2 ⟨x,x⟩) (mk:=λj=>(⟨(j:Int)⟩:X0)) (c:=λ_=>false) (u:=1) (fin:=2) tLq x (by omega)
  (λj hj=>by
   have hq:=hl _ (X7 tLq hj);simp only[Ca2,xa6,Int.toNat_natCast,j8,w7,dg8 (gL tLq x j) (by omega),dg9 (gL tLq x j) (by omega),u7 hj (show x.length<=4611686018427387904 by omega),Qkv,g9]
   rw[btD (o6 hj),bt (i9 hj),bt (i9 hj)])
  (by simp only[Ca2,xa6];rw[bfD (B0 (Qke _))]) 0 (Qkg _)
 rw[Qki,show (x.any λ_=>false)=false by simp] at h
 unfold Xa6;simp only[j8,l8];rw[show (⟨0⟩:X0)=⟨((0:Nat):Int)⟩ from rfl,h,bf (by simp)]
 rfl
theorem Uc7{x:LPq}(hx:x.length<=1000000)(hl:∀q∈x,q.length<=1000000):Ia2 x x=true:=by unfold Ia2;rw[ud5 x hx hl];rfl
theorem Uc8{x:LPq}(hx:x.length<=1000000)(hl:∀q∈x,q.length<=1000000):Ia3 x x=true:=by unfold Ia3;rw[ud5 x hx hl];rfl
theorem He4(x:List Bool)(hx:x.length<=1000000):Pa7 x x=some (b true,[]):=by
 have h:=nc2 (step:=xa7 ⟨x,x⟩) (mk:=λj=>(⟨(j:Int)⟩:T7)) (c:=λ_=>false) (u:=1) (fin:=2) tB x (by omega)
  (λj hj=>by
   simp only[xa7,sa3,Int.toNat_natCast,u7 hj (show x.length<=4611686018427387904 by omega),beq_self_eq_true,Qkv]
   rw[btD (o6 hj),bt (i9 hj),bt (i9 hj)])
  (by simp only[xa7,sa3];rw[bfD (B0 (Qke _))]) 0 (Qkg _)
 rw[Qki,show (x.any λ_=>false)=false by simp] at h
 unfold Pa7;simp only[j8,l8];rw[show (⟨0⟩:T7)=⟨((0:Nat):Int)⟩ from rfl,h,bf (by simp)]
 rfl
theorem cf1{x:List Bool}(hx:x.length<=1000000):Pa8 x x=true:=by unfold Pa8;rw[He4 x hx];rfl
theorem cf2{x:List Bool}(hx:x.length<=1000000):Pa9 x x=true:=by unfold Pa9;rw[He4 x hx];rfl
structure Pok(x:Pce):Prop where
 su:x.su.length<=1000000
 to:x.to.length<=1000000
 cu:x.cu.length<=1000000
 cl:∀q∈x.cu,q.length<=1000000
theorem He5{x:Pce}(h:Pok x):Qb8 x x=some (b true,[]):=by
 unfold Qb8;simp only[j8,w7,cf1 h.su,cf2 h.su,cf1 h.to,cf2 h.to,Uc7 h.cu h.cl,Uc8 h.cu h.cl,g9]
theorem re3{x:Pce}(h:Pok x):jb2 x x=true:=by unfold jb2;rw[He5 h];rfl
theorem re4{x:Pce}(h:Pok x):Ma0 x x=true:=by unfold Ma0;rw[He5 h];rfl
def fd1(s:LPq):Int:=match s.find? λc=>chk c != 0 with
 |some c=>chk c
 |none=>0
def cf3(x:Prt)(y:Pce):Bool:=(y.su.length:Int)==(x.cl.length:Int)&&((y.to.length:Int)==(x.cl.length:Int)&&(decide ((y.cu.length:Int)<=24)&&(fd1 y.cu==0)))
structure Jok(x:Prt):Prop where
 cl:x.cl.length<=1000000
 wt:x.wt.length<=1000000
 pl:∀c∈x.cl,c.length<=1000000
def Lc4(n:Int):Bool:=decide (n<1)||decide (n>3)
def zd3(l:LPq)(j:Nat):Bool:=!ful (gL tLq l j)||(List.range j).any λk=>!apart (gL tLq l k) (gL tLq l j)
def cc2(x:Prt):Int :=
 if (x.cl.length:Int)<1 then 2 else if (x.cl.length:Int)>16 then 2 else if ((x.wt.length:Int) != (x.cl.length:Int))=true then 1 else if x.wt.any Lc4=true then 1
 else if (List.range x.cl.length).any (zd3 x.cl)=true then 13 else 0
theorem He6{nm:ByteArray}{l:LPq}{w:List Int}(hl:l.length<=1000000)(hp:∀c∈l,c.length<=1000000){j:Nat}(hj:j<l.length) :
  ∃k,lp (Ia4 ⟨(j:Int),nm,l,w⟩) ⟨0⟩=(if ((List.range j).any λk=>!apart (gL tLq l k) (gL tLq l j))=true then 1 else 2,(⟨((k:Nat):Int)⟩:oa1)):=by
 have h:=Uc3 (step:=Ia4 ⟨(j:Int),nm,l,w⟩) (mk:=λk=>(⟨(k:Int)⟩:oa1)) j (λk=>!apart (gL tLq l k) (gL tLq l j)) 1 2 (by omega)
  (λk hk=>by
   have hkl:k<l.length:=by omega
   have hc:=hp _ (X7 tLq hkl);have hd:=hp _ (X7 tLq hj);simp only[Ia4,Qa1,Int.toNat_natCast,j8,w7,Bf1 (show (gL tLq l k).length<=100000000 by omega) (show (gL tLq l j).length<=100000000 by omega),Bf2 (show (gL tLq l k).length<=100000000 by omega) (show (gL tLq l j).length<=100000000 by omega),u7 hk (show j<=4611686018427387904 by omega),g9]
   rw[btD (o6 hk),bt (i9 hkl),bt (i9 hj)])
  (by simp only[Ia4,Qa1];rw[bfD (B0 (Qke _))])
 exact h
theorem Se7{nm:ByteArray}{l:LPq}{w:List Int}(hl:l.length<=1000000)(hp:∀c∈l,c.length<=1000000) :
  ∃k,lp (Ia5 ⟨nm⟩) ⟨0,l,w⟩=(if (List.range l.length).any (zd3 l)=true then 1 else 2,(⟨((k:Nat):Int),l,w⟩:oa2)):=by
 have h:=Uc3 (step:=Ia5 ⟨nm⟩) (mk:=λk=>(⟨(k:Int),l,w⟩:oa2)) l.length (zd3 l) 1 2 (by omega)
  (λj hj=>by
   have hc:=hp _ (X7 tLq hj);obtain⟨k,hk⟩:=He6 (nm:=nm) (w:=w) hl hp hj;simp only[Ia5,Qa2,Int.toNat_natCast,j8,w7,l8,pe2 (show (gL tLq l j).length<=1000000000 by omega),pe3 (show (gL tLq l j).length<=1000000000 by omega),u7 hj (show l.length<=4611686018427387904 by omega),g9,hk,Qka]
   rw[btD (o6 hj),bt (i9 hj)];unfold zd3;cases ful (gL tLq l j) with
   |false=>rfl
   |true =>
    cases ha:(List.range j).any λk=>!apart (gL tLq l k) (gL tLq l j) with
    |false=>rfl
    |true=>rfl)
  (by simp only[Ia5,Qa2];rw[bfD (B0 (Qke _))])
 exact h
theorem cf4{x:Prt}(h:Jok x):Cb4 x=some (i (cc2 x),[]):=by
 have h0:=nc2 (step:=Xa7 ⟨x.nm,x.cl,x.wt⟩) (mk:=λj=>(⟨(j:Int)⟩:oa0)) (c:=Lc4) (u:=1) (fin:=2) tI x.wt (by have:=h.wt;omega)
  (λj hj=>by
   simp only[Xa7,Qa0,Int.toNat_natCast,u7 hj (show x.wt.length<=4611686018427387904 by have:=h.wt;omega)]
   rw[btD (o6 hj),bt (i9 hj),bt (i9 hj)];unfold Lc4;cases decide (gL tI x.wt j<1)<;>rfl)
  (by simp only[Xa7,Qa0];rw[bfD (B0 (Qke _))]) 0 (Qkg _)
 rw[Qki] at h0;obtain⟨k,hk⟩:=Se7 (nm:=x.nm) (w:=x.wt) h.cl h.pl;unfold Cb4 cc2;simp only[j8,l8,Qka,g9];rw[show (⟨0⟩:oa0)=⟨((0:Nat):Int)⟩ from rfl]
 by_cases h1:(x.cl.length:Int)<1
 ·rw[btD h1,if_pos h1]
 ·rw[bfD h1,if_neg h1];by_cases h2:(x.cl.length:Int)>16
  ·rw[btD h2,if_pos h2]
  ·rw[bfD h2,if_neg h2];cases h3:((x.wt.length:Int) != (x.cl.length:Int)) with
   |true=>rfl
   |false =>
    rw[w6,if_neg (by simp)]
    cases h4:x.wt.any Lc4 with
    |true =>
     rw[h4] at h0;simp only[if_true] at h0 ⊢;rw[h0];rfl
    |false =>
     rw[h4] at h0;simp only[Qks,if_false] at h0 ⊢;rw[h0,hk];cases (List.range x.cl.length).any (zd3 x.cl)<;>rfl
theorem Se8{x:Prt}(h:Jok x):Xa8 x=cc2 x:=by unfold Xa8;rw[cf4 h];rfl
theorem Se9{x:Prt}(h:Jok x):Ca4 x=true:=by unfold Ca4;rw[cf4 h];rfl
def He7(x:Prt):Pce:=⟨List.replicate x.cl.length false,List.replicate x.cl.length false,[]⟩
theorem oc2(a c:PLq):apart a c=apart c a:=by
 by_cases ha:(chk a==0)=true
 ·by_cases hc:(chk c==0)=true
  ·rw[Bool.eq_iff_iff,Lb2 ha hc,Lb2 hc ha];exact⟨λh z h1 h2=>h z h2 h1,λh z h1 h2=>h z h2 h1⟩
  ·have hc:(chk c==0)=false:=by simpa using hc
   unfold apart;rw[hc,Bool.and_false,Bool.false_and];rfl
 ·have ha:(chk a==0)=false:=by simpa using ha
  unfold apart;rw[ha,Bool.and_false,Bool.false_and];rfl
theorem Pd2(n:Int):hb9 n=Lc4 n/\ib0 n=true:=by
 have h:Pa4 n=some (b (Lc4 n),[]):=by
  unfold Pa4 Lc4;cases decide (n<1)<;>rfl
 unfold hb9 ib0;rw[h];exact⟨rfl,rfl⟩
theorem Rf6(w:List Int)(hw:w.length<=1000000):qa1 ⟨w⟩=⟨1,if w.any Lc4=true then ((w.findIdx Lc4:Nat):Int) else -1⟩:=by
 have h:=yb7 (step:=U8 ⟨w,(w.length:Int)⟩) (mk:=λj=>(⟨(j:Int)⟩:C3)) (c:=Lc4) (u:=1) (fin:=2) tI w (by omega)
  (λj hj=>by
   simp only[U8,T5,Int.toNat_natCast,(Pd2 _).1,(Pd2 _).2,u7 hj (show w.length<=4611686018427387904 by omega),g9]
   rw[btD (o6 hj),bt (i9 hj)])
  (by simp only[U8,T5];rw[bfD (B0 (Qke _))]) 0 (Qkg _)
 rw[Qki,Qkf] at h;unfold qa1 U2;simp only[j8,l8,Bool.and_true,g9];rw[show (⟨0⟩:C3)=⟨((0:Nat):Int)⟩ from rfl,h]
 cases w.any Lc4<;>rfl
theorem Rf7(w:List Int)(hw:w.length<=1000000):ga8 ⟨w⟩=⟨1,w.any Lc4⟩:=by
 unfold ga8 M8;simp only[j8,l8,Bool.and_true,g9,Rf6 w hw];rw[show Nat.beq 1 1=true from rfl,g9]
 cases w.any Lc4 with
 |true =>
  rw[if_pos rfl,decide_eq_true (show ((w.findIdx Lc4:Nat):Int)>=0 by omega)]
 |false=>rfl
theorem Rf8{l:LPq}{j:Nat}(hj:j<l.length):zd3 l j=(!ful (gL tLq l j)||!qb5 (gL tLq l j) (l.take j)):=by
 unfold zd3 qb5;rw[Bool.not_not];congr 1;rw[Bool.eq_iff_iff,Qko,Qko];constructor
 ·rintro⟨k,hk,h⟩;have hk:=Qkm.1 hk;refine⟨gL tLq l k,?_,by rw[oc2];exact h⟩
  rw[Qkah];refine⟨k,?_⟩;rw[Qkw,if_pos hk];simp[gL,Qkb,Qkd (show k<l.length by omega)]
 ·rintro⟨q,hq,h⟩;obtain⟨k,hk⟩:=Qkah.1 hq;rw[Qkw] at hk
  split at hk
  case isFalse=>cases hk
  rename_i hkj;refine⟨k,Qkm.2 hkj,?_⟩;rw[oc2,show gL tLq l k=q by simp[gL,Qkb,hk]]
  exact h
theorem mf6{nm:ByteArray}{l:LPq}{w:List Int}(hl:l.length<=1000000)(hp:∀c∈l,c.length<=1000000) :
  ∃k,lp (va9 ⟨l,(l.length:Int),nm,l,w⟩) ⟨0⟩=(if (List.range l.length).any (zd3 l)=true then 1 else 2,(⟨((k:Nat):Int)⟩:ba3)):=by
 have h:=Uc3 (step:=va9 ⟨l,(l.length:Int),nm,l,w⟩) (mk:=λk=>(⟨(k:Int)⟩:ba3)) l.length (zd3 l) 1 2 (by omega)
  (λj hj=>by
   have hc:=hp _ (X7 tLq hj);have ht:∀q∈l.take j,q.length<=1000000:=λq hq=>hp q (List.mem_of_mem_take hq)
   have htl:(l.take j).length<=1000000:=by rw[Qkp];omega
   obtain⟨e1,e2⟩:=Od5 tLq l j (by omega)
   rw[Rf8 hj];simp only[va9,Ca0,Int.toNat_natCast,j8,w7,e1,e2,md9 (show (gL tLq l j).length<=1000000000 by omega),nd0 (show (gL tLq l j).length<=1000000000 by omega),ed6 hc htl ht,ed7 hc htl ht,u7 hj (show l.length<=4611686018427387904 by omega),g9]
   rw[btD (o6 hj),bt (i9 hj),bt (i9 (show j<l.length+1 by omega))]
   cases ful (gL tLq l j)<;>rfl)
  (by simp only[va9,Ca0];rw[bfD (B0 (Qke _))])
 exact h
theorem cf5{x:Prt}(h:Jok x):fb6 x=some (i (cc2 x),[]):=by
 obtain⟨k,hk⟩:=mf6 (nm:=x.nm) (w:=x.wt) h.cl h.pl;unfold fb6 cc2;simp only[j8,l8,Qka,g9,Rf7 x.wt h.wt,hk];cases h1:((x.cl.length:Int)==0) with
 |true =>
  have h1:(x.cl.length:Int)=0:=by simpa using h1
  rw[g9,if_pos (show (x.cl.length:Int)<1 by omega)]
 |false =>
  have h1:¬ (x.cl.length:Int)=0:=by simpa using h1
  rw[w6,if_neg (show ¬ (x.cl.length:Int)<1 by omega)]
  by_cases h2:(x.cl.length:Int)>16
  ·rw[btD h2,if_pos h2]
  ·rw[bfD h2,if_neg h2];cases h3:((x.wt.length:Int) != (x.cl.length:Int)) with
   |true=>rfl
   |false=>cases x.wt.any Lc4<;>cases (List.range x.cl.length).any (zd3 x.cl)<;>rfl
theorem Dc3{x:Prt}(h:Jok x):Z5 x=cc2 x:=by unfold Z5;rw[cf5 h];rfl
theorem Uc9{x:Prt}(h:Jok x):V0 x=true:=by unfold V0;rw[cf5 h];rfl
theorem ud6(s:LPq)(hs:s.length<=1000000)(hl:∀c∈s,c.length<=1000000):Pa6 s=some (i (fd1 s),[]):=by
 have h:=yb7 (step:=xa4 ⟨s,(s.length:Int)⟩) (mk:=λj=>(⟨(j:Int)⟩:T6)) (c:=λc=>chk c != 0) (u:=1) (fin:=2) tLq s (by omega)
  (λj hj=>by
   have hc:=hl _ (X7 tLq hj);simp only[xa4,sa2,Int.toNat_natCast,j8,w7,Jc1 _ (show (gL tLq s j).length<=1000000000 by omega),Cd1 _ (show (gL tLq s j).length<=1000000000 by omega),u7 hj (show s.length<=4611686018427387904 by omega),g9]
   rw[btD (o6 hj),bt (i9 hj)])
  (by simp only[xa4,sa2];rw[bfD (B0 (Qke _))]) 0 (Qkg _)
 rw[Qki,Qkf] at h;unfold Pa6 fd1;simp only[j8,w7,l8];rw[show (⟨0⟩:T6)=⟨((0:Nat):Int)⟩ from rfl,h]
 cases ha:s.any λc=>chk c != 0 with
 |true =>
  have hlt:s.findIdx (λc=>chk c != 0)<s.length:=Qku.2 (Qko.1 ha)
  have hc:=hl _ (X7 tLq hlt);rw[bf9 tLq s _ ha];simp only[Int.toNat_natCast,if_true,Jc1 _ (show (gL tLq s (s.findIdx λc=>chk c != 0)).length<=1000000000 by omega)]
  rfl
 |false =>
  rw[Qkr.2 λc hc=>by have:=List.any_eq_false.1 ha c hc;simpa using this]
  rfl
theorem Vc0{s:LPq}(hs:s.length<=1000000)(hl:∀c∈s,c.length<=1000000):ra3 s=fd1 s:=by unfold ra3;rw[ud6 s hs hl];rfl
theorem Vc1{s:LPq}(hs:s.length<=1000000)(hl:∀c∈s,c.length<=1000000):ra4 s=true:=by unfold ra4;rw[ud6 s hs hl];rfl
def Tb9(x:Prt)(y:Pce):Int:=if (cc2 x != 0)=true then cc2 x else if cf3 x y=true then 0 else 4
theorem fe0{x:Prt}{y:Pce}(hx:Jok x)(hy:Pok y):Xa5 x y=some (i (Tb9 x y),[]):=by
 unfold Xa5 Tb9 cf3;have hj:Jok ⟨x.nm,x.cl,x.wt⟩:=⟨hx.cl,hx.wt,hx.pl⟩;simp only[j8,w7,Dc3 hx,Dc3 hj,Uc9 hj,Vc0 hy.cu hy.cl,Vc1 hy.cu hy.cl,g9,Qka];rw[show cc2 ⟨x.nm,x.cl,x.wt⟩=cc2 x from rfl]
 cases (cc2 x != 0) with
 |true=>rfl
 |false =>
  rw[w6];simp only[Qks,if_false];cases h1:((y.su.length:Int)==(x.cl.length:Int)) with
  |false=>rw[show ((y.su.length:Int) != (x.cl.length:Int))=true by rw[bne,h1];rfl];rfl
  |true =>
   rw[show ((y.su.length:Int) != (x.cl.length:Int))=false by rw[bne,h1];rfl]
   cases h2:((y.to.length:Int)==(x.cl.length:Int)) with
   |false=>rw[show ((y.to.length:Int) != (x.cl.length:Int))=true by rw[bne,h2];rfl];rfl
   |true =>
    rw[show ((y.to.length:Int) != (x.cl.length:Int))=false by rw[bne,h2];rfl]
    by_cases h3:(y.cu.length:Int)>24
    ·rw[decide_eq_true h3,decide_eq_false (show ¬ (y.cu.length:Int)<=24 by omega)];rfl
    ·rw[decide_eq_false h3,decide_eq_true (show (y.cu.length:Int)<=24 by omega)]
     cases h4:(fd1 y.cu==0) with
     |true=>rw[show (fd1 y.cu != 0)=false by rw[bne,h4];rfl];rfl
     |false=>rw[show (fd1 y.cu != 0)=true by rw[bne,h4];rfl];rfl
theorem Pd3{x:Prt}{y:Pce}(hx:Jok x)(hy:Pok y):Ha9 x y=Tb9 x y:=by unfold Ha9;rw[fe0 hx hy];rfl
theorem Pd4{x:Prt}{y:Pce}(hx:Jok x)(hy:Pok y):Ia0 x y=true:=by unfold Ia0;rw[fe0 hx hy];rfl
def ja2(l:LPq)(c:PLq):LPq:=l.filter λq=>!apart q c
theorem Te0(l:LPq)(c:PLq){j:Nat}(hj:j<l.length):ja2 (l.take (j+1)) c=ja2 (l.take j) c++(if apart (gL tLq l j) c then [] else [gL tLq l j]):=by
 unfold ja2;rw[nc3 tLq hj,List.filter_append];congr 1;generalize gL tLq l j=q;cases h:apart q c<;>simp[h]
theorem pd0(l:LPq)(c:PLq):(ja2 l c).length<=l.length:=Qkag _ _
structure RMt(l:LPq)(c:PLq)(j:Nat)(s:Wd5):Prop where
 le:j<=l.length
 ix:s.is6=(j:Int)
 ph:s.ph=phL (ja2 (l.take j) c)
 n:s.ns5=(ja2 (l.take j) c).length
 e:s.eh0=bL tLq (ja2 (l.take j) c)
theorem da0(O:LPq):(phL O=0/\O=[])\/phL O=1:=by cases O with | nil=>exact .inl ⟨rfl,rfl⟩ | cons=>exact .inr rfl
theorem Xf3{α:Type}(t:Ty α):(one (r1L t)).rd (.v (.slice none 0 0),[])=some []:=rfl
def cpA(c:PLq):d7:=.tree 4 c.length (λk=>g8 (bL tP c) k)
theorem Pd5(c:PLq):o9 (λk=>tP.row (gL tP c k)) (List.range c.length)=bL tP c:=by
 unfold bL;rw[n9,n9];refine Qkl (by simp) λk h1 h2=>?_
 have hk:k<c.length:=by simpa using h2
 simp[gL,Qkb,Qkd hk]
theorem Xf4(c:PLq):(d7.tree 4 (0+(len (o9 (λk=>(tP).row (gL tP c k)) (List.range (List.length c))))) (λk=>g8 (app [] (o9 (λk=>(tP).row (gL tP c k)) (List.range (List.length c)))) (0+k)))=cpA c:=by
 unfold cpA;rw[Pd5,M2,Qkf];congr 1;funext k;rw[Qkf];rfl
theorem He8(c:PLq):tLq.rd [cpA c]=c/\tLq.ok [cpA c]=true:=by
 obtain⟨h1,h2⟩:=Ge9 tP c rfl;exact⟨h1,by show Bool.and (Nat.beq 4 4) (okL tP c.length λk=>g8 (bL tP c) k)=true;rw[h2];rfl⟩
def cpR(l:LPq):List (List d7):=o9 (λc=>[cpA c]) l
theorem Cd4(l:LPq):len (cpR l)=l.length:=by unfold cpR;rw[p9,n9,List.length_map]
theorem Kb4(l:LPq)(c:PLq):app (cpR l) [[cpA c]]=cpR (l++[c]):=by unfold cpR;rw[G6,n9,n9,List.map_append];rfl
theorem fd2{l:LPq}{k:Nat}(h:k<l.length):g8 (cpR l) k=[cpA (gL tLq l k)]:=by
 unfold cpR;exact rd0 (λc=>[cpA c]) tLq.d h
theorem re5(l:LPq):slR tLq (cpR l) 0 l.length=l/\okS tLq (cpR l) 0 l.length=true:=by
 constructor
 ·unfold slR lsL;refine Qkl (by simp) λk h1 h2=>?_
  have hk:k<l.length:=h2;simp only[List.getElem_map,List.getElem_range,Qkf,fd2 hk,(He8 _).1];simp[gL,Qkb,Qkd hk]
 ·unfold okS okL;rw[Qkn];intro k hk;have hk:k<l.length:=by simpa using hk
  simp only[Qkf,fd2 hk,(He8 _).2]
theorem pg8(l:LPq):(one (r1L tLq)).rd (.sl 0 0 l.length 0,[⟨35,1,cpR l,true,false,0⟩])=some l:=by
 show Bool.rec (motive:=λ_=>Option LPq) none (some (slR tLq (cpR l) 0 l.length)) (Bool.and (Nat.beq 1 1) (okS tLq (cpR l) 0 l.length))=some l
 rw[(re5 l).1,(re5 l).2];rfl
theorem Dc4(O:LPq)(h:O.length<=1000000):(Nat.beq O.length (len (cpR O))&&Nat.ble ((O.length+1)*24) room)=true:=by
 rw[Cd4,Qkq,Qkx,Qkj];unfold room;omega
theorem Df6(c:PLq)(h:c.length<=1000000):(Nat.beq 0 0&&Nat.ble ((0+(len (o9 (λk=>(tP).row (gL tP c k)) (List.range (List.length c)))))*32) room)=true:=by
 rw[Pd5,M2,Qkq,Qkx,Qkj];unfold room;omega
structure RCp(l:LPq)(ph:Nat)(is:Int)(ns:Nat)(eh:List (List d7))(j:Nat):Prop where
 le:j<=l.length
 ix:is=(j:Int)
 ph:ph=phL (l.take j)
 n:ns=(l.take j).length
 e:eh=cpR (l.take j)
theorem Te1(l:LPq)(hl:l.length<=1000000)(hp:∀q∈l,q.length<=1000000) :
  ∃t s,lp (Ia6 ⟨l⟩) ⟨0,0,0,[]⟩=(t,s)/\RCp l s.ph s.is4 s.ns3 s.eh0 l.length/\t=phL l+1:=by
 refine Fa0 (step:=Ia6 ⟨l⟩) (mk:=λ_ (s:V1)=>s) l.length (λj s=>RCp l s.ph s.is4 s.ns3 s.eh0 j) (λt s=>RCp l s.ph s.is4 s.ns3 s.eh0 l.length/\t=phL l+1) (by omega)
  (λj s hj hi=>?_) (λj s hj hi=>?_) 0 _ ⟨Qkg _,rfl,rfl,rfl,rfl⟩
 ·obtain⟨_,h2,h3,h4,h5⟩:=hi;obtain⟨ph,is4,ns3,eh0⟩:=s
  simp only at h2 h3 h4 h5
  subst h2 h3 h4 h5;have hq:=hp _ (X7 tLq hj);have hw1:W ((j:Int)+1)=((j+1:Nat):Int):=u7 hj (by omega)
  have hgx:inB (j:Int) l.length=true:=i9 hj;have htl:(l.take j).length<=l.length:=by rw[Qkp];omega
  have hm:l.take (j+1)=l.take j++[gL tLq l j]:=nc3 tLq hj;have hnx:Ia6 ⟨l⟩ ⟨phL (l.take j),(j:Int),(l.take j).length,cpR (l.take j)⟩=.next ⟨phL (l.take (j+1)),((j+1:Nat):Int),(l.take (j+1)).length,cpR (l.take (j+1))⟩:=by
   rw[hm,Xb2,Qkc,List.length_singleton,<- Kb4]
   rcases da0 (l.take j) with⟨h0,hn⟩|h1
   ·rw[h0];show ra5 Stp.next Stp.exit Stp.fail _ _=_;simp only[ra5,Int.toNat_natCast,hw1,hgx,g9,Df6 _ hq,Xf4];rw[btD (o6 hj),hn];rfl
   ·rw[h1];show ra6 Stp.next Stp.exit Stp.fail _ _=_;simp only[ra6,Int.toNat_natCast,hw1,hgx,g9,Df6 _ hq,Xf4];rw[btD (o6 hj),bt (Dc4 _ (by omega))]
  show Nx (Ia6 ⟨l⟩ ⟨phL (l.take j),(j:Int),(l.take j).length,cpR (l.take j)⟩) _ _;rw[hnx];exact .nx ⟨_,rfl,hj,rfl,rfl,rfl,rfl⟩
 ·have hje:j=l.length:=by have:=hi.le;omega
  subst hje;have hi':=hi;obtain⟨_,h2,h3,h4,h5⟩:=hi;obtain⟨ph,is4,ns3,eh0⟩:=s
  simp only at h2 h3 h4 h5
  subst h2 h3 h4 h5;simp only[Qkh] at *
  rcases da0 l with⟨h0,hn⟩|h1
  ·refine⟨1,?_,hi',by rw[h0]⟩
   rw[h0];show ra5 Stp.next Stp.exit Stp.fail _ _=_;simp only[ra5];rw[bfD (B0 (Qke _))]
  ·refine⟨2,?_,hi',by rw[h1]⟩
   rw[h1];show ra6 Stp.next Stp.exit Stp.fail _ _=_;simp only[ra6];rw[bfD (B0 (Qke _))]
theorem Rf9{l:LPq}(hl:l.length<=1000000)(hp:∀q∈l,q.length<=1000000):Xb5 l=if l=[] then ⟨1,0,[]⟩ else ⟨2,l.length,cpR l⟩:=by
 obtain⟨t,s,h1,h2,h3⟩:=Te1 l hl hp;unfold Xb5 kb8;simp only[j8,l8,Qka,g9,h1];have hn:=h2.n;have he:=h2.e;rw[Qkh] at hn he
 rcases da0 l with⟨h0,hnl⟩|hp1
 ·rw[h3,h0,if_pos hnl];rfl
 ·rw[h3,hp1,hn,he,if_neg λe=>by rw[e] at hp1;cases hp1]
  rfl
end Go.Ev.Ce
namespace Go.Proofs
open Go.Shelf
set_option maxRecDepth 100000 in
def Ce.growPs_ren:Go.Shelf.Ren:=⟨fun | 4=>74 | n=>n,fun | 22=>30 | 25=>35 | 3=>3 | 4=>4 | 9=>9 | 20=>20 | 0=>0 | n=>n,fun | n=>n⟩
set_option maxRecDepth 100000 in
theorem Ce.growPs:Go.Proofs.Lays8.n4 Tryz.prog Ce.growPs_ren:={
 mixed:=by kernel_rfl
 f4:=⟨Tryz.f74.name,by decide,Tryz.func74.trans (congrArg some (by kernel_rfl))⟩
 t0:=Tryz.underlying0
 a0:=Tryz.isAgg0
 z0:=Tryz.sizeOf0
 v0:=Tryz.zeroValue0
 t3:=Tryz.underlying3
 a3:=Tryz.isAgg3
 z3:=Tryz.sizeOf3
 v3:=Tryz.zeroValue3
 t4:=Tryz.underlying4
 a4:=Tryz.isAgg4
 z4:=Tryz.sizeOf4
 v4:=Tryz.zeroValue4
 t9:=Tryz.underlying9
 a9:=Tryz.isAgg9
 z9:=Tryz.sizeOf9
 v9:=Tryz.zeroValue9
 t20:=Tryz.underlying20
 a20:=Tryz.isAgg20
 z20:=Tryz.sizeOf20
 v20:=Tryz.zeroValue20
 t22:=Tryz.underlying30
 a22:=Tryz.isAgg30
 z22:=Tryz.sizeOf30
 v22:=Tryz.zeroValue30 }
end Go.Proofs
namespace Go.Ev.Ce
open Go Go.Ev Go.Proofs
def fd3:List d7:=[.v (.slice none 0 0)]
def Xa9:Sum:=λargs blks=>match args,blks with
 | [.v (.slice none 0 0), .v (.int .i64 n)], [] => .ite (n == 0) (.ret (.v (.slice none 0 0), []))
   (.guard (Bool.and (decide (0<n)) (Nat.ble (n.toNat*24) room)) (.ret (.sl 0 0 0 0,[⟨35,1,List.replicate n.toNat fd3,true,false,0⟩])))
 |_,_=>.fail
theorem Ag5:zeT Tryz.prog 35=some fd3:=by kernel_rfl
theorem Ag6:szT Tryz.prog 35=1:=by kernel_rfl
theorem Ag7:byT Tryz.prog 35=24:=by kernel_rfl
theorem pg9:Ce.growPs_ren.t 25=35:=by kernel_rfl
theorem zf4:Ce.growPs_ren.f 4=74:=by kernel_rfl
set_option maxRecDepth 100000 in
theorem uc9:j6 prog G 74 Xa9:=by
 intro args blks r out he W ρ F w args' hH hlen hargs hG;refine⟨⟨_,Tryz.func74,by kernel_rfl,of_decide_eq_true (by kernel_rfl)⟩,?_⟩
 unfold Xa9 at he
 split at he
 case h_2=>cases he
 rename_i n
 match args',hlen with
 |[v0,v1],_ =>
 have e0:=ia8 (hargs 0 _ _ rfl rfl);have e1:=ia8 (hargs 1 _ _ rfl rfl);subst e0 e1
 rcases DT.run_ite_some he with⟨h0,he⟩|⟨h0,he⟩
 ·have h0:n=0:=by simpa using h0
  subst h0;injection he with he;injection he with q1 q2;subst q1 q2
  have:=Any8.slices_Grow_room Ce.growPs none 0 0 0 w (Qkaf _) (by omega) (by omega) (by omega)
  rw[zf4] at this;refine this.mono λe w' ⟨h1,h2⟩=>?_
  subst h1 h2;exact⟨_,rfl,ρ,F,.refl,hH,.ofv _⟩
 ·obtain⟨hg,he⟩:=DT.run_guard_some he;rw[Qkac,decide_eq_true_eq] at hg;obtain⟨hpos,hroom⟩:=hg;have hroom:=Nat.le_of_ble_eq_true hroom;unfold room at hroom;obtain⟨m,rfl⟩:=Int.eq_ofNat_of_zero_le (Int.le_of_lt hpos);have hm:0<m:=by omega
  have he:some (d7.sl 0 0 0 0,[(⟨35,1,List.replicate m fd3,true,false,0⟩:d8)])=some (r,out):=he;injection he with he;injection he with q1 q2;subst q1 q2
  obtain⟨ti,zv,hi,hzz,hzr,hone⟩:=ib7 (E:=En []) Ag5;have hi:Tryz.prog.info? 35=some ti:=hi;have hts:ti.size=1:=by have:=Ag6;simp only[szT,hi] at this;exact this
  have hby:ti.bytes=24:=by have:=Ag7;simp only[byT,hi] at this;exact this
  have hzs:zv.cells.size=1:=by
   have:=congrArg List.length hzr
   simpa [fd3] using this.symm
  have hroom':m*24<=140737488355328:=hroom
  have:=Any8.slices_Grow_grow Ce.growPs ti zv (by rw[pg9];exact hi) hzz (by omega) none 0 0 m [] w (Qkaf _) (by omega) (by rw[hby];omega) (by omega) (by simp) (λ_=>rfl) (λa ha=>by cases ha)
  rw[zf4,pg9] at this;refine this.mono λe w' ⟨h1,h2⟩=>?_
  have hcap:=grownCap_ge w (0+m) 0 35;have hcap2:=grownCap_le_maxLen w (0+m) 0 35 (by unfold maxLen;omega)
  subst h1;generalize grownCap w (0+m) 0 35=G' at *
  have hsz:∀q,(Builtin.zeroCells zv.cells q).size=q*1:=λq=>by simp[Builtin.zeroCells,hzs]
  have hcc:(#[]++Builtin.zeroCells zv.cells (0+m-0)++Builtin.zeroCells zv.cells (G'-(0+m))).size=G'*1:=by
   rw[Array.size_append,Array.size_append,hsz,hsz];simp;omega
  have hobj:w'.heap[w.heap.size]?=some (.cells (#[]++Builtin.zeroCells zv.cells (0+m-0)++Builtin.zeroCells zv.cells (G'-(0+m))) 35 (0,0)):=by
   rw[h2];exact World.alloc_heap_new w.drew _
  have hold:∀k,k<w.heap.size->w'.heap[k]?=w.heap[k]?:=λk hk=>by
   rw[h2];simp only[World.alloc,Array.getElem?_push,World.drew];rw[if_neg (by omega)]
  have hws:w'.heap.size=w.heap.size+1:=by rw[h2];exact Array.size_push ..
  obtain⟨h6,h7⟩:=hH.newAt (w':=w') (by rw[h2];rfl) (by rw[h2];rfl) (by rw[h2];rfl) (by rw[h2];exact Nat.le_succ _) (by omega) hold w.heap.size (Qkaf _) 35 1 (List.replicate m fd3) _ 35 hobj
   (λj r hr=>by rw[Qkae] at hr;split at hr<;>cases hr;rfl) (by rw[Qkai,hcc];omega)
   (λj r c x hr hx=>by
    have hjm:j<m:=by
     have:=(Qkaa.1 hr).1
     simpa using this
    rw[Qkae,if_pos hjm] at hr;injection hr with hr;subst hr;have hc4:c<1:=(Qkaa.1 hx).1;rw[hzr,List.getElem?_map] at hx;have hcz:c<zv.cells.size:=by omega
    have hq:zv.cells.toList[c]?=some zv.cells[c]:=by simp[hcz]
    rw[hq] at hx;injection hx with hx;subst hx;refine⟨zv.cells[c],?_,.v _ (hone _ (by simp))⟩
    have hlt:j*1+c<m*1:=by omega
    rw[Array.append_assoc,Array.empty_append,Array.getElem?_append_left (by rw[hsz];omega)]
    have hm4:(j*1+c) % 1=c:=by omega
    simp only[Builtin.zeroCells,hzs];rw[Array.getElem?_map,Array.getElem?_range];rw[if_pos (by omega)]
    have hc0:c=0:=by omega
    subst hc0;simp[Nat.mod_one,hcz])
   (λ_=>rfl)
  refine⟨_,rfl,_,F,h6,h7,.val (.cell ?_)⟩;refine .sl 0 0 0 0 _ _ { et:=35,es:=1,elems:=List.replicate m fd3,own:=true,dead:=false,g:=0 } rfl rfl (Qkaf _) (Qkg _) rfl hcap2 λ_=>⟨.inr ?_,?_,by simp⟩
  ·simp[ρnew]
  ·simp only[ρnew,List.length_nil,if_true];rw[hcc,Qkf]
end Go.Ev.Ce
namespace Go.Ev.Ce
open Go Go.Ev Go.Ev.L Go.Proofs
set_option maxRecDepth 100000
def Ia7:List (Nat×Sum):=[(74,Xa9)]
theorem cc3:j9 prog G Ia7:=⟨uc9,trivial⟩
structure Z6 where
 (Tf2 te3:List LPq)
 L9:Int
structure D1 where
 (is3 A3:Int)
def cb6(p:Z6)(s:D1):St:=⟨eL tMq p.Tf2::.unk::.unk::i s.is3::ra 5 (eL tMq p.te3::i p.L9::i s.A3::ra 24 []),[]⟩
def U9{α:Type}(k:D1->α)(e:Nat->α)(z:α)(p:Z6)(s:D1):α:=let y0:=(↑(List.length (gL tMq p.te3 s.A3.toNat)):Int);(sl (decide (s.A3<p.L9)) (sl (inB s.A3 (List.length p.te3)) (sl (decide ((W (s.is3+y0))<0)) z (k ⟨W (s.is3+y0),W (s.A3+1)⟩)) z) (e 1))
def P3(p:Z6)(s:D1):Stp D1:=U9 .next .exit .fail p s
def Ea5:Lo Z6 D1:=⟨En Ia7,0,bg7,[1,1,0,1,4,4],[0,3,9,10,11],.p,[⟨sLq tMq::sUq::sUq::sIq::ru2 5 (sLq tMq::sIq::sIq::ru2 24 []),[],λa H=>(⟨aLq tMq a 0,aLq tMq a 9,aIq a 10⟩,⟨aIq a 3,aIq a 11⟩)⟩],P3,[(some 0,λp s=>upq (cb6 p s) [(12,b (decide (s.A3<p.L9)))])],cb6⟩
theorem Ub0:Ea5.OkM:=Lo.okM [] (by kernel_rfl) .nil rfl (.cons (λa H=>by kernel_rfl) .nil) λp s=>(.of @U9 (λF _ _ _ _ _=>by unfold U9;(repeat' apply k8 (f:=F))<;>rfl) (by kernel_rfl))
structure F8 where
 Rb8:List LPq
 qd2:Int
structure p8 where
 ph:Nat
 xb3:Int
 ns6:Nat
 eh0:List (List d7)
def Ya0(p:F8)(s:p8):St:=⟨ra 6 (.v (.slice none 0 0)::ra 18 (eL tMq p.Rb8::i p.qd2::i s.xb3::ra 8 [])),[]⟩
def Ya1(p:F8)(s:p8):St:=⟨ra 6 (.sl 0 0 s.ns6 0::ra 18 (eL tMq p.Rb8::i p.qd2::i s.xb3::ra 8 [])),[⟨35,1,s.eh0,true,false,0⟩]⟩
def Ub1(p:F8)(s:p8):St:=(sel (Nat.beq s.ph 1) (Ya1 p s) (Ya0 p s))
def G8{α:Type}(k:p8->α)(e:Nat->α)(z:α)(p:F8)(s:p8):α:=(sl (decide (s.xb3<p.qd2)) (sl (inB s.xb3 (List.length p.Rb8)) (sl (Nat.beq (len (o9 (λk=>(tLq).row (gL tLq (gL tMq p.Rb8 s.xb3.toNat) k)) (List.range (List.length (gL tMq p.Rb8 s.xb3.toNat))))) 0) (k ⟨0,W (s.xb3+1),0,[]⟩) z) z) (e 1))
def G9{α:Type}(k:p8->α)(e:Nat->α)(z:α)(p:F8)(s:p8):α:=let y0:=(gL tMq p.Rb8 s.xb3.toNat);let y1:=(List.range (List.length y0));(sl (decide (s.xb3<p.qd2)) (sl (inB s.xb3 (List.length p.Rb8)) (sl (Nat.ble (s.ns6+(len (o9 (λk=>(tLq).row (gL tLq y0 k)) y1))) (len s.eh0)) (k ⟨1,W (s.xb3+1),(s.ns6+(len (o9 (λk=>(tLq).row (gL tLq y0 k)) y1))),(app (H9 s.eh0 s.ns6) (app (o9 (λk=>(tLq).row (gL tLq y0 k)) y1) (l4 s.eh0 (s.ns6+(len (o9 (λk=>(tLq).row (gL tLq y0 k)) y1))))))⟩) z) z) (e 2))
def J4(p:F8)(s:p8):Stp p8:=(sel (Nat.beq s.ph 1) (G9 .next .exit .fail p s) (G8 .next .exit .fail p s))
def Ea6:Lo F8 p8:=⟨En Ia7,0,bg7,[1,1,1,1,0,1,4,4],[6,25,26,27],.p,[⟨ru2 6 (.s (.o .nil)::ru2 18 (sLq tMq::sIq::sIq::ru2 8 [])),[],λa H=>(⟨aLq tMq a 25,aIq a 26⟩,⟨0,aIq a 27,0,[]⟩)⟩,⟨ru2 6 (.s (.o (.sl 0 0 (some 0) none))::ru2 18 (sLq tMq::sIq::sIq::ru2 8 [])),[⟨35,1,true,none⟩],λa H=>(⟨aLq tMq a 25,aIq a 26⟩,⟨1,aIq a 27,slN (slT a 6),elT H 0⟩)⟩],J4,[(some 2,λp s=>upq (Ya0 p s) [(28,b (decide (s.xb3<p.qd2)))]),(some 2,λp s=>upq (Ya1 p s) [(28,b (decide (s.xb3<p.qd2)))])],Ub1⟩
theorem Ub2:Ea6.OkM:=Lo.okM [] (by kernel_rfl) .nil rfl (.cons (λa H=>by kernel_rfl) (.cons (λa H=>by kernel_rfl) .nil)) λp s=>(.sel (Nat.beq s.ph 1) (.of @G9 (λF _ _ _ _ _=>by unfold G9;(repeat' apply k8 (f:=F))<;>rfl) (by kernel_rfl)) (.of @G8 (λF _ _ _ _ _=>by unfold G8;(repeat' apply k8 (f:=F))<;>rfl) (by kernel_rfl)))
structure va2 where
 (alt ns0:Nat)
 eh0:List (List d7)
def X1{α:Type}(kk:va2->α)(x:List LPq):α:=let y0:=(⟨rt tMq (rt tMq x),(↑(List.length (rt tMq x)):Int)⟩:F8);let t1:=(lp (P3 (⟨rt tMq x,rt tMq x,(↑(List.length x):Int)⟩:Z6)) (⟨0,0⟩:D1));let t2:=(lp (J4 y0) (⟨0,0,0,[]⟩:p8));let t3:=(lp (J4 y0) (⟨1,0,0,List.replicate t1.2.is3.toNat fd3⟩:p8));(sl ((cnE tMq x)&&((cnE tMq x)&&true)) (sl (Nat.beq t1.1 1) (sl (t1.2.is3==0) (sl ((cnE tMq (rt tMq x))&&true) (sl (Nat.beq t2.1 1) (kk ⟨1,0,[]⟩) (sl (Nat.beq t2.1 2) (kk ⟨2,t2.2.ns6,t2.2.eh0⟩) (kk ⟨0,0,[]⟩))) (kk ⟨0,0,[]⟩)) (sl (Bool.and (decide (0<t1.2.is3)) (Nat.ble (t1.2.is3.toNat*24) room)) (sl ((cnE tMq (rt tMq x))&&true) (sl (Nat.beq t3.1 1) (kk ⟨1,0,[]⟩) (sl (Nat.beq t3.1 2) (kk ⟨2,t3.2.ns6,t3.2.eh0⟩) (kk ⟨0,0,[]⟩))) (kk ⟨0,0,[]⟩)) (kk ⟨0,0,[]⟩))) (kk ⟨0,0,[]⟩)) (kk ⟨0,0,[]⟩))
def X2(x:List LPq):va2:=X1 (λr=>r) x
def Ia8(r:va2):DT (d7×List d8):=(.ite (Nat.beq r.alt 1) (.ret (.v (.slice none 0 0),[])) (.ite (Nat.beq r.alt 2) (.ret (.sl 0 0 r.ns0 0,[⟨35,1,r.eh0,true,false,0⟩])) .fail))
theorem oc3{α β:Type}(F:α->β)(kk:va2->α)(x:List LPq):F (X1 kk x)=X1 (λr=>F (kk r)) x:=by unfold X1;(repeat' apply k8 (f:=F))<;>rfl
def qb7:Sum:=ca1 (na2 tMq) (λx=>Ia8 (X2 x))
theorem hc6:j6 prog G 46 qb7:=gb2 (bd b46 cc3) λx=>sd1 (.s .p (.s .p (.s (.s .p (.b (.u Ea5.lsM))) (.s .p (.s (.s .p (.b (.u Ea6.lsM))) .p))))) [Ea5.prM,Ea6.prM] (by kernel_rfl) (.cons Ub0 (.cons Ub2 .nil)) (Qkad (b:=X1 (λr=>(Ia8 r).run) x) (by kernel_rfl) (oc3 (λr=>(Ia8 r).run) (λr=>r) x).symm)
def Dc5:List (Nat×Sum):=[]
theorem vc0:j9 prog G Dc5:=trivial
structure Fa1 where
 (alt ns0:Nat)
 eh0:List (List d7)
def ia4{α:Type}(kk:Fa1->α)(x:List Bool):α:=let y0:=(List.range (List.length x));(sl ((!(Nat.beq (List.length x) 0))&&true) (sl (Nat.beq 0 0&&Nat.ble ((0+(len (o9 (λk=>(tB).row (gL tB x k)) y0)))*1) room) (kk ⟨1,(0+(len (o9 (λk=>(tB).row (gL tB x k)) y0))),(app [] (o9 (λk=>(tB).row (gL tB x k)) y0))⟩) (kk ⟨0,0,[]⟩)) (kk ⟨0,0,[]⟩))
def sa4(x:List Bool):Fa1:=ia4 (λr=>r) x
def Ya2(r:Fa1):DT (d7×List d8):=(.ite (Nat.beq r.alt 1) (.ret (.sl 0 0 r.ns0 0,[⟨4,1,r.eh0,true,false,0⟩])) .fail)
theorem Lc5{α β:Type}(F:α->β)(kk:Fa1->α)(x:List Bool):F (ia4 kk x)=ia4 (λr=>F (kk r)) x:=by unfold ia4;(repeat' apply k8 (f:=F))<;>rfl
def Hb5:Sum:=ca1 (na2 tB) (λx=>Ya2 (sa4 x))
theorem Dc6:j6 prog G 47 Hb5:=gb2 (bd b47 vc0) λx=>B6 (Qkad (b:=ia4 (λr=>(Ya2 r).run) x) (by kernel_rfl) (Lc5 (λr=>(Ya2 r).run) (λr=>r) x).symm)
def oc4:List (Nat×Sum):=[]
theorem hc7:j9 prog G oc4:=trivial
structure ya6 where
 (alt ns0:Nat)
 eh0:List (List d7)
def Z1{α:Type}(kk:ya6->α)(x:PLq):α:=let y0:=(List.range (List.length x));(sl ((!(Nat.beq (List.length x) 0))&&true) (sl (Nat.beq 0 0&&Nat.ble ((0+(len (o9 (λk=>(tP).row (gL tP x k)) y0)))*32) room) (kk ⟨1,(0+(len (o9 (λk=>(tP).row (gL tP x k)) y0))),(app [] (o9 (λk=>(tP).row (gL tP x k)) y0))⟩) (kk ⟨0,0,[]⟩)) (kk ⟨0,0,[]⟩))
def ma2(x:PLq):ya6:=Z1 (λr=>r) x
def Ma1(r:ya6):DT (d7×List d8):=(.ite (Nat.beq r.alt 1) (.ret (.sl 0 0 r.ns0 0,[⟨66,4,r.eh0,true,false,0⟩])) .fail)
theorem vc1{α β:Type}(F:α->β)(kk:ya6->α)(x:PLq):F (Z1 kk x)=Z1 (λr=>F (kk r)) x:=by unfold Z1;(repeat' apply k8 (f:=F))<;>rfl
def tb3:Sum:=ca1 (na2 tP) (λx=>Ma1 (ma2 x))
theorem oc5:j6 prog G 75 tb3:=gb2 (bd b75 hc7) λx=>B6 (Qkad (b:=Z1 (λr=>(Ma1 r).run) x) (by kernel_rfl) (vc1 (λr=>(Ma1 r).run) (λr=>r) x).symm)
def tc3:List (Nat×Sum):=[(75,tb3)]
theorem pd1:j9 prog G tc3:=⟨oc5,trivial⟩
structure da1 where
 xb4:LPq
 is7:Int
structure K1 where
 ph:Nat
 is8:Int
 ns3:Nat
 eh0:List (List d7)
def Qb9(p:da1)(s:K1):St:=⟨ra 3 (.v (.slice none 0 0)::.unk::.unk::eL tLq p.xb4::i p.is7::i s.is8::ra 10 []),[]⟩
def Rb0(p:da1)(s:K1):St:=⟨ra 3 (.sl 0 0 s.ns3 0::.unk::.unk::eL tLq p.xb4::i p.is7::i s.is8::ra 10 []),[⟨35,1,s.eh0,true,false,0⟩]⟩
def fd4(p:da1)(s:K1):St:=(sel (Nat.beq s.ph 1) (Rb0 p s) (Qb9 p s))
def ba6{α:Type}(k:K1->α)(e:Nat->α)(z:α)(p:da1)(s:K1):α:=let t1:=(ma2 (rt tP (gL tLq p.xb4 s.is8.toNat)));(sl (decide (s.is8<p.is7)) (sl (inB s.is8 (List.length p.xb4)) (sl (okE tP (gL tLq p.xb4 s.is8.toNat)) (sl (Nat.beq t1.alt 1) (k ⟨1,W (s.is8+1),1,[[(.tree 4 t1.ns0 (λk=>g8 t1.eh0 (0+k)))]]⟩) z) z) z) (e 1))
def ba7{α:Type}(k:K1->α)(e:Nat->α)(z:α)(p:da1)(s:K1):α:=let t1:=(ma2 (rt tP (gL tLq p.xb4 s.is8.toNat)));(sl (decide (s.is8<p.is7)) (sl (inB s.is8 (List.length p.xb4)) (sl (okE tP (gL tLq p.xb4 s.is8.toNat)) (sl (Nat.beq t1.alt 1) (sl (Nat.beq s.ns3 (len s.eh0)&&Nat.ble ((s.ns3+1)*24) room) (k ⟨1,W (s.is8+1),s.ns3+1,(app s.eh0 [[(.tree 4 t1.ns0 (λk=>g8 t1.eh0 (0+k)))]])⟩) z) z) z) z) (e 2))
def qa2(p:da1)(s:K1):Stp K1:=(sel (Nat.beq s.ph 1) (ba7 .next .exit .fail p s) (ba6 .next .exit .fail p s))
def wb9:Lo da1 K1:=⟨En tc3,0,lg0,[1,1,0,1,4,4],[3,6,7,8],.p,[⟨ru2 3 (.s (.o .nil)::sUq::sUq::sLq tLq::sIq::sIq::ru2 10 []),[],λa H=>(⟨aLq tLq a 6,aIq a 7⟩,⟨0,aIq a 8,0,[]⟩)⟩,⟨ru2 3 (.s (.o (.sl 0 0 (some 0) none))::sUq::sUq::sLq tLq::sIq::sIq::ru2 10 []),[⟨35,1,true,none⟩],λa H=>(⟨aLq tLq a 6,aIq a 7⟩,⟨1,aIq a 8,slN (slT a 3),elT H 0⟩)⟩],qa2,[(some 0,λp s=>upq (Qb9 p s) [(9,b (decide (s.is8<p.is7)))]),(some 0,λp s=>upq (Rb0 p s) [(9,b (decide (s.is8<p.is7)))])],fd4⟩
theorem fd5:wb9.Ok:=Lo.ok [] (by kernel_rfl) .nil rfl (.cons (λa H=>by kernel_rfl) (.cons (λa H=>by kernel_rfl) .nil)) λp s=>(.sel (Nat.beq s.ph 1) (.of @ba7 (λF _ _ _ _ _=>by unfold ba7;(repeat' apply k8 (f:=F))<;>rfl) (by kernel_rfl)) (.of @ba6 (λF _ _ _ _ _=>by unfold ba6;(repeat' apply k8 (f:=F))<;>rfl) (by kernel_rfl)))
def Ya3(x:LPq):ROq:=let t1:=(lp (qa2 (⟨rt tLq x,(↑(List.length x):Int)⟩:da1)) (⟨0,0,0,[]⟩:K1));(sl ((cnE tLq x)&&true) (sl (Nat.beq t1.1 1) (some (.v (.slice none 0 0),[])) (sl (Nat.beq t1.1 2) (some (.sl 0 0 t1.2.ns3 0,[⟨35,1,t1.2.eh0,true,false,0⟩])) none)) none)
def pa4(x:LPq):LPq:=V2 (one (r1L tLq)) (Ya3 x)
def ga9(x:LPq):Bool:=okO (one (r1L tLq)) (Ya3 x)
def Rb1:Sum:=ca1 (na2 tLq) (λx=>.guard (ga9 x) (.ret ((one (r1L tLq)).enc (pa4 x),[])))
theorem tc4:j6 prog G 48 Rb1:=ab0 (bd b48 pd1) (one (r1L tLq)) (o:=Ya3) λx=>Ga2 (.s .p (.s .p (.s (.s .p (.b (.u wb9.ls))) .p))) [wb9.pr] (by kernel_rfl) (.cons fd5 .nil) (by kernel_rfl)
structure ib1 where
 is0:Int
 (ea1 g7:PLq)
def pd2:List (Nat×Sum):=[(28,Jb5)]
theorem fd6:j9 prog G pd2:=⟨ac7,trivial⟩
structure ib2 where
 alt:Nat
 bs0:Bool
def Aa0{α:Type}(kk:ib2->α)(x:ib1):α:=let t1:=(La3 (rt tP x.ea1) (rt tP x.g7));(sl (okE tP x.ea1) (sl (okE tP x.g7) (sl (La4 (rt tP x.ea1) (rt tP x.g7)) (kk ⟨1,!t1⟩) (kk ⟨0,false⟩)) (kk ⟨0,false⟩)) (kk ⟨0,false⟩))
def Qa3(x:ib1):ib2:=Aa0 (λr=>r) x
def xb0(x:ib1)(r:ib2):DT (d7×List d8):=(.ite (Nat.beq r.alt 1) (.ret (b r.bs0,[⟨0,1,[[eL tP x.g7]],true,false,0⟩])) .fail)
theorem zd4{α β:Type}(F:α->β)(kk:ib2->α)(x:ib1):F (Aa0 kk x)=Aa0 (λr=>F (kk r)) x:=by unfold Aa0;(repeat' apply k8 (f:=F))<;>rfl
def tc5:Sum:=Sa0 ⟨[sIq,sLq tP,sPq 0],[⟨0,1,true,some [[.c 4 (nL tP)]]⟩],λa H=>(⟨aIq a 0,aLq tP a 1,hLq tP H 0 0 0⟩,())⟩ (λx=>xb0 x (Qa3 x))
theorem pd3:j6 prog G 50 tc5:=I1 (enc:=λx=>⟨[i x.is0,eL tP x.ea1,.ptr 0 0 0 0],[⟨0,1,[[eL tP x.g7]],true,false,0⟩]⟩) (λa H=>by kernel_rfl) (bd b50 fd6) λx=>B6 (Qkad (b:=Aa0 (λr=>(xb0 x r).run) x) (by kernel_rfl) (zd4 (λr=>(xb0 x r).run) (λr=>r) x).symm)
structure Fa2 where
 s9:LPq
 g7:PLq
def Cb5:List (Nat×Sum):=[(50,tc5)]
theorem vc2:j9 prog G Cb5:=⟨pd3,trivial⟩
structure L3 where
 ma7:LPq
 is9:Int
structure u3 where
 ph:Nat
 L9:Int
 g7:PLq
 ns5:Nat
 eh1:List (List d7)
def kb9(p:L3)(s:u3):St:=⟨.unk::.fn 50 [.ptr 0 0 0 0]::ra 3 (.v (.slice none 0 0)::.unk::.unk::eL tLq p.ma7::i p.is9::i s.L9::ra 14 []),[⟨0,1,[[eL tP s.g7]],true,false,0⟩]⟩
def lb0(p:L3)(s:u3):St:=⟨.unk::.fn 50 [.ptr 0 0 0 0]::ra 3 (.sl 1 0 s.ns5 0::.unk::.unk::eL tLq p.ma7::i p.is9::i s.L9::ra 14 []),[⟨0,1,[[eL tP s.g7]],true,false,0⟩,⟨35,1,s.eh1,true,false,0⟩]⟩
def oc6(p:L3)(s:u3):St:=(sel (Nat.beq s.ph 1) (lb0 p s) (kb9 p s))
def M9{α:Type}(k:u3->α)(e:Nat->α)(z:α)(p:L3)(s:u3):α:=let y1:=(rt tP s.g7);let y0:=(gL tLq p.ma7 s.L9.toNat);let t1:=(Qa3 ⟨s.L9,rt tP y0,y1⟩);(sl (decide (s.L9<p.is9)) (sl (inB s.L9 (List.length p.ma7)) (sl ((cnE tP y0)&&((cnE tP s.g7)&&true)) (sl (Nat.beq t1.alt 1) (sl t1.bs0 (k ⟨1,W (s.L9+1),y1,1,[[eL tP y0]]⟩) (k ⟨0,W (s.L9+1),y1,0,[]⟩)) z) z) z) (e 1))
def N0{α:Type}(k:u3->α)(e:Nat->α)(z:α)(p:L3)(s:u3):α:=let y1:=(rt tP s.g7);let y0:=(gL tLq p.ma7 s.L9.toNat);let t1:=(Qa3 ⟨s.L9,rt tP y0,y1⟩);(sl (decide (s.L9<p.is9)) (sl (inB s.L9 (List.length p.ma7)) (sl ((cnE tP y0)&&((cnE tP s.g7)&&true)) (sl (Nat.beq t1.alt 1) (sl t1.bs0 (sl (Nat.beq s.ns5 (len s.eh1)&&Nat.ble ((s.ns5+1)*24) room) (k ⟨1,W (s.L9+1),y1,s.ns5+1,app s.eh1 [[eL tP y0]]⟩) z) (k ⟨1,W (s.L9+1),y1,s.ns5,s.eh1⟩)) z) z) z) (e 2))
def ha0(p:L3)(s:u3):Stp u3:=(sel (Nat.beq s.ph 1) (N0 .next .exit .fail p s) (M9 .next .exit .fail p s))
def Sa7:Lo L3 u3:=⟨En Cb5,1,bg8,[1,1,0,1,4,4],[1,5,8,9,10],.p,[⟨sUq::.fn 50 [.o (.ptr 0 0 0 0)]::ru2 3 (.s (.o .nil)::sUq::sUq::sLq tLq::sIq::sIq::ru2 14 []),[⟨0,1,true,some [[.c 4 (nL tP)]]⟩],λa H=>(⟨aLq tLq a 8,aIq a 9⟩,⟨0,aIq a 10,hLq tP H 0 0 0,0,[]⟩)⟩,⟨sUq::.fn 50 [.o (.ptr 0 0 0 0)]::ru2 3 (.s (.o (.sl 1 0 (some 0) none))::sUq::sUq::sLq tLq::sIq::sIq::ru2 14 []),[⟨0,1,true,some [[.c 4 (nL tP)]]⟩,⟨35,1,true,none⟩],λa H=>(⟨aLq tLq a 8,aIq a 9⟩,⟨1,aIq a 10,hLq tP H 0 0 0,slN (slT a 5),elT H 1⟩)⟩],ha0,[(some 0,λp s=>upq (kb9 p s) [(11,b (decide (s.L9<p.is9)))]),(some 0,λp s=>upq (lb0 p s) [(11,b (decide (s.L9<p.is9)))])],oc6⟩
theorem oc7:Sa7.Ok:=Lo.ok [] (by kernel_rfl) .nil rfl (.cons (λa H=>by kernel_rfl) (.cons (λa H=>by kernel_rfl) .nil)) λp s=>(.sel (Nat.beq s.ph 1) (.of @N0 (λF _ _ _ _ _=>by unfold N0;(repeat' apply k8 (f:=F))<;>rfl) (by kernel_rfl)) (.of @M9 (λF _ _ _ _ _=>by unfold M9;(repeat' apply k8 (f:=F))<;>rfl) (by kernel_rfl)))
structure Fa3 where
 alt:Nat
 g7:PLq
 ns0:Nat
 eh1:List (List d7)
def ia5{α:Type}(kk:Fa3->α)(x:Fa2):α:=let t1:=(lp (ha0 (⟨rt tLq x.s9,(↑(List.length x.s9):Int)⟩:L3)) (⟨0,0,rt tP x.g7,0,[]⟩:u3));(sl ((cnE tLq x.s9)&&((cnE tP x.g7)&&true)) (sl (Nat.beq t1.1 1) (kk ⟨1,t1.2.g7,0,[]⟩) (sl (Nat.beq t1.1 2) (kk ⟨2,t1.2.g7,t1.2.ns5,t1.2.eh1⟩) (kk ⟨0,[],0,[]⟩))) (kk ⟨0,[],0,[]⟩))
def i8(x:Fa2):Fa3:=ia5 (λr=>r) x
def Ya4(x:Fa2)(r:Fa3):DT (d7×List d8):=(.ite (Nat.beq r.alt 1) (.ret (.v (.slice none 0 0),[⟨0,1,[[eL tP r.g7]],true,false,0⟩])) (.ite (Nat.beq r.alt 2) (.ret (.sl 1 0 r.ns0 0,[⟨0,1,[[eL tP r.g7]],true,false,0⟩,⟨35,1,r.eh1,true,false,0⟩])) .fail))
theorem Lc6{α β:Type}(F:α->β)(kk:Fa3->α)(x:Fa2):F (ia5 kk x)=ia5 (λr=>F (kk r)) x:=by unfold ia5;(repeat' apply k8 (f:=F))<;>rfl
def Hb6:Sum:=Sa0 ⟨[sLq tLq,.fn 50 [.o (.ptr 0 0 0 0)]],[⟨0,1,true,some [[.c 4 (nL tP)]]⟩],λa H=>(⟨aLq tLq a 0,hLq tP H 0 0 0⟩,())⟩ (λx=>Ya4 x (i8 x))
theorem Dc7:j6 prog G 49 Hb6:=I1 (enc:=λx=>⟨[eL tLq x.s9,.fn 50 [.ptr 0 0 0 0]],[⟨0,1,[[eL tP x.g7]],true,false,0⟩]⟩) (λa H=>by kernel_rfl) (bd b49 vc2) λx=>Ga2 (.s .p (.s .p (.s (.s .p (.b (.u Sa7.ls))) .p))) [Sa7.pr] (by kernel_rfl) (.cons oc7 .nil) (Qkad (b:=ia5 (λr=>(Ya4 x r).run) x) (by kernel_rfl) (Lc6 (λr=>(Ya4 x r).run) (λr=>r) x).symm)
def Dc8:List (Nat×Sum):=[(44,qb4),(46,qb7),(45,Gb5),(47,Hb5),(48,Rb1),(49,Hb6),(29,Cc5),(27,zb0)]
theorem zd5:j9 prog G Dc8:=⟨Gb6,hc6,gc9,Dc6,tc4,Dc7,yd4,Qb1,trivial⟩
structure Aa1 where
 (Ma9 jb3 F4:LPq)
 Wc2:Int
 (Ta7 P7:Nat)
 D6:LPq
structure Q6 where
 s7:Int
 (eh2 eh3:List (List d7))
def hc8(p:Aa1)(s:Q6):St:=⟨.unk::.unk::eL tLq p.Ma9::eL tLq p.jb3::ra 4 (.ptr 0 0 0 0::ra 3 (.ptr 1 0 0 0::ra 43 (eL tLq p.F4::i p.Wc2::i s.s7::ra 51 []))),[⟨0,3,[[.v (.slice none 0 0),.v (.slice none 0 0),.v (.slice none 0 0)]],true,false,0⟩,⟨0,0,[[.sl 2 0 p.Ta7 0,.sl 3 0 p.P7 0,eL tLq p.D6]],true,false,0⟩,⟨4,1,s.eh2,true,false,0⟩,⟨4,1,s.eh3,true,false,0⟩]⟩
def Ca5{α:Type}(k:Q6->α)(e:Nat->α)(z:α)(p:Aa1)(s:Q6):α:=let y7:=(inB s.s7 p.P7);let y5:=(W (s.s7+1));let y1:=(inB s.s7 p.Ta7);let a1:=(g8 s.eh3 (0+s.s7.toNat));let y0:=(setAt s.eh3 (0+s.s7.toNat) (L0 a1 0 [b true]));let a2:=(g8 s.eh2 (0+s.s7.toNat));let y10:=(toB (hdA (l4 a2 0)));let a0:=((Nat.blt (0+s.s7.toNat) (len s.eh2))&&(Nat.ble (0+1) (len a2)));let y6:=(a0&&(ra7 [CK.bool] (l4 a2 0)));let a3:=(gL tLq p.F4 s.s7.toNat);let t1:=(i8 ⟨rt tLq p.D6,rt tP a3⟩);let y14:=(Nat.beq t1.alt 2);let y13:=(Nat.beq t1.alt 1);let y4:=(rt tP t1.g7);let y11:=(xa3 [] y4);let y3:=(okE tP t1.g7);let t2:=(u9 [] y4);let y8:=(setAt s.eh2 (0+s.s7.toNat) (L0 a2 0 [b t2.1]));let t4:=(R7 (rt tP a3) (rt tLq p.Ma9));let t5:=(R7 (rt tP a3) (rt tLq p.jb3));let y2:=(setAt s.eh3 (0+s.s7.toNat) (L0 a1 0 [b (!t5)]));let a4:=((Nat.blt (0+s.s7.toNat) (len s.eh3))&&(Nat.ble (0+1) (len a1)));let a6:=(λk=>g8 t1.eh1 (0+k));let y12:=(okL tLq t1.ns0 a6);let t3:=(u9 (lsL tLq t1.ns0 a6) y4);let y9:=(setAt s.eh2 (0+s.s7.toNat) (L0 a2 0 [b t3.1]));let a5:=(xa3 (lsL tLq t1.ns0 a6) y4);let a7:=((cnE tLq p.D6)&&((cnE tP a3)&&true));let w0:α:=(sl y1 (sl a0 (k ⟨y5,y8,y0⟩) z) z);let w1:α:=(sl y1 (sl a0 (k ⟨y5,y9,y0⟩) z) z);(sl (decide (s.s7<p.Wc2)) (sl (inB s.s7 (List.length p.F4)) (sl y7 (sl (a4&&(ra7 [CK.bool] (l4 a1 0))) (sl (toB (hdA (l4 a1 0))) (sl y7 (sl a4 (sl y1 (sl y6 (sl y10 (k ⟨y5,s.eh2,y0⟩) (sl a7 (sl y13 (sl y3 (sl y11 (sl (t2.2 != 0) (e 1) w0) z) z) (sl y14 (sl y12 (sl y3 (sl a5 (sl (t3.2 != 0) (e 2) w1) z) z) z) z)) z)) z) z) z) z) (sl (okE tP a3) (sl (okE tLq p.Ma9) (sl (Ea3 (rt tP a3) (rt tLq p.Ma9)) (sl (!t4) (sl y7 (sl a4 (sl y1 (sl y6 (sl y10 (k ⟨y5,s.eh2,y0⟩) (sl a7 (sl y13 (sl y3 (sl y11 (sl (t2.2 != 0) (e 3) w0) z) z) (sl y14 (sl y12 (sl y3 (sl a5 (sl (t3.2 != 0) (e 4) w1) z) z) z) z)) z)) z) z) z) z) (sl (okE tP a3) (sl (okE tLq p.jb3) (sl (Ea3 (rt tP a3) (rt tLq p.jb3)) (sl y7 (sl a4 (sl y1 (sl y6 (sl y10 (k ⟨y5,s.eh2,y2⟩) (sl a7 (sl y13 (sl y3 (sl y11 (sl (t2.2 != 0) (e 5) (sl y1 (sl a0 (k ⟨y5,y8,y2⟩) z) z)) z) z) (sl y14 (sl y12 (sl y3 (sl a5 (sl (t3.2 != 0) (e 6) (sl y1 (sl a0 (k ⟨y5,y9,y2⟩) z) z)) z) z) z) z)) z)) z) z) z) z) z) z) z)) z) z) z)) z) z) z) (e 7))
def da2(p:Aa1)(s:Q6):Stp Q6:=Ca5 .next .exit .fail p s
def Gb7:Lo Aa1 Q6:=⟨En Dc8,0,kg3,[1,1,1,1,1,0,1,4,4],[2,3,8,12,56,57,58],.p,[⟨sUq::sUq::sLq tLq::sLq tLq::ru2 4 (sPq 0::ru2 3 (sPq 1::ru2 43 (sLq tLq::sIq::sIq::ru2 51 []))),[⟨0,3,true,some [[.o .nil,.o .nil,.o .nil]]⟩,⟨0,0,true,some [[.o (.sl 2 0 (some 0) none),.o (.sl 3 0 (some 0) none),.c 1 (nL tLq)]]⟩,⟨4,1,true,none⟩,⟨4,1,true,none⟩],λa H=>(⟨aLq tLq a 2,aLq tLq a 3,aLq tLq a 56,aIq a 57,slN (slT (rwT (elT H 1) 0) 0),slN (slT (rwT (elT H 1) 0) 1),hLq tLq H 1 0 2⟩,⟨aIq a 58,elT H 2,elT H 3⟩)⟩],da2,[(none,λp s=>let t1:=(i8 ⟨rt tLq p.D6,rt tP (gL tLq p.F4 s.s7.toNat)⟩);let t2:=(u9 [] (rt tP t1.g7));⟨.unk::.unk::eL tLq p.Ma9::eL tLq p.jb3::ra 4 (.ptr 0 0 0 0::i t2.2::.unk::.unk::.ptr 1 0 0 0::i s.s7::.ptr 4 0 0 0::.v (.slice none 0 0)::b t2.1::i t2.2::ra 38 (eL tLq p.F4::i p.Wc2::i s.s7::b (decide (s.s7<p.Wc2))::i s.s7::.tptr [eL tP (gL tLq p.F4 s.s7.toNat)]::eL tP (gL tLq p.F4 s.s7.toNat)::.ptr 1 0 1 0::.sl 3 0 p.P7 0::i s.s7::.ptr 1 0 1 0::.sl 3 0 p.P7 0::i s.s7::.ptr 3 (0+s.s7.toNat) 0 0::b (toB (hdA (l4 (g8 s.eh3 (0+s.s7.toNat)) 0)))::b true::u::u::u::u::b true::b true::u::u::u::u::b true::.ptr 3 (0+s.s7.toNat) 0 0::.ptr 1 0 0 0::.sl 2 0 p.Ta7 0::i s.s7::.ptr 2 (0+s.s7.toNat) 0 0::b (toB (hdA (l4 (g8 s.eh2 (0+s.s7.toNat)) 0)))::.ptr 1 0 2 0::eL tLq p.D6::.fn 50 [.ptr 4 0 0 0]::.v (.slice none 0 0)::.tup [b t2.1,i t2.2]::.v (.slice none 0 0)::eL tP t1.g7::.tup [b t2.1,i t2.2]::b t2.1::i t2.2::i t2.2::b (t2.2 != 0)::.agg [.v (.slice none 0 0),.v (.slice none 0 0),.v (.slice none 0 0)]::i t2.2::ra 7 [])),[⟨0,3,[[.v (.slice none 0 0),.v (.slice none 0 0),.v (.slice none 0 0)]],true,false,0⟩,⟨0,0,[[.sl 2 0 p.Ta7 0,.sl 3 0 p.P7 0,eL tLq p.D6]],true,false,0⟩,⟨4,1,s.eh2,true,false,0⟩,⟨4,1,setAt s.eh3 (0+s.s7.toNat) (L0 (g8 s.eh3 (0+s.s7.toNat)) 0 [b true]),true,false,0⟩,⟨0,1,[[eL tP t1.g7]],true,false,0⟩]⟩),(none,λp s=>let t1:=(i8 ⟨rt tLq p.D6,rt tP (gL tLq p.F4 s.s7.toNat)⟩);let t3:=(u9 (lsL tLq t1.ns0 (λk=>g8 t1.eh1 (0+k))) (rt tP t1.g7));⟨.unk::.unk::eL tLq p.Ma9::eL tLq p.jb3::ra 4 (.ptr 0 0 0 0::i t3.2::.unk::.unk::.ptr 1 0 0 0::i s.s7::.ptr 4 0 0 0::.sl 5 0 t1.ns0 0::b t3.1::i t3.2::ra 38 (eL tLq p.F4::i p.Wc2::i s.s7::b (decide (s.s7<p.Wc2))::i s.s7::.tptr [eL tP (gL tLq p.F4 s.s7.toNat)]::eL tP (gL tLq p.F4 s.s7.toNat)::.ptr 1 0 1 0::.sl 3 0 p.P7 0::i s.s7::.ptr 1 0 1 0::.sl 3 0 p.P7 0::i s.s7::.ptr 3 (0+s.s7.toNat) 0 0::b (toB (hdA (l4 (g8 s.eh3 (0+s.s7.toNat)) 0)))::b true::u::u::u::u::b true::b true::u::u::u::u::b true::.ptr 3 (0+s.s7.toNat) 0 0::.ptr 1 0 0 0::.sl 2 0 p.Ta7 0::i s.s7::.ptr 2 (0+s.s7.toNat) 0 0::b (toB (hdA (l4 (g8 s.eh2 (0+s.s7.toNat)) 0)))::.ptr 1 0 2 0::eL tLq p.D6::.fn 50 [.ptr 4 0 0 0]::.sl 5 0 t1.ns0 0::.tup [b t3.1,i t3.2]::.sl 5 0 t1.ns0 0::eL tP t1.g7::.tup [b t3.1,i t3.2]::b t3.1::i t3.2::i t3.2::b (t3.2 != 0)::.agg [.v (.slice none 0 0),.v (.slice none 0 0),.v (.slice none 0 0)]::i t3.2::ra 7 [])),[⟨0,3,[[.v (.slice none 0 0),.v (.slice none 0 0),.v (.slice none 0 0)]],true,false,0⟩,⟨0,0,[[.sl 2 0 p.Ta7 0,.sl 3 0 p.P7 0,eL tLq p.D6]],true,false,0⟩,⟨4,1,s.eh2,true,false,0⟩,⟨4,1,setAt s.eh3 (0+s.s7.toNat) (L0 (g8 s.eh3 (0+s.s7.toNat)) 0 [b true]),true,false,0⟩,⟨0,1,[[eL tP t1.g7]],true,false,0⟩,⟨35,1,t1.eh1,true,false,0⟩]⟩),(none,λp s=>let t1:=(i8 ⟨rt tLq p.D6,rt tP (gL tLq p.F4 s.s7.toNat)⟩);let t2:=(u9 [] (rt tP t1.g7));let t4:=(R7 (rt tP (gL tLq p.F4 s.s7.toNat)) (rt tLq p.Ma9));⟨.unk::.unk::eL tLq p.Ma9::eL tLq p.jb3::ra 4 (.ptr 0 0 0 0::i t2.2::.unk::.unk::.ptr 1 0 0 0::i s.s7::.ptr 4 0 0 0::.v (.slice none 0 0)::b t2.1::i t2.2::ra 38 (eL tLq p.F4::i p.Wc2::i s.s7::b (decide (s.s7<p.Wc2))::i s.s7::.tptr [eL tP (gL tLq p.F4 s.s7.toNat)]::eL tP (gL tLq p.F4 s.s7.toNat)::.ptr 1 0 1 0::.sl 3 0 p.P7 0::i s.s7::.ptr 1 0 1 0::.sl 3 0 p.P7 0::i s.s7::.ptr 3 (0+s.s7.toNat) 0 0::b (toB (hdA (l4 (g8 s.eh3 (0+s.s7.toNat)) 0)))::b false::eL tP (gL tLq p.F4 s.s7.toNat)::eL tLq p.Ma9::b t4::b (!t4)::b (!t4)::b true::u::u::u::u::b true::.ptr 3 (0+s.s7.toNat) 0 0::.ptr 1 0 0 0::.sl 2 0 p.Ta7 0::i s.s7::.ptr 2 (0+s.s7.toNat) 0 0::b (toB (hdA (l4 (g8 s.eh2 (0+s.s7.toNat)) 0)))::.ptr 1 0 2 0::eL tLq p.D6::.fn 50 [.ptr 4 0 0 0]::.v (.slice none 0 0)::.tup [b t2.1,i t2.2]::.v (.slice none 0 0)::eL tP t1.g7::.tup [b t2.1,i t2.2]::b t2.1::i t2.2::i t2.2::b (t2.2 != 0)::.agg [.v (.slice none 0 0),.v (.slice none 0 0),.v (.slice none 0 0)]::i t2.2::ra 7 [])),[⟨0,3,[[.v (.slice none 0 0),.v (.slice none 0 0),.v (.slice none 0 0)]],true,false,0⟩,⟨0,0,[[.sl 2 0 p.Ta7 0,.sl 3 0 p.P7 0,eL tLq p.D6]],true,false,0⟩,⟨4,1,s.eh2,true,false,0⟩,⟨4,1,setAt s.eh3 (0+s.s7.toNat) (L0 (g8 s.eh3 (0+s.s7.toNat)) 0 [b true]),true,false,0⟩,⟨0,1,[[eL tP t1.g7]],true,false,0⟩]⟩),(none,λp s=>let t1:=(i8 ⟨rt tLq p.D6,rt tP (gL tLq p.F4 s.s7.toNat)⟩);let t3:=(u9 (lsL tLq t1.ns0 (λk=>g8 t1.eh1 (0+k))) (rt tP t1.g7));let t4:=(R7 (rt tP (gL tLq p.F4 s.s7.toNat)) (rt tLq p.Ma9));⟨.unk::.unk::eL tLq p.Ma9::eL tLq p.jb3::ra 4 (.ptr 0 0 0 0::i t3.2::.unk::.unk::.ptr 1 0 0 0::i s.s7::.ptr 4 0 0 0::.sl 5 0 t1.ns0 0::b t3.1::i t3.2::ra 38 (eL tLq p.F4::i p.Wc2::i s.s7::b (decide (s.s7<p.Wc2))::i s.s7::.tptr [eL tP (gL tLq p.F4 s.s7.toNat)]::eL tP (gL tLq p.F4 s.s7.toNat)::.ptr 1 0 1 0::.sl 3 0 p.P7 0::i s.s7::.ptr 1 0 1 0::.sl 3 0 p.P7 0::i s.s7::.ptr 3 (0+s.s7.toNat) 0 0::b (toB (hdA (l4 (g8 s.eh3 (0+s.s7.toNat)) 0)))::b false::eL tP (gL tLq p.F4 s.s7.toNat)::eL tLq p.Ma9::b t4::b (!t4)::b (!t4)::b true::u::u::u::u::b true::.ptr 3 (0+s.s7.toNat) 0 0::.ptr 1 0 0 0::.sl 2 0 p.Ta7 0::i s.s7::.ptr 2 (0+s.s7.toNat) 0 0::b (toB (hdA (l4 (g8 s.eh2 (0+s.s7.toNat)) 0)))::.ptr 1 0 2 0::eL tLq p.D6::.fn 50 [.ptr 4 0 0 0]::.sl 5 0 t1.ns0 0::.tup [b t3.1,i t3.2]::.sl 5 0 t1.ns0 0::eL tP t1.g7::.tup [b t3.1,i t3.2]::b t3.1::i t3.2::i t3.2::b (t3.2 != 0)::.agg [.v (.slice none 0 0),.v (.slice none 0 0),.v (.slice none 0 0)]::i t3.2::ra 7 [])),[⟨0,3,[[.v (.slice none 0 0),.v (.slice none 0 0),.v (.slice none 0 0)]],true,false,0⟩,⟨0,0,[[.sl 2 0 p.Ta7 0,.sl 3 0 p.P7 0,eL tLq p.D6]],true,false,0⟩,⟨4,1,s.eh2,true,false,0⟩,⟨4,1,setAt s.eh3 (0+s.s7.toNat) (L0 (g8 s.eh3 (0+s.s7.toNat)) 0 [b true]),true,false,0⟩,⟨0,1,[[eL tP t1.g7]],true,false,0⟩,⟨35,1,t1.eh1,true,false,0⟩]⟩),(none,λp s=>let t1:=(i8 ⟨rt tLq p.D6,rt tP (gL tLq p.F4 s.s7.toNat)⟩);let t2:=(u9 [] (rt tP t1.g7));let t4:=(R7 (rt tP (gL tLq p.F4 s.s7.toNat)) (rt tLq p.Ma9));let t5:=(R7 (rt tP (gL tLq p.F4 s.s7.toNat)) (rt tLq p.jb3));⟨.unk::.unk::eL tLq p.Ma9::eL tLq p.jb3::ra 4 (.ptr 0 0 0 0::i t2.2::.unk::.unk::.ptr 1 0 0 0::i s.s7::.ptr 4 0 0 0::.v (.slice none 0 0)::b t2.1::i t2.2::ra 38 (eL tLq p.F4::i p.Wc2::i s.s7::b (decide (s.s7<p.Wc2))::i s.s7::.tptr [eL tP (gL tLq p.F4 s.s7.toNat)]::eL tP (gL tLq p.F4 s.s7.toNat)::.ptr 1 0 1 0::.sl 3 0 p.P7 0::i s.s7::.ptr 1 0 1 0::.sl 3 0 p.P7 0::i s.s7::.ptr 3 (0+s.s7.toNat) 0 0::b (toB (hdA (l4 (g8 s.eh3 (0+s.s7.toNat)) 0)))::b false::eL tP (gL tLq p.F4 s.s7.toNat)::eL tLq p.Ma9::b t4::b (!t4)::b (!t4)::b false::eL tP (gL tLq p.F4 s.s7.toNat)::eL tLq p.jb3::b t5::b (!t5)::b (!t5)::.ptr 3 (0+s.s7.toNat) 0 0::.ptr 1 0 0 0::.sl 2 0 p.Ta7 0::i s.s7::.ptr 2 (0+s.s7.toNat) 0 0::b (toB (hdA (l4 (g8 s.eh2 (0+s.s7.toNat)) 0)))::.ptr 1 0 2 0::eL tLq p.D6::.fn 50 [.ptr 4 0 0 0]::.v (.slice none 0 0)::.tup [b t2.1,i t2.2]::.v (.slice none 0 0)::eL tP t1.g7::.tup [b t2.1,i t2.2]::b t2.1::i t2.2::i t2.2::b (t2.2 != 0)::.agg [.v (.slice none 0 0),.v (.slice none 0 0),.v (.slice none 0 0)]::i t2.2::ra 7 [])),[⟨0,3,[[.v (.slice none 0 0),.v (.slice none 0 0),.v (.slice none 0 0)]],true,false,0⟩,⟨0,0,[[.sl 2 0 p.Ta7 0,.sl 3 0 p.P7 0,eL tLq p.D6]],true,false,0⟩,⟨4,1,s.eh2,true,false,0⟩,⟨4,1,setAt s.eh3 (0+s.s7.toNat) (L0 (g8 s.eh3 (0+s.s7.toNat)) 0 [b (!t5)]),true,false,0⟩,⟨0,1,[[eL tP t1.g7]],true,false,0⟩]⟩),(none,λp s=>let t1:=(i8 ⟨rt tLq p.D6,rt tP (gL tLq p.F4 s.s7.toNat)⟩);let t3:=(u9 (lsL tLq t1.ns0 (λk=>g8 t1.eh1 (0+k))) (rt tP t1.g7));let t4:=(R7 (rt tP (gL tLq p.F4 s.s7.toNat)) (rt tLq p.Ma9));let t5:=(R7 (rt tP (gL tLq p.F4 s.s7.toNat)) (rt tLq p.jb3));⟨.unk::.unk::eL tLq p.Ma9::eL tLq p.jb3::ra 4 (.ptr 0 0 0 0::i t3.2::.unk::.unk::.ptr 1 0 0 0::i s.s7::.ptr 4 0 0 0::.sl 5 0 t1.ns0 0::b t3.1::i t3.2::ra 38 (eL tLq p.F4::i p.Wc2::i s.s7::b (decide (s.s7<p.Wc2))::i s.s7::.tptr [eL tP (gL tLq p.F4 s.s7.toNat)]::eL tP (gL tLq p.F4 s.s7.toNat)::.ptr 1 0 1 0::.sl 3 0 p.P7 0::i s.s7::.ptr 1 0 1 0::.sl 3 0 p.P7 0::i s.s7::.ptr 3 (0+s.s7.toNat) 0 0::b (toB (hdA (l4 (g8 s.eh3 (0+s.s7.toNat)) 0)))::b false::eL tP (gL tLq p.F4 s.s7.toNat)::eL tLq p.Ma9::b t4::b (!t4)::b (!t4)::b false::eL tP (gL tLq p.F4 s.s7.toNat)::eL tLq p.jb3::b t5::b (!t5)::b (!t5)::.ptr 3 (0+s.s7.toNat) 0 0::.ptr 1 0 0 0::.sl 2 0 p.Ta7 0::i s.s7::.ptr 2 (0+s.s7.toNat) 0 0::b (toB (hdA (l4 (g8 s.eh2 (0+s.s7.toNat)) 0)))::.ptr 1 0 2 0::eL tLq p.D6::.fn 50 [.ptr 4 0 0 0]::.sl 5 0 t1.ns0 0::.tup [b t3.1,i t3.2]::.sl 5 0 t1.ns0 0::eL tP t1.g7::.tup [b t3.1,i t3.2]::b t3.1::i t3.2::i t3.2::b (t3.2 != 0)::.agg [.v (.slice none 0 0),.v (.slice none 0 0),.v (.slice none 0 0)]::i t3.2::ra 7 [])),[⟨0,3,[[.v (.slice none 0 0),.v (.slice none 0 0),.v (.slice none 0 0)]],true,false,0⟩,⟨0,0,[[.sl 2 0 p.Ta7 0,.sl 3 0 p.P7 0,eL tLq p.D6]],true,false,0⟩,⟨4,1,s.eh2,true,false,0⟩,⟨4,1,setAt s.eh3 (0+s.s7.toNat) (L0 (g8 s.eh3 (0+s.s7.toNat)) 0 [b (!t5)]),true,false,0⟩,⟨0,1,[[eL tP t1.g7]],true,false,0⟩,⟨35,1,t1.eh1,true,false,0⟩]⟩),(some 0,λp s=>upq (hc8 p s) [(59,b (decide (s.s7<p.Wc2)))])],hc8⟩
theorem pd4:Gb7.OkM:=Lo.okM [] (by kernel_rfl) .nil rfl (.cons (λa H=>by kernel_rfl) .nil) λp s=>(.of @Ca5 (λF _ _ _ _ _=>by unfold Ca5;(repeat' apply k8 (f:=F))<;>rfl) (by kernel_rfl))
def gb0(x:Prt)(y:Pce)(z:LPq)(w:LPq):ROq:=let y9:=((okE tLq y.cu)&&((okE tLq z)&&true));let y8:=(⟨x.nm,rt tLq x.cl,rt tI x.wt⟩:Prt);let y7:=(⟨rt tB y.su,rt tB y.to,rt tLq y.cu⟩:Pce);let y4:=(.tup [.agg [.v (.slice none 0 0),.v (.slice none 0 0),.v (.slice none 0 0)],i 2],[]);let t1:=(Ha9 y8 y7);let t2:=(X2 [rt tLq z,rt tLq w]);let t3:=(ra3 []);let t4:=(sa4 (rt tB y.su));let t5:=(sa4 (rt tB y.to));let y10:=(⟨0,t4.eh0,t5.eh0⟩:Q6);let t6:=(X2 [rt tLq y.cu,rt tLq z]);let t7:=(pa4 []);let y6:=((cnE tLq z)&&((cnE tLq w)&&((cnE tLq x.cl)&&((cnE tLq t7)&&true))));let t8:=(lp (da2 (⟨rt tLq z,rt tLq w,rt tLq x.cl,(↑(List.length x.cl):Int),t4.ns0,t5.ns0,rt tLq t7⟩:Aa1)) y10);let t9:=(i8 ⟨rt tLq (rt tLq t7),rt tP (gL tLq (rt tLq x.cl) t8.2.s7.toNat)⟩);let t10:=(u9 [] (rt tP t9.g7));let y0:=(.tup [.agg [.v (.slice none 0 0),.v (.slice none 0 0),.v (.slice none 0 0)],i t10.2],[]);let t11:=(u9 (lsL tLq t9.ns0 (λk=>g8 t9.eh1 (0+k))) (rt tP t9.g7));let y1:=(.tup [.agg [.v (.slice none 0 0),.v (.slice none 0 0),.v (.slice none 0 0)],i t11.2],[]);let t21:=(ra3 (lsL tLq t2.ns0 (λk=>g8 t2.eh0 (0+k))));let a0:=(λk=>g8 t6.eh0 (0+k));let y11:=(ga9 (lsL tLq t6.ns0 a0));let t14:=(pa4 (lsL tLq t6.ns0 a0));let y5:=((cnE tLq z)&&((cnE tLq w)&&((cnE tLq x.cl)&&((cnE tLq t14)&&true))));let t15:=(lp (da2 (⟨rt tLq z,rt tLq w,rt tLq x.cl,(↑(List.length x.cl):Int),t4.ns0,t5.ns0,rt tLq t14⟩:Aa1)) y10);let t16:=(i8 ⟨rt tLq (rt tLq t14),rt tP (gL tLq (rt tLq x.cl) t15.2.s7.toNat)⟩);let t17:=(u9 [] (rt tP t16.g7));let y2:=(.tup [.agg [.v (.slice none 0 0),.v (.slice none 0 0),.v (.slice none 0 0)],i t17.2],[]);let t18:=(u9 (lsL tLq t16.ns0 (λk=>g8 t16.eh1 (0+k))) (rt tP t16.g7));let y3:=(.tup [.agg [.v (.slice none 0 0),.v (.slice none 0 0),.v (.slice none 0 0)],i t18.2],[]);(sl ((okE tLq x.cl)&&((okE tI x.wt)&&true)) (sl ((okE tB y.su)&&((okE tB y.to)&&((okE tLq y.cu)&&true))) (sl (Ia0 y8 y7) (sl (t1 != 0) (some (.tup [.agg [.v (.slice none 0 0),.v (.slice none 0 0),.v (.slice none 0 0)],i t1],[])) (sl ((okE tLq z)&&((okE tLq w)&&true)) (sl (Nat.beq t2.alt 1) (sl (ra4 []) (sl (t3 != 0) (some (.tup [.agg [.v (.slice none 0 0),.v (.slice none 0 0),.v (.slice none 0 0)],i t3],[])) (sl (decide ((W ((↑(List.length y.cu):Int)+(↑(List.length z):Int)))>24)) (some y4) (sl (okE tB y.su) (sl (Nat.beq t4.alt 1) (sl (okE tB y.to) (sl (Nat.beq t5.alt 1) (sl y9 (sl (Nat.beq t6.alt 1) (sl (ga9 []) (sl y6 (sl (Nat.beq t8.1 1) (some y0) (sl (Nat.beq t8.1 2) (some y1) (sl (Nat.beq t8.1 3) (some y0) (sl (Nat.beq t8.1 4) (some y1) (sl (Nat.beq t8.1 5) (some y0) (sl (Nat.beq t8.1 6) (some y1) (sl (Nat.beq t8.1 7) (some ((.tup [(.agg [(.tree 1 t4.ns0 (λk=>g8 t8.2.eh2 (0+k))),(.tree 1 t5.ns0 (λk=>g8 t8.2.eh3 (0+k))),eL tLq (rt tLq t7)]),i 0]),[])) none))))))) none) none) (sl (Nat.beq t6.alt 2) (sl (okL tLq t6.ns0 a0) (sl y11 (sl y5 (sl (Nat.beq t15.1 1) (some y2) (sl (Nat.beq t15.1 2) (some y3) (sl (Nat.beq t15.1 3) (some y2) (sl (Nat.beq t15.1 4) (some y3) (sl (Nat.beq t15.1 5) (some y2) (sl (Nat.beq t15.1 6) (some y3) (sl (Nat.beq t15.1 7) (some ((.tup [(.agg [(.tree 1 t4.ns0 (λk=>g8 t15.2.eh2 (0+k))),(.tree 1 t5.ns0 (λk=>g8 t15.2.eh3 (0+k))),eL tLq (rt tLq t14)]),i 0]),[])) none))))))) none) none) none) none)) none) none) none) none) none))) none) (sl (Nat.beq t2.alt 2) (sl (okL tLq t2.ns0 (λk=>g8 t2.eh0 (0+k))) (sl (ra4 (lsL tLq t2.ns0 (λk=>g8 t2.eh0 (0+k)))) (sl (t21 != 0) (some (.tup [.agg [.v (.slice none 0 0),.v (.slice none 0 0),.v (.slice none 0 0)],i t21],[])) (sl (decide ((W ((↑(List.length y.cu):Int)+(↑(List.length z):Int)))>24)) (some y4) (sl (okE tB y.su) (sl (Nat.beq t4.alt 1) (sl (okE tB y.to) (sl (Nat.beq t5.alt 1) (sl y9 (sl (Nat.beq t6.alt 1) (sl (ga9 []) (sl y6 (sl (Nat.beq t8.1 1) (some y0) (sl (Nat.beq t8.1 2) (some y1) (sl (Nat.beq t8.1 3) (some y0) (sl (Nat.beq t8.1 4) (some y1) (sl (Nat.beq t8.1 5) (some y0) (sl (Nat.beq t8.1 6) (some y1) (sl (Nat.beq t8.1 7) (some ((.tup [(.agg [(.tree 1 t4.ns0 (λk=>g8 t8.2.eh2 (0+k))),(.tree 1 t5.ns0 (λk=>g8 t8.2.eh3 (0+k))),eL tLq (rt tLq t7)]),i 0]),[])) none))))))) none) none) (sl (Nat.beq t6.alt 2) (sl (okL tLq t6.ns0 a0) (sl y11 (sl y5 (sl (Nat.beq t15.1 1) (some y2) (sl (Nat.beq t15.1 2) (some y3) (sl (Nat.beq t15.1 3) (some y2) (sl (Nat.beq t15.1 4) (some y3) (sl (Nat.beq t15.1 5) (some y2) (sl (Nat.beq t15.1 6) (some y3) (sl (Nat.beq t15.1 7) (some ((.tup [(.agg [(.tree 1 t4.ns0 (λk=>g8 t15.2.eh2 (0+k))),(.tree 1 t5.ns0 (λk=>g8 t15.2.eh3 (0+k))),eL tLq (rt tLq t14)]),i 0]),[])) none))))))) none) none) none) none)) none) none) none) none) none))) none) none) none)) none)) none) none) none)
def Ra4(x:Prt)(y:Pce)(z:LPq)(w:LPq):Pce×Int:=V2 (two r1O r1I) (gb0 x y z w)
def Ra5(x:Prt)(y:Pce)(z:LPq)(w:LPq):Bool:=okO (two r1O r1I) (gb0 x y z w)
def Pc5:Sum:=hf5 cJ cO (na2 tLq) (na2 tLq) (λx y z w=>.guard (Ra5 x y z w) (.ret ((two r1O r1I).enc (Ra4 x y z w),[])))
theorem Pd6:j6 prog G 19 Pc5:=qg7 (bd b19 zd5) (two r1O r1I) (o:=gb0) λx y z w=>sd1 (.s .p (.s .p (.s .p (.s .p (.s .p (.s (.s .p (.b (.u Gb7.lsM))) .p)))))) [Gb7.prM] (by kernel_rfl) (.cons pd4 .nil) (by kernel_rfl)
theorem Te2{l:List LPq}{j:Nat}(h:j<l.length):gL tMq l j=l[j]:=fb0 tMq h
theorem mf7(ls:List LPq)(hn:ls.length<=1000000000)(hl:ls.flatten.length<=1000000000):∃m,lp (P3 ⟨ls,ls,(ls.length:Int)⟩) ⟨0,0⟩=(1,⟨(ls.flatten.length:Int),m⟩):=by
 have h:=Pa0 (step:=P3 ⟨ls,ls,(ls.length:Int)⟩) (mk:=λj (n:Nat)=>(⟨(n:Int),(j:Int)⟩:D1)) (f:=λl _ n=>n+l.length) (g:=λl n=>n+l.flatten.length) (fin:=λ_=>1) ls
  (λj n=>n+(ls.drop j).flatten.length=ls.flatten.length) hn (λ_=>rfl) (λx r a=>by simp only[List.flatten_cons,Qkc];omega)
  (λj n hj hi=>by
   rw[Qkab hj,List.flatten_cons,Qkc] at hi;have hW:W ((n:Int)+(ls[j].length:Int))=((n+ls[j].length:Nat):Int):=by rw[La6 (by omega) (by omega)];omega
   refine⟨?_,by show n+ls[j].length+(ls.drop (j+1)).flatten.length=_;omega⟩
   simp only[P3,U9,Int.toNat_natCast,Te2 hj,hW,u7 hj (by omega)]
   rw[btD (o6 hj),bt (i9 hj),bfD (by omega)])
  (λj n hj _=>by
   simp only[P3,U9];rw[bfD (by omega)]) 0 0 (by simp)
 have h:=h.1;rw[Qki,Qkf] at h;exact⟨_,h⟩
theorem mf8{ls:List LPq}(h:ls.flatten=[]){j:Nat}(hj:j<ls.length):ls[j]=[]:=by
 rw[List.flatten_eq_nil_iff] at h;exact h _ (List.getElem_mem hj)
theorem Df7(ls:List LPq)(hn:ls.length<=1000000000)(hl:ls.flatten=[]):∃s,lp (J4 ⟨ls,(ls.length:Int)⟩) ⟨0,0,0,[]⟩=(1,s):=by
 have h:=Pa0 (step:=J4 ⟨ls,(ls.length:Int)⟩) (mk:=λj (_:Unit)=>(⟨0,(j:Int),0,[]⟩:p8)) (f:=λ_ _ n=>n) (g:=λ_ n=>n) (fin:=λ_=>1) ls
  (λ_ _=>True) hn (λ_=>rfl) (λx r a=>rfl)
  (λj n hj hi=>by
   refine⟨?_,trivial⟩;show G8 Stp.next Stp.exit Stp.fail _ _=_;simp only[G8,Int.toNat_natCast,Te2 hj,mf8 hl hj,u7 hj (by omega)]
   rw[btD (o6 hj),bt (i9 hj)]
   rfl)
  (λj n hj _=>by
   show G8 Stp.next Stp.exit Stp.fail _ _=_;simp only[G8];rw[bfD (by omega)]) 0 () trivial
 exact⟨_,h.1⟩
def parts(t:Nat)(d:LPq):List (List d7):=app (bL tLq d) (List.replicate (t-d.length) fd3)
theorem mf9(t:Nat)(d:LPq)(h:d.length<=t):len (parts t d)=t:=by
 unfold parts;rw[G6,p9,Qkc,<- p9,M2,Qkai];omega
theorem nf0(t:Nat)(d l:LPq)(h:d.length+l.length<=t):app (H9 (parts t d) d.length) (app (bL tLq l) (l4 (parts t d) (d.length+len (bL tLq l))))=parts t (d++l):=by
 have hd:(bL tLq d).length=d.length:=by rw[<- p9,M2]
 unfold parts;rw[M2,<- Ka2];simp only[G6,G3,G4];rw[List.take_left' hd,List.append_assoc];congr 2;rw[List.drop_append,List.drop_eq_nil_of_le (by omega),List.nil_append,hd,List.drop_replicate,Qkc]
 congr 1;omega
theorem Df8(c:LPq):o9 (λk=>tLq.row (gL tLq c k)) (List.range c.length)=bL tLq c:=by
 unfold bL;rw[n9,n9];refine Qkl (by simp) λk h1 h2=>?_
 have hk:k<c.length:=by simpa using h2
 simp[gL,Qkb,Qkd hk]
theorem nf1(ls:List LPq)(hn:ls.length<=1000000000):∃m,lp (J4 ⟨ls,(ls.length:Int)⟩) ⟨1,0,0,List.replicate ls.flatten.length fd3⟩=(2,⟨1,m,ls.flatten.length,bL tLq ls.flatten⟩):=by
 have h:=Pa0 (step:=J4 ⟨ls,(ls.length:Int)⟩) (mk:=λj (d:LPq)=>(⟨1,(j:Int),d.length,parts ls.flatten.length d⟩:p8)) (f:=λl _ d=>d++l) (g:=λl d=>d++l.flatten) (fin:=λ_=>2) ls
  (λj d=>d.length+(ls.drop j).flatten.length=ls.flatten.length) hn (λ_=>by simp) (λx r a=>by simp)
  (λj d hj hi=>by
   rw[Qkab hj,List.flatten_cons,Qkc] at hi;refine⟨?_,by show (d++ls[j]).length+(ls.drop (j+1)).flatten.length=_;rw[Qkc];omega⟩
   show G9 Stp.next Stp.exit Stp.fail _ _=_;simp only[G9,Int.toNat_natCast,Te2 hj,u7 hj (by omega),Df8]
   rw[nf0 _ _ _ (by omega),mf9 _ _ (by omega),M2,btD (o6 hj),bt (i9 hj),bt (by rw[Qkj];omega),Qkc])
  (λj d hj _=>by
   show G9 Stp.next Stp.exit Stp.fail _ _=_;simp only[G9];rw[bfD (by omega)]) 0 [] (by simp)
 have h:=h.1;rw[Qki,List.nil_append] at h;have e:parts ls.flatten.length ls.flatten=bL tLq ls.flatten:=by unfold parts;rw[Nat.sub_self,G6];simp
 rw[e] at h;exact⟨_,h⟩
theorem Te3(ls:List LPq)(hn:ls.length<=1000000000)(hl:ls.flatten.length<=1000000000):X2 ls=if ls.flatten=[] then ⟨1,0,[]⟩ else ⟨2,ls.flatten.length,bL tLq ls.flatten⟩:=by
 unfold X2 X1;simp only[j8,l8];obtain⟨m,hm⟩:=mf7 ls hn hl;rw[hm];by_cases h0:ls.flatten=[]
 ·obtain⟨s,hs⟩:=Df7 ls hn h0;rw[if_pos h0,hs];rw[show (⟨(ls.flatten.length:Int),m⟩:D1)=⟨0,m⟩ by rw[h0];rfl]
  rfl
 ·obtain⟨m',hm'⟩:=nf1 ls hn;rw[if_neg h0];simp only[Int.toNat_natCast];rw[hm'];have h1:0<ls.flatten.length:=List.length_pos_iff.2 h0;have e1:((ls.flatten.length:Int)==0)=false:=by rw[beq_eq_false_iff_ne];omega
  have e2:Bool.and (decide ((0:Int)<(ls.flatten.length:Int))) (Nat.ble (ls.flatten.length*24) room)=true:=by
   rw[decide_eq_true (by omega),show Nat.ble (ls.flatten.length*24) room=true by rw[Qkj];unfold room;omega]
   rfl
  rw[e1,e2];rfl
theorem He9(a c:LPq)(ha:a.length<=1000000)(hc:c.length<=1000000):X2 [a,c]=if a++c=[] then ⟨1,0,[]⟩ else ⟨2,(a++c).length,bL tLq (a++c)⟩:=by
 have e:[a,c].flatten=a++c:=by simp
 rw[Te3 [a,c] (by simp) (by rw[e,Qkc];omega),e]
theorem Sf0(c:List Bool):o9 (λk=>tB.row (gL tB c k)) (List.range c.length)=bL tB c:=by
 unfold bL;rw[n9,n9];refine Qkl (by simp) λk h1 h2=>?_
 have hk:k<c.length:=by simpa using h2
 simp[gL,Qkb,Qkd hk]
theorem fd7{α:Type}(l:List α):app [] l=l:=by rw[G6];rfl
theorem Ie0{α:Type}{l:List α}(h:l≠[]):Nat.beq l.length 0=false:=by cases l with | nil=>exact absurd rfl h | cons=>rfl
theorem fe1(c:List Bool)(h0:c≠[])(h:c.length<=1000000):sa4 c=⟨1,c.length,bL tB c⟩:=by
 unfold sa4 ia4;simp only[Sf0,M2,Qkf,Ie0 h0,fd7,show Nat.ble (c.length*1) room=true by rw[Qkj];unfold room;omega]
 rfl
theorem fe2(c:PLq)(h0:c≠[])(h:c.length<=1000000):ma2 c=⟨1,c.length,bL tP c⟩:=by
 unfold ma2 Z1;simp only[Pd5,M2,Qkf,Ie0 h0,fd7,show Nat.ble (c.length*32) room=true by rw[Qkj];unfold room;omega]
 rfl
theorem Pd7(c:PLq):d7.tree 4 c.length (λk=>g8 (bL tP c) (0+k))=cpA c:=by
 unfold cpA;congr 1;funext k;rw[Qkf]
theorem Ie1(l:LPq)(hl:l.length<=1000000)(hp:∀q∈l,q.length<=1000000)(h0:∀q∈l,q≠[]) :
  ∃t s,lp (qa2 ⟨l,(l.length:Int)⟩) ⟨0,0,0,[]⟩=(t,s)/\RCp l s.ph s.is8 s.ns3 s.eh0 l.length/\t=phL l+1:=by
 refine Fa0 (step:=qa2 ⟨l,(l.length:Int)⟩) (mk:=λ_ (s:K1)=>s) l.length (λj s=>RCp l s.ph s.is8 s.ns3 s.eh0 j) (λt s=>RCp l s.ph s.is8 s.ns3 s.eh0 l.length/\t=phL l+1) (by omega)
  (λj s hj hi=>?_) (λj s hj hi=>?_) 0 _ ⟨Qkg _,rfl,rfl,rfl,rfl⟩
 ·obtain⟨_,h2,h3,h4,h5⟩:=hi;obtain⟨ph,is4,ns3,eh0⟩:=s
  simp only at h2 h3 h4 h5
  subst h2 h3 h4 h5;have hq:=hp _ (X7 tLq hj);have hq0:=h0 _ (X7 tLq hj);have hw1:W ((j:Int)+1)=((j+1:Nat):Int):=u7 hj (by omega)
  have hgx:inB (j:Int) l.length=true:=i9 hj;have htl:(l.take j).length<=l.length:=by rw[Qkp];omega
  have hm:l.take (j+1)=l.take j++[gL tLq l j]:=nc3 tLq hj;have hnx:qa2 ⟨l,(l.length:Int)⟩ ⟨phL (l.take j),(j:Int),(l.take j).length,cpR (l.take j)⟩=.next ⟨phL (l.take (j+1)),((j+1:Nat):Int),(l.take (j+1)).length,cpR (l.take (j+1))⟩:=by
   rw[hm,Xb2,Qkc,List.length_singleton,<- Kb4]
   rcases da0 (l.take j) with⟨hz,hn⟩|h1
   ·rw[hz];show ba6 Stp.next Stp.exit Stp.fail _ _=_;simp only[ba6,Int.toNat_natCast,hw1,hgx,g9,j8,w7,fe2 _ hq0 hq,Pd7,nbR];rw[btD (o6 hj),hn];rfl
   ·rw[h1];show ba7 Stp.next Stp.exit Stp.fail _ _=_;simp only[ba7,Int.toNat_natCast,hw1,hgx,g9,j8,w7,fe2 _ hq0 hq,Pd7];rw[btD (o6 hj),bt (show Nat.beq 1 1=true from rfl),bt (Dc4 _ (by omega))]
  show Nx (qa2 ⟨l,(l.length:Int)⟩ ⟨phL (l.take j),(j:Int),(l.take j).length,cpR (l.take j)⟩) _ _;rw[hnx];exact .nx ⟨_,rfl,hj,rfl,rfl,rfl,rfl⟩
 ·have hje:j=l.length:=by have:=hi.le;omega
  subst hje;have hi':=hi;obtain⟨_,h2,h3,h4,h5⟩:=hi;obtain⟨ph,is4,ns3,eh0⟩:=s
  simp only at h2 h3 h4 h5
  subst h2 h3 h4 h5;simp only[Qkh] at *
  rcases da0 l with⟨hz,hn⟩|h1
  ·refine⟨1,?_,hi',by rw[hz]⟩
   rw[hz];show ba6 Stp.next Stp.exit Stp.fail _ _=_;simp only[ba6];rw[bfD (B0 (Qke _))]
  ·refine⟨2,?_,hi',by rw[h1]⟩
   rw[h1];show ba7 Stp.next Stp.exit Stp.fail _ _=_;simp only[ba7];rw[bfD (B0 (Qke _))]
theorem fe3(l:LPq)(hl:l.length<=1000000)(hp:∀q∈l,q.length<=1000000)(h0:∀q∈l,q≠[]):Rd (one (r1L tLq)) (Ya3 l) (λr=>r=l):=by
 obtain⟨t,s,h1,h2,h3⟩:=Ie1 l hl hp h0;unfold Ya3;simp only[j8,l8,Qka,g9,h1];have hn:=h2.n;have he:=h2.e;rw[Qkh] at hn he
 rcases da0 l with⟨hz,hnl⟩|hp1
 ·rw[h3,hz];exact⟨_,[],rfl,Xf3 _,hnl.symm⟩
 ·rw[h3,hp1,hn,he];exact⟨_,l,rfl,pg8 l,rfl⟩
theorem fd8{l:LPq}(hl:l.length<=1000000)(hp:∀q∈l,q.length<=1000000)(h0:∀q∈l,q≠[]):pa4 l=l:=(fe3 l hl hp h0).p
theorem fd9{l:LPq}(hl:l.length<=1000000)(hp:∀q∈l,q.length<=1000000)(h0:∀q∈l,q≠[]):ga9 l=true:=(fe3 l hl hp h0).g
theorem fe4{n:Int}{q c:PLq}(hq:q.length<=1000000)(hc:c.length<=1000000):Qa3 ⟨n,q,c⟩=⟨1,!apart q c⟩:=by
 unfold Qa3 Aa0;simp only[j8,w7,pe5 (a:=q) (c:=c) (by omega) (by omega),pe6 (a:=q) (c:=c) (by omega) (by omega),g9]
structure RMo(l:LPq)(c:PLq)(j:Nat)(s:u3):Prop where
 le:j<=l.length
 ix:s.L9=(j:Int)
 ph:s.ph=phL (ja2 (l.take j) c)
 cc:s.g7=c
 n:s.ns5=(ja2 (l.take j) c).length
 e:s.eh1=bL tLq (ja2 (l.take j) c)
theorem nf2(l:LPq)(c:PLq)(hl:l.length<=1000000)(hp:∀q∈l,q.length<=1000000)(hc:c.length<=1000000) :
  ∃t s,lp (ha0 ⟨l,(l.length:Int)⟩) ⟨0,0,c,0,[]⟩=(t,s)/\RMo l c l.length s/\t=phL (ja2 l c)+1:=by
 refine Fa0 (step:=ha0 ⟨l,(l.length:Int)⟩) (mk:=λ_ (s:u3)=>s) l.length (RMo l c) (λt s=>RMo l c l.length s/\t=phL (ja2 l c)+1) (by omega)
  (λj s hj hi=>?_) (λj s hj hi=>?_) 0 _ ⟨Qkg _,rfl,rfl,rfl,rfl,rfl⟩
 ·obtain⟨_,h2,h3,h6,h4,h5⟩:=hi;obtain⟨ph,is6,c',ns5,eh0⟩:=s
  simp only at h2 h3 h4 h5 h6
  subst h2 h3 h4 h5 h6;have hq:=hp _ (X7 tLq hj);have hw1:W ((j:Int)+1)=((j+1:Nat):Int):=u7 hj (by omega)
  have hgx:inB (j:Int) l.length=true:=i9 hj;have hlen:=pd0 (l.take j) c';have htl:(l.take j).length<=l.length:=by rw[Qkp];omega
  have hnx:∃s,ha0 ⟨l,(l.length:Int)⟩ ⟨phL (ja2 (l.take j) c'),(j:Int),c',(ja2 (l.take j) c').length,bL tLq (ja2 (l.take j) c')⟩=.next s/\RMo l c' (j+1) s:=by
   have hm:=Te0 l c' hj
   rcases da0 (ja2 (l.take j) c') with⟨h0,hn⟩|h1
   ·rw[h0];refine⟨⟨phL (ja2 (l.take (j+1)) c'),((j+1:Nat):Int),c',(ja2 (l.take (j+1)) c').length,bL tLq (ja2 (l.take (j+1)) c')⟩,?_,⟨hj,rfl,rfl,rfl,rfl,rfl⟩⟩;show M9 Stp.next Stp.exit Stp.fail _ _=_;simp only[M9,Int.toNat_natCast,j8,l8,Qka,fe4 hq hc,hw1,hgx,g9];rw[btD (o6 hj),hm,hn,bt (show Nat.beq 1 1=true from rfl)]
    cases apart (gL tLq l j) c'<;>rfl
   ·rw[h1];refine⟨⟨phL (ja2 (l.take (j+1)) c'),((j+1:Nat):Int),c',(ja2 (l.take (j+1)) c').length,bL tLq (ja2 (l.take (j+1)) c')⟩,?_,⟨hj,rfl,rfl,rfl,rfl,rfl⟩⟩;show N0 Stp.next Stp.exit Stp.fail _ _=_;simp only[N0,Int.toNat_natCast,j8,l8,Qka,fe4 hq hc,hw1,hgx,g9];rw[btD (o6 hj),hm,bt (show Nat.beq 1 1=true from rfl),bt (qe9 _ (by omega)),bf8]
    cases apart (gL tLq l j) c' with
    |true =>
     simp only[Qkv,w6,if_true,List.append_nil,h1]
    |false =>
     simp only[Qkt,g9,Qks,if_false,Xb2,Qkc,List.length_singleton]
  obtain⟨s,e1,e2⟩:=hnx;rw[e1];exact .nx ⟨s,rfl,e2⟩
 ·have hje:j=l.length:=by have:=hi.le;omega
  subst hje;have hi':=hi;obtain⟨_,h2,h3,h6,h4,h5⟩:=hi;obtain⟨ph,is6,c',ns5,eh0⟩:=s
  simp only at h2 h3 h4 h5 h6
  subst h2 h3 h4 h5 h6;rw[Qkh] at *
  rcases da0 (ja2 l c') with⟨h0,hn⟩|h1
  ·refine⟨1,?_,hi',by rw[h0]⟩
   rw[h0];show M9 Stp.next Stp.exit Stp.fail _ _=_;simp only[M9];rw[bfD (B0 (Qke _))]
  ·refine⟨2,?_,hi',by rw[h1]⟩
   rw[h1];show N0 Stp.next Stp.exit Stp.fail _ _=_;simp only[N0];rw[bfD (B0 (Qke _))]
theorem cf6(l:LPq)(c:PLq)(hl:l.length<=1000000)(hp:∀q∈l,q.length<=1000000)(hc:c.length<=1000000) :
  (ja2 l c=[]/\i8 ⟨l,c⟩=⟨1,c,0,[]⟩)\/(ja2 l c≠[]/\i8 ⟨l,c⟩=⟨2,c,(ja2 l c).length,bL tLq (ja2 l c)⟩):=by
 obtain⟨t,s,h1,h2,h3⟩:=nf2 l c hl hp hc;unfold i8 ia5;simp only[j8,l8,Qka,g9,h1,h2.cc];have hn:=h2.n;have he:=h2.e;rw[Qkh] at hn he
 rcases da0 (ja2 l c) with⟨hz,hnl⟩|hp1
 ·rw[h3,hz];exact .inl ⟨hnl,rfl⟩
 ·rw[h3,hp1,hn,he];exact .inr ⟨λe=>(by rw[e] at hp1;cases hp1),rfl⟩
structure CR{α:Type}(t:Ty α)(x:d7)(l:List α):Prop where
 fz:freezeCell [] x=some (x,[])
 ok:(tLs t).ok [x]=true
 rd:rL t x=l
theorem CR.tree{α:Type}(t:Ty α){n:Nat}{f:Nat->List d7}{l:List α}(h1:okL t n f=true)(h2:lsL t n f=l):CR t (.tree t.es n f) l :=
 ⟨rfl,by show Bool.and (Nat.beq t.es t.es) (okL t n f)=true;rw[Qkq,h1];rfl,h2⟩
theorem CR.eL{α:Type}(t:Ty α)(l:List α):CR t (eL t l) l:=⟨rfl,by
 have h:=(tLs t).h2 l;exact h,j8 t l⟩
theorem Te4{α:Type}(t:Ty α)(l:List α){n:Nat}(h:n=l.length):lsL t n (λk=>g8 (bL t l) (0+k))=l:=by rw[h];exact jc7 t l
theorem nf3{α:Type}(t:Ty α)(l:List α){n:Nat}(h:n=l.length):okL t n (λk=>g8 (bL t l) (0+k))=true:=by rw[h];exact jc8 t l
theorem CR.bL{α:Type}(t:Ty α)(l:List α){n:Nat}(h:n=l.length):CR t (.tree t.es n (λk=>g8 (bL t l) (0+k))) l:=.tree t (nf3 t l h) (Te4 t l h)
theorem CR.nil{α:Type}(t:Ty α):CR t (.v (.slice none 0 0)) []:=⟨rfl,rfl,rfl⟩
theorem fz3{a c d:d7}(h1:freezeCell [] a=some (a,[]))(h2:freezeCell [] c=some (c,[]))(h3:freezeCell [] d=some (d,[])):freezeCells [] [a,c,d]=some ([a,c,d],[]):=by
 simp only[freezeCells,h1,h2,h3]
theorem Df9{a c d:d7}{su to:List Bool}{cu:LPq}(h1:CR tB a su)(h2:CR tB c to)(h3:CR tLq d cu):r1O.rd [] (.agg [a,c,d])=some ⟨su,to,cu⟩:=by
 show Option.rec (motive:=λ_=>Option Pce) none (λp=>Bool.rec (motive:=λ_=>Option Pce) none (some (tO.rd p)) (tO.ok p)) ((freezeCells [] [a,c,d]).map (·.1))=_
 rw[fz3 h1.fz h2.fz h3.fz];show Bool.rec (motive:=λ_=>Option Pce) none (some (tO.rd [a,c,d])) (Bool.and ((tLs tB).ok [a]) (Bool.and ((tLs tB).ok [c]) (Bool.and (tMq.ok [d]) true)))=_
 rw[h1.ok,h2.ok,h3.ok];show some (Pce.mk (rL tB a) (rL tB c) (rL tLq d))=_;rw[h1.rd,h2.rd,h3.rd]
theorem cf7{a c d:d7}{su to:List Bool}{cu:LPq}(h1:CR tB a su)(h2:CR tB c to)(h3:CR tLq d cu):(one r1O).rd (.agg [a,c,d],[])=some ⟨su,to,cu⟩:=Df9 h1 h2 h3
theorem cf8{a c d:d7}{su to:List Bool}{cu:LPq}(n:Int)(h1:CR tB a su)(h2:CR tB c to)(h3:CR tLq d cu):(two r1O r1I).rd (.tup [.agg [a,c,d],i n],[])=some (⟨su,to,cu⟩,n):=by
 simp only[two,Df9 h1 h2 h3];rfl
def Pc6:Pce:=⟨[],[],[]⟩
theorem fe5(n:Int):(two r1O r1I).rd (.tup [.agg [.v (.slice none 0 0),.v (.slice none 0 0),.v (.slice none 0 0)],i n],[])=some (Pc6,n):=cf8 n (.nil tB) (.nil tB) (.nil tLq)
theorem Ef0(n:Nat):List.replicate n [b false]=bL tB (List.replicate n false):=by
 unfold bL;rw[n9,List.map_replicate];rfl
theorem Ef1(x:Prt)(hl:x.cl.length<=1000000):Rd (one r1O) (Cb2 x) (λr=>r=He7 x):=by
 have h1:inB (x.cl.length:Int) (room+1)=true:=i9 (by unfold room;omega)
 have h2:Nat.ble (x.cl.length*1) room=true:=by rw[Qkj];unfold room;omega
 unfold Cb2;simp only[Int.toNat_natCast,h1,h2,Qka,Ef0,show Nat.ble x.cl.length x.cl.length=true by rw[Qkj];omega,g9]
 exact⟨_,He7 x,rfl,cf7 (.bL tB _ (by simp)) (.bL tB _ (by simp)) (.nil _),rfl⟩
theorem cf9{x:Prt}(hl:x.cl.length<=1000000):Ja8 x=He7 x:=(Ef1 x hl).p
theorem df0{x:Prt}(hl:x.cl.length<=1000000):pa3 x=true:=(Ef1 x hl).g
theorem df1(x:Prt)(hl:x.cl.length<=1000000):Rd (one r1O) (hc5 x) (λr=>r=He7 x):=by
 have h1:inB (x.cl.length:Int) (room+1)=true:=i9 (by unfold room;omega)
 have h2:Nat.ble (x.cl.length*1) room=true:=by rw[Qkj];unfold room;omega
 unfold hc5;simp only[Int.toNat_natCast,h1,h2,Qka,Ef0,show Nat.ble x.cl.length x.cl.length=true by rw[Qkj];omega,g9]
 exact⟨_,He7 x,rfl,cf7 (.bL tB _ (by simp)) (.bL tB _ (by simp)) (.nil _),rfl⟩
theorem Te5{x:Prt}(hl:x.cl.length<=1000000):Lb3 x=He7 x:=(df1 x hl).p
theorem Te6{x:Prt}(hl:x.cl.length<=1000000):kb7 x=true:=(df1 x hl).g
def suJ(C cl:LPq)(su:List Bool)(j:Nat):Bool×Int:=if gL tB su j=true then (true,0) else ya5 (ja2 C (gL tLq cl j)) (gL tLq cl j)
def toJ(z w cl:LPq)(to:List Bool)(j:Nat):Bool:=gL tB to j||(!qb5 (gL tLq cl j) z||!qb5 (gL tLq cl j) w)
def Ua0(f:Nat->Bool)(l:List Bool)(j:Nat):List Bool:=(List.range l.length).map λk=>if k<j then f k else gL tB l k
theorem gd0(f:Nat->Bool)(l:List Bool)(j:Nat):(Ua0 f l j).length=l.length:=by simp[Ua0]
theorem gg2{α:Type}(t:Ty α)(n:Nat)(f:Nat->α){k:Nat}(h:k<n):gL t ((List.range n).map f) k=f k:=by
 simp[gL,Qkb,h]
theorem df2(f:Nat->Bool)(l:List Bool){j:Nat}(h:j<l.length):gL tB (Ua0 f l j) j=gL tB l j:=by
 unfold Ua0;rw[gg2 tB _ _ h,if_neg (Qke j)]
theorem fe6(f:Nat->Bool)(l:List Bool):Ua0 f l 0=l:=by
 refine Qkl (by simp[Ua0]) λk h1 h2=>?_
 simp[Ua0,gL,Qkb,Qkd h2]
theorem pd5(f:Nat->Bool)(l:List Bool)(j:Nat):(Ua0 f l j).set j (f j)=Ua0 f l (j+1):=by
 refine Qkl (by simp[Ua0]) λk h1 h2=>?_
 simp only[Ua0,List.getElem_set,List.getElem_map,List.getElem_range];by_cases e:j=k
 ·subst e;simp
 ·rw[if_neg e];by_cases h:k<j
  ·rw[if_pos h,if_pos (by omega)]
  ·rw[if_neg h,if_neg (by omega)]
theorem nf4(f:Nat->Bool)(l:List Bool){j:Nat}(h:j<l.length)(e:gL tB l j=f j):Ua0 f l (j+1)=Ua0 f l j:=by
 unfold Ua0;refine List.map_congr_left λk hk=>?_
 by_cases h1:k<j
 ·rw[if_pos h1,if_pos (by omega)]
 ·by_cases h2:k=j
  ·subst h2;rw[if_pos (by omega),if_neg h1,e]
  ·rw[if_neg h1,if_neg (by omega)]
theorem Pd8{f:Nat->Bool}{l:List Bool}{j:Nat}(h:f j=true):(Ua0 f l j).set j true=Ua0 f l (j+1):=by rw[<- pd5,h]
theorem Ie2(f:Nat->Bool)(l:List Bool):Ua0 f l l.length=(List.range l.length).map f:=by
 unfold Ua0;exact List.map_congr_left λk hk=>if_pos (Qkm.1 hk)
theorem gg3(l:List Bool)(k:Nat)(v:Bool):setAt (bL tB l) k [b v]=bL tB (l.set k v):=yc3 tB l k v
theorem qg0{l:List Bool}{k:Nat}(h:k<l.length):g8 (bL tB l) k=[b (gL tB l k)]:=U1 tB h
theorem ckB(v:Bool):ra7 [CK.bool] (l4 [b v] 0)=true:=rfl
theorem Ag8(v:Bool):toB (hdA (l4 [b v] 0))=v:=rfl
theorem spB(u v:Bool):L0 [b u] 0 [b v]=[b v]:=rfl
structure Apl(z w cl C:LPq)(su to:List Bool):Prop where
 zn:z.length<=1000000
 wn:w.length<=1000000
 cn:cl.length<=1000000
 Cn:C.length<=1000000
 zl:∀q∈z,q.length<=1000000
 wl:∀q∈w,q.length<=1000000
 cc:∀q∈cl,q.length<=1000000
 Cl:∀q∈C,q.length<=1000000
 sn:su.length=cl.length
 tn:to.length=cl.length
structure RAp(z w cl C:LPq)(su to:List Bool)(j:Nat)(s:Q6):Prop where
 le:j<=cl.length
 ix:s.s7=(j:Int)
 e2:s.eh2=bL tB (Ua0 (λk=>(suJ C cl su k).1) su j)
 e3:s.eh3=bL tB (Ua0 (toJ z w cl to) to j)
 ok:∀k,k<j->(suJ C cl su k).2=0
def EAp(z w cl C:LPq)(su to:List Bool)(t:Nat)(s:Q6):Prop :=
 (∃j,j<cl.length/\s.s7=(j:Int)/\(∀k,k<j->(suJ C cl su k).2=0)/\(suJ C cl su j).2≠0/\suJ C cl su j=ya5 (ja2 C (gL tLq cl j)) (gL tLq cl j) /\
  ((ja2 C (gL tLq cl j)=[]/\(t=1\/t=3\/t=5))\/(ja2 C (gL tLq cl j)≠[]/\(t=2\/t=4\/t=6)))) \/
 (t=7/\RAp z w cl C su to cl.length s)
theorem Te7{z w cl C:LPq}{su to:List Bool}(h:Apl z w cl C su to) :
  ∃t s,lp (da2 ⟨z,w,cl,(cl.length:Int),su.length,to.length,C⟩) ⟨0,bL tB su,bL tB to⟩=(t,s)/\EAp z w cl C su to t s:=by
 refine Fa0 (step:=da2 ⟨z,w,cl,(cl.length:Int),su.length,to.length,C⟩) (mk:=λ_ (s:Q6)=>s) cl.length (RAp z w cl C su to) (EAp z w cl C su to) (by have:=h.cn;omega)
  (λj s hj hi=>?_) (λj s hj hi=>?_) 0 _ ⟨Qkg _,rfl,by rw[fe6],by rw[fe6],λk hk=>absurd hk (Nat.not_lt_zero _)⟩
 ·obtain⟨_,h2,h3,h4,h5⟩:=hi;obtain⟨is4,eh2,eh3⟩:=s
  simp only at h2 h3 h4 h5
  subst h2 h3 h4;have hc:=h.cc _ (X7 tLq hj);have hcl:=h.cn;have hw1:W ((j:Int)+1)=((j+1:Nat):Int):=u7 hj (by omega)
  have hgx:inB (j:Int) cl.length=true:=i9 hj;have hg1:inB (j:Int) su.length=true:=by rw[h.sn];exact hgx
  have hg2:inB (j:Int) to.length=true:=by rw[h.tn];exact hgx
  have hs:j<su.length:=by rw[h.sn];exact hj
  have ht:j<to.length:=by rw[h.tn];exact hj
  have hms:∀q∈ja2 C (gL tLq cl j),q.length<=1000000:=λq hq=>h.Cl q ((List.mem_filter.1 hq).1)
  have hml:(ja2 C (gL tLq cl j)).length<=1000000:=by have:=pd0 C (gL tLq cl j);have:=h.Cn;omega
  have r2:g8 (bL tB (Ua0 (λk=>(suJ C cl su k).1) su j)) j=[b (gL tB su j)]:=by rw[qg0 (by rw[gd0];exact hs),df2 _ _ hs]
  have r3:g8 (bL tB (Ua0 (toJ z w cl to) to j)) j=[b (gL tB to j)]:=by rw[qg0 (by rw[gd0];exact ht),df2 _ _ ht]
  have l2:Nat.blt j (len (bL tB (Ua0 (λk=>(suJ C cl su k).1) su j)))=true:=by rw[M2,gd0,Nat.blt_eq];exact hs
  have l3:Nat.blt j (len (bL tB (Ua0 (toJ z w cl to) to j)))=true:=by rw[M2,gd0,Nat.blt_eq];exact ht
  have lb:∀v:Bool,Nat.ble (0+1) (len [b v])=true:=λv=>rfl
  have n11:Nat.beq 1 1=true:=rfl;have n21:Nat.beq 2 1=false:=rfl;have n22:Nat.beq 2 2=true:=rfl;have nx:∀(v:Bool) (s':Bool),toJ z w cl to j=v->suJ C cl su j=(s',0)->RAp z w cl C su to (j+1) ⟨((j+1:Nat):Int),setAt (bL tB (Ua0 (λk=>(suJ C cl su k).1) su j)) j [b s'],setAt (bL tB (Ua0 (toJ z w cl to) to j)) j [b v]⟩:=by
   intro v s' e1 e2;refine⟨hj,rfl,?_,?_,λk hk=>?_⟩
   ·show setAt _ _ _=_;rw[gg3,<- pd5,e2]
   ·show setAt _ _ _=_;rw[gg3,<- pd5,e1]
   ·rcases Nat.lt_or_eq_of_le (Nat.lt_succ_iff.1 hk) with hk|rfl
    ·exact h5 k hk
    ·rw[e2]
  have nk:∀(v:Bool),toJ z w cl to j=v->gL tB su j=true->RAp z w cl C su to (j+1) ⟨((j+1:Nat):Int),bL tB (Ua0 (λk=>(suJ C cl su k).1) su j),setAt (bL tB (Ua0 (toJ z w cl to) to j)) j [b v]⟩:=by
   intro v e1 e2;have e3:suJ C cl su j=(true,0):=by unfold suJ;rw[if_pos e2]
   have:=nx v true e1 e3
   rw[gg3,Pd8 (f:=λk=>(suJ C cl su k).1) (by rw[e3]),nf4 _ _ hs (by rw[e2,e3])] at this
   exact this
  have key : ∀ (v : Bool) (u1 u2 : Nat), toJ z w cl to j = v → (u1 = 1 ∨ u1 = 3 ∨ u1 = 5) → (u2 = 2 ∨ u2 = 4 ∨ u2 = 6) → Nx (sl (gL tB su j) (Stp.next ⟨((j + 1 : Nat) : Int), bL tB (Ua0 (fun k => (suJ C cl su k).1) su j), setAt (bL tB (Ua0 (toJ z w cl to) to j)) j [b v]⟩)
    (sl (Nat.beq (i8 ⟨C,gL tLq cl j⟩).alt 1) (sl (xa3 [] (i8 ⟨C,gL tLq cl j⟩).g7) (sl ((u9 [] (i8 ⟨C,gL tLq cl j⟩).g7).2 != 0) (Stp.exit u1)
     (Stp.next ⟨((j+1:Nat):Int),setAt (bL tB (Ua0 (λk=>(suJ C cl su k).1) su j)) j [b (u9 [] (i8 ⟨C,gL tLq cl j⟩).g7).1],setAt (bL tB (Ua0 (toJ z w cl to) to j)) j [b v]⟩)) Stp.fail)
     (sl (Nat.beq (i8 ⟨C,gL tLq cl j⟩).alt 2) (sl (okL tLq (i8 ⟨C,gL tLq cl j⟩).ns0 (λk=>g8 (i8 ⟨C,gL tLq cl j⟩).eh1 (0+k))) (sl (xa3 (lsL tLq (i8 ⟨C,gL tLq cl j⟩).ns0 (λk=>g8 (i8 ⟨C,gL tLq cl j⟩).eh1 (0+k))) (i8 ⟨C,gL tLq cl j⟩).g7)
      (sl ((u9 (lsL tLq (i8 ⟨C,gL tLq cl j⟩).ns0 (λk=>g8 (i8 ⟨C,gL tLq cl j⟩).eh1 (0+k))) (i8 ⟨C,gL tLq cl j⟩).g7).2 != 0) (Stp.exit u2)
      (Stp.next ⟨((j+1:Nat):Int),setAt (bL tB (Ua0 (λk=>(suJ C cl su k).1) su j)) j [b (u9 (lsL tLq (i8 ⟨C,gL tLq cl j⟩).ns0 (λk=>g8 (i8 ⟨C,gL tLq cl j⟩).eh1 (0+k))) (i8 ⟨C,gL tLq cl j⟩).g7).1],setAt (bL tB (Ua0 (toJ z w cl to) to j)) j [b v]⟩)) Stp.fail) Stp.fail) Stp.fail)))
    (λt=>EAp z w cl C su to t ⟨(j:Int),bL tB (Ua0 (λk=>(suJ C cl su k).1) su j),bL tB (Ua0 (toJ z w cl to) to j)⟩) (λs=>∃a',s=a'/\RAp z w cl C su to (j+1) a'):=by
   intro v u1 u2 hv hu1 hu2;refine Nx.sl (λe=>.nx ⟨_,rfl,nk v hv e⟩) (λe=>?_)
   have es:suJ C cl su j=ya5 (ja2 C (gL tLq cl j)) (gL tLq cl j):=by unfold suJ;rw[e,if_neg (by decide)]
   rcases cf6 C (gL tLq cl j) h.Cn h.Cl hc with⟨m0,hm⟩|⟨m0,hm⟩
   ·rw[hm]
    simp only
    rw[n11,g9,Ge6 (x:=[]) hc (by simp) (by simp),g9,ed5 (x:=[]) hc (by simp) (by simp)]
    rw[m0] at es;refine Nx.sl (λhe=>.ex (.inl ⟨j,hj,rfl,h5,by rw[es];simpa using he,by rw[es,m0],.inl ⟨m0,hu1⟩⟩)) (λhe=>.nx ⟨_,rfl,nx v _ hv ?_⟩)
    rw[es];exact Prod.ext rfl (by simpa using he)
   ·rw[hm]
    simp only
    rw[n21,w6,n22,g9,nf3 tLq _ rfl,Te4 tLq _ rfl,g9,Ge6 hc hml hms,g9,ed5 hc hml hms];refine Nx.sl (λhe=>.ex (.inl ⟨j,hj,rfl,h5,by rw[es];simpa using he,es,.inr ⟨m0,hu2⟩⟩)) (λhe=>.nx ⟨_,rfl,nx v _ hv ?_⟩)
    rw[es];exact Prod.ext rfl (by simpa using he)
  simp only[da2,Ca5,Int.toNat_natCast,Qkf,j8,w7,l8,Qka,r2,r3,l2,l3,show Nat.ble 1 (len [b (gL tB su j)])=true from rfl,show Nat.ble 1 (len [b (gL tB to j)])=true from rfl,hgx,hg1,hg2,ckB,Ag8,spB,hw1,g9,ed6 hc h.zn h.zl,ed7 hc h.zn h.zl,ed6 hc h.wn h.wl,ed7 hc h.wn h.wl]
  rw[btD (o6 hj)];simp only[Qkf] at key;refine Nx.sl (λe=>key true 1 2 (by unfold toJ;rw[e];rfl) (.inl rfl) (.inl rfl)) (λe=>?_)
  refine Nx.sl (λe'=>key true 3 4 (by unfold toJ;rw[e,e'];rfl) (.inr (.inl rfl)) (.inr (.inl rfl))) (λe'=>?_)
  exact key _ 5 6 (by unfold toJ;rw[e,e'];rfl) (.inr (.inr rfl)) (.inr (.inr rfl))
 ·have hje:j=cl.length:=by have:=hi.le;omega
  subst hje;refine⟨7,?_,.inr ⟨rfl,hi⟩⟩;obtain⟨_,h2,h3,h4,h5⟩:=hi;obtain⟨is4,eh2,eh3⟩:=s
  simp only at h2 h3 h4 h5
  subst h2 h3 h4;simp only[da2,Ca5];rw[bfD (B0 (Qke _))]
end Go.Ev.Ce
