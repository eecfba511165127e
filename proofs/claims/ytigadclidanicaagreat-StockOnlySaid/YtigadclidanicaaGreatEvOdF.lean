/- Own work. -/
import Derived.Test.YtigadclidanicaaGreatEvOaX1
set_option linter.all false
noncomputable section
def Qka:=@List.length_append
def Qkb:=@List.getD_eq_getElem?_getD
def Qkc:=@Bool.and_self
def Qkd:=@List.getElem?_eq_getElem
def Qke:=@Nat.lt_irrefl
def Qkf:=@Nat.le_trans
def Qkg:=@Nat.zero_add
def Qkh:=@Nat.zero_le
def Qki:=@List.mem_range
def Qkj:=@List.all_eq_true
def Qkk:=@List.drop_zero
def Qkl:=@List.take_length
def Qkm:=@List.ext_getElem
def Qkn:=@List.find?_eq_none
def Qko:=@List.any_eq_true
def Qkp:=@Bool.and_eq_true
def Qkq:=@Bool.false_eq_true
def Qkr:=@Bool.not_false
def Qks:=@Nat.ble_eq
def Qkt:=@List.findIdx_lt_length
def Qku:=@List.length_take
def Qkv:=@Nat.beq_refl
def Qkw:=@List.mem_singleton
def Qkx:=@List.getElem?_take
def Qky:=@List.exists_cons_of_ne_nil
def Qkz:=@Bool.not_true
def Qkaa:=@List.take_add_one
def Qkab:=@List.getElem?_eq_some_iff
def Qkac:=@List.drop_eq_getElem_cons
def Qkad:=@List.length_eq_zero_iff
def Qkae:=@List.getElem?_replicate
def Qkaf:=@Bool.eq_iff_iff
def Qkag:=@List.mem_append
def Qkah:=@Nat.le_refl
def Qkai:=@List.length_filter_le
def Qkaj:=@List.mem_iff_getElem?
def Qkak:=@List.length_replicate
def Qkal:=@Bool.true_and
namespace Go.Ev.Ce
open Go Go.Ev Go.Ev.L Go.Proofs
theorem Ve8(ls:LPq)(hn:ls.length<=1000000000)(hl:ls.flatten.length<=1000000000):A2 ls=if ls.flatten=[] then ⟨1,0,[]⟩ else ⟨2,ls.flatten.length,bL tP ls.flatten⟩:=by
 unfold A2 P9;simp only[i6,l4];obtain⟨m,hm⟩:=pe6 ls hn hl;rw[hm];by_cases h0:ls.flatten=[]
 ·obtain⟨s,hs⟩:=Je9 ls hn h0;rw[if_pos h0,hs];rw[show (⟨(ls.flatten.length:Int),m⟩:w8)=⟨0,m⟩ by rw[h0];rfl]
  rfl
 ·obtain⟨m',hm'⟩:=pe7 ls hn;rw[if_neg h0];simp only[Int.toNat_natCast];rw[hm'];have h1:0<ls.flatten.length:=List.length_pos_iff.2 h0;have e1:((ls.flatten.length:Int)==0)=false:=by rw[beq_eq_false_iff_ne];omega
  have e2:Bool.and (decide ((0:Int)<(ls.flatten.length:Int))) (Nat.ble (ls.flatten.length*32) room)=true:=by
   rw[ec6 (by omega),decide_eq_true (by omega)]
   rfl
  rw[e1,e2];rfl
theorem Me2(r:PLq)(p:Pln)(hr:r.length<=1000000):A2 [r,[p]]=⟨2,(r++[p]).length,bL tP (r++[p])⟩:=by
 have e:[r,[p]].flatten=r++[p]:=by simp
 rw[Ve8 [r,[p]] (by simp) (by rw[e,Qka];simp only[List.length_singleton];omega),e,if_neg (by simp)]
theorem Bf7(r:PLq)(p:Pln):slR tP (bL tP (r++[p])) 0 (r++[p]).length=r++[p]:=Ic5 tP _
theorem Bf8(r:PLq)(p:Pln):okS tP (bL tP (r++[p])) 0 (r++[p]).length=true:=Ic6 tP _
theorem qd9{p:Pln}(h:Bd p):kb7 p=V0 p:=by
 unfold kb7 sc7 V0
 simp only
 have:=h.x1;have:=h.x2;have:=h.y1;have:=h.y2;have:=h.z1;have:=h.z2;have:=h.b1;have:=h.b2
 rw[Ka7 (by omega) (by omega),Ka7 (by omega) (by omega),Ka7 (by omega) (by omega),Ka7 (by omega) (by omega)]
 simp only[Int.zero_sub]
def phL(O:LPq):Nat:=match O with
 |[]=>0
 |_::_=>1
theorem fc5(O:LPq)(c:PLq):phL (O++[c])=1:=by cases O<;>rfl
theorem Me3(O:LPq)(c:PLq):app (bL tLq O) [[eL tP c]]=bL tLq (O++[c]):=ob4 tLq O [c]
theorem ce5(O:LPq)(h:O.length<=1000000):(Nat.beq O.length (len (bL tLq O))&&Nat.ble ((O.length+1)*24) room)=true:=by
 rw[ja7,Qkv,Qkal];exact Nat.ble_eq_true_of_le (by unfold room;omega)
theorem Ve9(x fs:PLq)(j:Nat):Ta0 x fs (j+1)=Ta0 x fs j++(if 0<(Va9 x fs j).length then [Va9 x fs j] else []):=by
 unfold Ta0;rw[List.range_succ,List.map_append,List.filter_append];congr 1;by_cases h:0<(Va9 x fs j).length
 ·rw[if_pos h];simp[h]
 ·rw[if_neg h];simp[h]
theorem Cd3(x fs:PLq)(j:Nat):(Ta0 x fs j).length<=j:=by
 unfold Ta0
 have:=Qkai (λc:PLq=>decide (0<c.length)) ((List.range j).map (Va9 x fs))
 simpa using this
theorem mf4:Nat.beq 2 1=false:=rfl
theorem mf5:Nat.beq 2 2=true:=rfl
theorem Bf9(x fs q:PLq)(xs:LPq)(a c:Int)(O:LPq)(hf:∀p∈fs,okp p=true)(hfl:fs.length<=1000)(hO:O.length<=900000) :
  ∃t s,lp (m8 ⟨fs,(fs.length:Int),q,fs,xs,a,c⟩) ⟨phL O,x,0,O.length,bL tLq O⟩=(t,s) /\
   ((Ha6 x fs=true->t=phL (O++Ta0 x fs fs.length)*2+2/\s.F7=(O++Ta0 x fs fs.length).length/\s.eh3=bL tLq (O++Ta0 x fs fs.length))/\(Ha6 x fs=false->t=1\/t=3)):=by
 refine Oa4 (step:=m8 ⟨fs,(fs.length:Int),q,fs,xs,a,c⟩) (mk:=λj (O':LPq)=>(⟨phL O',E4 x fs j,(j:Int),O'.length,bL tLq O'⟩:j8)) fs.length
  (λj O'=>j<=fs.length/\O'=O++Ta0 x fs j/\∀i,i<j->(E4 x fs i).length<48)
  (λt s=>(Ha6 x fs=true->t=phL (O++Ta0 x fs fs.length)*2+2/\s.F7=(O++Ta0 x fs fs.length).length/\s.eh3=bL tLq (O++Ta0 x fs fs.length))/\(Ha6 x fs=false->t=1\/t=3)) (by omega)
  (λj O' hj hi=>?_) (λj O' hj hi=>?_) 0 O ⟨Qkh _,by simp[Ta0],λi hi=>absurd hi (Nat.not_lt_zero i)⟩
 ·obtain⟨_,hO',hr⟩:=hi;have hn:W ((j:Int)+1)=((j+1:Nat):Int):=u7 hj (by omega)
  have hp:=hf _ (N7 tP hj);have hb:=ad8 hp;have hOl:O'.length<=1000000:=by
   rw[hO',Qka]
   have:=Cd3 x fs j
   omega
  have hroom:=ce5 O' hOl;by_cases h48:(E4 x fs j).length<48
  ·have e1:decide (((E4 x fs j).length:Int)>=48)=false:=decide_eq_false (by omega)
   have c1:=Me2 (E4 x fs j) (V0 (gL tP fs j)) (by omega)
   have c2:=Me2 (E4 x fs j) (gL tP fs j) (by omega)
   have l1:U2 (E4 x fs j++[V0 (gL tP fs j)])=true:=decide_eq_true (by rw[Qka];simp only[List.length_singleton];omega)
   have l2:U2 (E4 x fs j++[gL tP fs j])=true:=decide_eq_true (by rw[Qka];simp only[List.length_singleton];omega)
   have m1:U1 (E4 x fs j++[V0 (gL tP fs j)])=Va9 x fs j:=rfl;have m2:U1 (E4 x fs j++[gL tP fs j])=E4 x fs (j+1):=rfl;have hnew:O++Ta0 x fs (j+1)=O'++(if 0<(Va9 x fs j).length then [Va9 x fs j] else []):=by rw[Ve9,<- List.append_assoc,<- hO']
   have hnx : ∀ {s : j8}, s = ⟨phL (O ++ Ta0 x fs (j + 1)), E4 x fs (j + 1), ((j + 1 : Nat) : Int), (O ++ Ta0 x fs (j + 1)).length, bL tLq (O ++ Ta0 x fs (j + 1))⟩ →
     Nx (.next s) (λt=>(Ha6 x fs=true->t=phL (O++Ta0 x fs fs.length)*2+2/\(⟨phL O',E4 x fs j,(j:Int),O'.length,bL tLq O'⟩:j8).F7=(O++Ta0 x fs fs.length).length/\(⟨phL O',E4 x fs j,(j:Int),O'.length,bL tLq O'⟩:j8).eh3=bL tLq (O++Ta0 x fs fs.length))/\(Ha6 x fs=false->t=1\/t=3))
      (λs=>∃O'',s=(⟨phL O'',E4 x fs (j+1),((j+1:Nat):Int),O''.length,bL tLq O''⟩:j8)/\(j+1<=fs.length/\O''=O++Ta0 x fs (j+1)/\∀i,i<j+1->(E4 x fs i).length<48)) :=
    λ{s} hs=>.nx ⟨_,hs,hj,rfl,λi hi=>by
     by_cases e:i=j
     ·subst e;exact h48
     ·exact hr i (by omega)⟩
   by_cases hc:0<(Va9 x fs j).length
   ·have e2:decide (((Va9 x fs j).length:Int)>0)=true:=decide_eq_true (by omega)
    have e3:Nat.beq (Va9 x fs j).length 0=false:=by
     cases h:(Va9 x fs j).length with
     |zero=>omega
     |succ n=>rfl
    rw[if_pos hc] at hnew;cases O' with
    |nil =>
     have e:m8 ⟨fs,(fs.length:Int),q,fs,xs,a,c⟩ ⟨phL [],E4 x fs j,(j:Int),([]:LPq).length,bL tLq []⟩=.next ⟨1,E4 x fs (j+1),((j+1:Nat):Int),1,[[eL tP (Va9 x fs j)]]⟩:=by
      show D0 Stp.next Stp.exit Stp.fail _ _=_;simp only[D0,Int.toNat_natCast,i6,A5,qd9 hb,c1,c2,hn,Bf7,Bf8,l1,l2,m1,m2,mf4,mf5,e1,e2,e3,f0,B6,Qkc,Qkr];rw[btD (n7 hj),bt (g8 hj)]
     rw[e];exact hnx (by rw[hnew];rfl)
    |cons o os =>
     have e:m8 ⟨fs,(fs.length:Int),q,fs,xs,a,c⟩ ⟨phL (o::os),E4 x fs j,(j:Int),(o::os).length,bL tLq (o::os)⟩=.next ⟨1,E4 x fs (j+1),((j+1:Nat):Int),(o::os).length+1,bL tLq (o::os++[Va9 x fs j])⟩:=by
      show D1 Stp.next Stp.exit Stp.fail _ _=_;simp only[D1,Int.toNat_natCast,i6,A5,qd9 hb,c1,c2,hn,Bf7,Bf8,l1,l2,m1,m2,mf4,mf5,e1,e2,e3,hroom,Me3,f0,B6,Qkc,Qkr];rw[btD (n7 hj),bt (g8 hj)]
     rw[e];exact hnx (by rw[hnew,fc5,Qka];rfl)
   ·have e2:decide (((Va9 x fs j).length:Int)>0)=false:=decide_eq_false (by omega)
    rw[if_neg hc,List.append_nil] at hnew;cases O' with
    |nil =>
     have e:m8 ⟨fs,(fs.length:Int),q,fs,xs,a,c⟩ ⟨phL [],E4 x fs j,(j:Int),([]:LPq).length,bL tLq []⟩=.next ⟨0,E4 x fs (j+1),((j+1:Nat):Int),0,[]⟩:=by
      show D0 Stp.next Stp.exit Stp.fail _ _=_;simp only[D0,Int.toNat_natCast,i6,A5,qd9 hb,c1,c2,hn,Bf7,Bf8,l1,l2,m1,m2,mf4,mf5,e1,e2,f0,B6,Qkc,Qkr];rw[btD (n7 hj),bt (g8 hj)]
     rw[e];exact hnx (by rw[hnew];rfl)
    |cons o os =>
     have e:m8 ⟨fs,(fs.length:Int),q,fs,xs,a,c⟩ ⟨phL (o::os),E4 x fs j,(j:Int),(o::os).length,bL tLq (o::os)⟩=.next ⟨1,E4 x fs (j+1),((j+1:Nat):Int),(o::os).length,bL tLq (o::os)⟩:=by
      show D1 Stp.next Stp.exit Stp.fail _ _=_;simp only[D1,Int.toNat_natCast,i6,A5,qd9 hb,c1,c2,hn,Bf7,Bf8,l1,l2,m1,m2,mf4,mf5,e1,e2,f0,B6,Qkc,Qkr];rw[btD (n7 hj),bt (g8 hj)]
     rw[e];exact hnx (by rw[hnew];rfl)
  ·have e1:decide (((E4 x fs j).length:Int)>=48)=true:=decide_eq_true (by omega)
   have hno:Ha6 x fs=false:=by
    cases h:Ha6 x fs with
    |false=>rfl
    |true =>
     have:=Qkj.1 h j (Qki.2 hj)
     exact absurd (by simpa using this) h48
   have hex:∀{t:Nat},(t=1\/t=3)->(Ha6 x fs=true->t=phL (O++Ta0 x fs fs.length)*2+2/\(⟨phL O',E4 x fs j,(j:Int),O'.length,bL tLq O'⟩:j8).F7=(O++Ta0 x fs fs.length).length/\(⟨phL O',E4 x fs j,(j:Int),O'.length,bL tLq O'⟩:j8).eh3=bL tLq (O++Ta0 x fs fs.length))/\(Ha6 x fs=false->t=1\/t=3):=λh=>⟨λh'=>(by rw[hno] at h';cases h'),λ_=>h⟩
   cases O' with
   |nil =>
    have e:m8 ⟨fs,(fs.length:Int),q,fs,xs,a,c⟩ ⟨phL [],E4 x fs j,(j:Int),([]:LPq).length,bL tLq []⟩=.exit 1:=by
     show D0 Stp.next Stp.exit Stp.fail _ _=_;simp only[D0,e1,f0];rw[btD (n7 hj),bt (g8 hj)]
    rw[e];exact .ex (hex (.inl rfl))
   |cons o os =>
    have e:m8 ⟨fs,(fs.length:Int),q,fs,xs,a,c⟩ ⟨phL (o::os),E4 x fs j,(j:Int),(o::os).length,bL tLq (o::os)⟩=.exit 3:=by
     show D1 Stp.next Stp.exit Stp.fail _ _=_;simp only[D1,e1,f0];rw[btD (n7 hj),bt (g8 hj)]
    rw[e];exact .ex (hex (.inr rfl))
 ·obtain⟨h1,hO',hr⟩:=hi;have hje:j=fs.length:=by omega
  subst hje;have hyes:Ha6 x fs=true:=Qkj.2 λi hi=>by simpa using hr i (Qki.1 hi)
  refine⟨phL O'*2+2,?_,λ_=>?_,λh=>(by rw[hyes] at h;cases h)⟩
  ·cases O' with
   |nil =>
    show D0 Stp.next Stp.exit Stp.fail _ _=_;simp only[D0];rw[bfD (B8 (Qke _))];rfl
   |cons o os =>
    show D1 Stp.next Stp.exit Stp.fail _ _=_;simp only[D1];rw[bfD (B8 (Qke _))];rfl
  ·rw[<- hO'];exact⟨rfl,rfl,rfl⟩
theorem We0{α β:Type}(t:Ty α)(l:List α)(f:α->List β){j:Nat}(hj:j<l.length):(l.take (j+1)).flatMap f=(l.take j).flatMap f++f (gL t l j):=by
 rw[Qkaa,Qkd hj,List.flatMap_append];simp[gL,Qkb,Qkd hj]
theorem We1{α:Type}(t:Ty α)(l:List α)(f:α->Bool){j:Nat}(hj:j<l.length):(l.take (j+1)).all f=((l.take j).all f&&f (gL t l j)):=by
 rw[Qkaa,Qkd hj,List.all_append];simp[gL,Qkb,Qkd hj]
theorem mf6{q x:PLq}(h:(lean q).length<=48):(Fa5 q x).length<=48:=by
 unfold Fa5;split
 ·simp
 ·exact Qkf (Cd3 _ _ _) h
theorem se7{q:PLq}(h:(lean q).length<=48):∀l:LPq,(l.flatMap (Fa5 q)).length<=48*l.length
 |[]=>by simp
 |x::l=>by
  have:=se7 h l
  have:=mf6 (x:=x) h
  simp only[List.flatMap_cons,Qka,List.length_cons];omega
structure W0(q:PLq)(xs:LPq)(t:Nat)(s:p5):Prop where
 y:xs.all (Ya2 q)=true->t=phL (xs.flatMap (Fa5 q))*3+3/\s.F7=(xs.flatMap (Fa5 q)).length/\s.eh3=bL tLq (xs.flatMap (Fa5 q))
 n:xs.all (Ya2 q)=false->t=1\/t=2\/t=4\/t=5
theorem nbA:Nat.beq 1 2=false/\Nat.beq 1 3=false/\Nat.beq 1 4=false/\Nat.beq 1 1=true/\Nat.beq 3 1=false/\Nat.beq 3 2=false/\Nat.beq 3 3=true/\Nat.beq 4 1=false/\Nat.beq 4 2=false/\Nat.beq 4 3=false/\Nat.beq 4 4=true/\Nat.beq 2 3=false/\Nat.beq 2 4=false:=⟨rfl,rfl,rfl,rfl,rfl,rfl,rfl,rfl,rfl,rfl,rfl,rfl,rfl⟩
theorem Cf0(q:PLq)(xs:LPq)(hq:q.length<=1000000)(hxs:xs.length<=10000)(hx:∀x∈xs,x.length<=1000000)(hf:∀p∈lean q,okp p=true)(hfl:(lean q).length<=48) :
  ∃t s,lp (A6 ⟨(xs.length:Int)⟩) ⟨0,q,lean q,xs,0,0,[]⟩=(t,s)/\W0 q xs t s:=by
 refine Oa4 (step:=A6 ⟨(xs.length:Int)⟩) (mk:=λj (O':LPq)=>(⟨phL O',q,lean q,xs,(j:Int),O'.length,bL tLq O'⟩:p5)) xs.length
  (λj O'=>j<=xs.length/\O'=(xs.take j).flatMap (Fa5 q)/\(xs.take j).all (Ya2 q)=true) (W0 q xs) (by omega)
  (λj O' hj hi=>?_) (λj O' hj hi=>?_) 0 [] ⟨Qkh _,by simp,by simp⟩
 ·obtain⟨_,hO',hr⟩:=hi;have hn:W ((j:Int)+1)=((j+1:Nat):Int):=u7 hj (by omega)
  have hxl:=hx _ (N7 tLq hj);have hOl:O'.length<=800000:=by
   rw[hO']
   have:=se7 hfl (xs.take j)
   have:=List.length_take_le j xs
   omega
  have hroom:=ce5 O' (by omega)
  have hA:=ae9 (a:=gL tLq xs j) (c:=q) (by omega) (by omega)
  have gA:=be0 (a:=gL tLq xs j) (c:=q) (by omega) (by omega)
  have hnew:=We0 tLq xs (Fa5 q) hj;have hall:=We1 tLq xs (Ya2 q) hj;rw[<- hO'] at hnew;rw[hr,Qkal] at hall;have hfull:∀{v:Bool},Ya2 q (gL tLq xs j)=v->v=false->xs.all (Ya2 q)=false:=λ{v} h hv=>by
   rw[List.all_eq_false];exact⟨_,N7 tLq hj,by rw[h,hv];decide⟩
  have hnx : Ya2 q (gL tLq xs j) = true → ∀ {s : p5}, s = ⟨phL ((xs.take (j + 1)).flatMap (Fa5 q)), q, lean q, xs, ((j + 1 : Nat) : Int), ((xs.take (j + 1)).flatMap (Fa5 q)).length, bL tLq ((xs.take (j + 1)).flatMap (Fa5 q))⟩ →
    Nx (.next s) (λt=>W0 q xs t (⟨phL O',q,lean q,xs,(j:Int),O'.length,bL tLq O'⟩:p5))
     (λs=>∃O'',s=(⟨phL O'',q,lean q,xs,((j+1:Nat):Int),O''.length,bL tLq O''⟩:p5)/\(j+1<=xs.length/\O''=(xs.take (j+1)).flatMap (Fa5 q)/\(xs.take (j+1)).all (Ya2 q)=true)) :=
   λh {s} hs=>.nx ⟨_,hs,hj,rfl,by rw[hall,h]⟩
  have hex:Ya2 q (gL tLq xs j)=false->∀{t:Nat},(t=1\/t=2\/t=4\/t=5)->W0 q xs t (⟨phL O',q,lean q,xs,(j:Int),O'.length,bL tLq O'⟩:p5):=λh {t} ht =>
   ⟨λh'=>(by rw[hfull h rfl] at h';cases h'),λ_=>ht⟩
  have hgx:inB (j:Int) xs.length=true:=g8 hj;have hlt:((j:Int)<(xs.length:Int)):=n7 hj;generalize hX:gL tLq xs j=x at *
  obtain⟨z1,z2,z3,z4,z5,z6,z7,z8,z9,zA,zB,zC,zD⟩:=nbA;cases hap:apart x q with
  |true =>
   have hp:Fa5 q x=[x]:=by unfold Fa5;rw[hap,if_pos rfl]
   have hro:Ya2 q x=true:=by unfold Ya2;rw[hap];rfl
   rw[hap] at hA;rw[hp] at hnew;cases O' with
   |nil =>
    have e:A6 ⟨(xs.length:Int)⟩ ⟨phL [],q,lean q,xs,(j:Int),([]:LPq).length,bL tLq []⟩=.next ⟨1,q,lean q,xs,((j+1:Nat):Int),1,[[eL tP x]]⟩:=by
     show o8 Stp.next Stp.exit Stp.fail _ _=_;simp only[o8,Int.toNat_natCast,i6,A5,hX,hA,gA,hn,hgx,f0];rw[btD hlt]
    rw[e];exact hnx hro (by rw[hnew];rfl)
   |cons o os =>
    have e:A6 ⟨(xs.length:Int)⟩ ⟨phL (o::os),q,lean q,xs,(j:Int),(o::os).length,bL tLq (o::os)⟩=.next ⟨1,q,lean q,xs,((j+1:Nat):Int),(o::os).length+1,bL tLq (o::os++[x])⟩:=by
     show v8 Stp.next Stp.exit Stp.fail _ _=_;simp only[v8,Int.toNat_natCast,i6,A5,hX,hA,gA,hn,hgx,hroom,Me3,f0];rw[btD hlt]
    rw[e];exact hnx hro (by rw[hnew,fc5,Qka];rfl)
  |false =>
   have hp:Fa5 q x=Ta0 x (lean q) (lean q).length:=by unfold Fa5;rw[hap,if_neg (by decide)]
   have hro:Ya2 q x=Ha6 x (lean q):=by unfold Ya2;rw[hap];rfl
   rw[hap] at hA;rw[hp] at hnew;obtain⟨t,s,hlp,hy,hno⟩:=Bf9 x (lean q) q xs (xs.length:Int) (j:Int) O' hf (by omega) (by omega)
   cases hr48:Ha6 x (lean q) with
   |true =>
    obtain⟨h1,h2,h3⟩:=hy hr48;rw[<- hnew] at h1 h2 h3;cases O' with
    |nil =>
     have hlp:lp (m8 ⟨lean q,((lean q).length:Int),q,lean q,xs,(xs.length:Int),(j:Int)⟩) ⟨0,x,0,0,[]⟩=(t,s):=hlp;by_cases hO:(xs.take (j+1)).flatMap (Fa5 q)=[]
     ·rw[hO] at h1;have h1:t=2:=h1;subst h1;have e:A6 ⟨(xs.length:Int)⟩ ⟨phL [],q,lean q,xs,(j:Int),([]:LPq).length,bL tLq []⟩=.next ⟨0,q,lean q,xs,((j+1:Nat):Int),0,[]⟩:=by
       show o8 Stp.next Stp.exit Stp.fail _ _=_;simp only[o8,Int.toNat_natCast,i6,A5,l4,hX,hA,gA,hn,hgx,hlp,mf4,mf5,f0,B6,Qkc];rw[btD hlt]
      rw[e];exact hnx (hro.trans hr48) (by rw[hO];rfl)
     ·obtain⟨o,os,hO⟩:=Qky hO;rw[hO] at h1 h2 h3;have h1:t=4:=h1;subst h1;have e:A6 ⟨(xs.length:Int)⟩ ⟨phL [],q,lean q,xs,(j:Int),([]:LPq).length,bL tLq []⟩=.next ⟨1,q,lean q,xs,((j+1:Nat):Int),s.F7,s.eh3⟩:=by
       show o8 Stp.next Stp.exit Stp.fail _ _=_;simp only[o8,Int.toNat_natCast,i6,A5,l4,hX,hA,gA,hn,hgx,hlp,z8,z9,zA,zB,f0,B6,Qkc];rw[btD hlt]
      rw[e];exact hnx (hro.trans hr48) (by rw[h2,h3,hO];rfl)
    |cons o os =>
     have hlp:lp (m8 ⟨lean q,((lean q).length:Int),q,lean q,xs,(xs.length:Int),(j:Int)⟩) ⟨1,x,0,(o::os).length,bL tLq (o::os)⟩=(t,s):=hlp;have h1:t=4:=by rw[h1,hnew];rfl
     subst h1;have e:A6 ⟨(xs.length:Int)⟩ ⟨phL (o::os),q,lean q,xs,(j:Int),(o::os).length,bL tLq (o::os)⟩=.next ⟨1,q,lean q,xs,((j+1:Nat):Int),s.F7,s.eh3⟩:=by
      show v8 Stp.next Stp.exit Stp.fail _ _=_;simp only[v8,Int.toNat_natCast,i6,A5,l4,hX,hA,gA,hn,hgx,hlp,z8,z9,zA,zB,f0,B6,Qkc];rw[btD hlt]
     rw[e];exact hnx (hro.trans hr48) (by rw[h2,h3,hnew];rfl)
   |false =>
    have ht:=hno hr48;cases O' with
    |nil =>
     have hlp:lp (m8 ⟨lean q,((lean q).length:Int),q,lean q,xs,(xs.length:Int),(j:Int)⟩) ⟨0,x,0,0,[]⟩=(t,s):=hlp
     rcases ht with rfl|rfl
     ·have e : A6 ⟨(xs.length : Int)⟩ ⟨phL [], q, lean q, xs, (j : Int), ([] : LPq).length, bL tLq []⟩ = .exit 1 := by
       show o8 Stp.next Stp.exit Stp.fail _ _=_;simp only[o8,Int.toNat_natCast,i6,A5,l4,hX,hA,gA,hn,hgx,hlp,z4,f0,B6,Qkc];rw[btD hlt]
      rw[e];exact .ex (hex (hro.trans hr48) (by simp))
     ·have e : A6 ⟨(xs.length : Int)⟩ ⟨phL [], q, lean q, xs, (j : Int), ([] : LPq).length, bL tLq []⟩ = .exit 2 := by
       show o8 Stp.next Stp.exit Stp.fail _ _=_;simp only[o8,Int.toNat_natCast,i6,A5,l4,hX,hA,gA,hn,hgx,hlp,z5,z6,z7,f0,B6,Qkc];rw[btD hlt]
      rw[e];exact .ex (hex (hro.trans hr48) (by simp))
    |cons o os =>
     have hlp:lp (m8 ⟨lean q,((lean q).length:Int),q,lean q,xs,(xs.length:Int),(j:Int)⟩) ⟨1,x,0,(o::os).length,bL tLq (o::os)⟩=(t,s):=hlp
     rcases ht with rfl|rfl
     ·have e : A6 ⟨(xs.length : Int)⟩ ⟨phL (o :: os), q, lean q, xs, (j : Int), (o :: os).length, bL tLq (o :: os)⟩ = .exit 4 := by
       show v8 Stp.next Stp.exit Stp.fail _ _=_;simp only[v8,Int.toNat_natCast,i6,A5,l4,hX,hA,gA,hn,hgx,hlp,z4,f0,B6,Qkc];rw[btD hlt]
      rw[e];exact .ex (hex (hro.trans hr48) (by simp))
     ·have e : A6 ⟨(xs.length : Int)⟩ ⟨phL (o :: os), q, lean q, xs, (j : Int), (o :: os).length, bL tLq (o :: os)⟩ = .exit 5 := by
       show v8 Stp.next Stp.exit Stp.fail _ _=_;simp only[v8,Int.toNat_natCast,i6,A5,l4,hX,hA,gA,hn,hgx,hlp,z5,z6,z7,f0,B6,Qkc];rw[btD hlt]
      rw[e];exact .ex (hex (hro.trans hr48) (by simp))
 ·obtain⟨h1,hO',hr⟩:=hi;have hje:j=xs.length:=by omega
  subst hje;rw[Qkl] at hO' hr;refine⟨phL O'*3+3,?_,λ_=>?_,λh=>(by rw[hr] at h;cases h)⟩
  ·cases O' with
   |nil =>
    show o8 Stp.next Stp.exit Stp.fail _ _=_;simp only[o8];rw[bfD (B8 (Qke _))];rfl
   |cons o os =>
    show v8 Stp.next Stp.exit Stp.fail _ _=_;simp only[v8];rw[bfD (B8 (Qke _))];rfl
  ·rw[<- hO'];exact⟨rfl,rfl,rfl⟩
def ua9(x:LPq)(y:PLq):LPq×Int:=match J4 x y with
 |some r=>(r,0)
 |none=>([],9)
theorem Jf8{α:Type}(t:Ty α)(l:List α)(n:Int):(two (r1L t) r1I).rd (.tup [eL t l,i n],[])=some (l,n):=by
 have h:(r1L t).rd [] (eL t l)=some l:=by
  show Bool.rec (motive:=λ_=>Option (List α)) none (some (rt t l)) (Bool.and (Nat.beq t.es t.es) (okE t l))=_
  rw[i6,A5,Qkv];rfl
 simp only[two,h];rfl
theorem cg9{α:Type}(t:Ty α)(l:List α)(n:Int):(two (r1L t) r1I).rd (.tup [.tree t.es l.length (λk=>d9 (bL t l) (0+k)),i n],[])=some (l,n):=by
 have h:(r1L t).rd [] (.tree t.es l.length (λk=>d9 (bL t l) (0+k)))=some l:=by
  show Bool.rec (motive:=λ_=>Option (List α)) none (some (lsL t l.length λk=>d9 (bL t l) (0+k))) (Bool.and (Nat.beq t.es t.es) (okL t l.length λk=>d9 (bL t l) (0+k)))=_
  rw[pc7 t (l:=l) rfl λk hk=>by rw[Qkg,fa9 t hk],Sb1 t (f:=λk=>gL t l k) λk hk=>by rw[Qkg,fa9 t hk],Qkv]
  rfl
 simp only[two,h];rfl
theorem dg0{α:Type}(t:Ty α)(k:Nat)(l:List α)(n:Int):(two (r1L t) r1I).rd (.tup [.sl 0 0 l.length 0,i n],[⟨k,t.es,bL t l,true,false,0⟩])=some (l,n):=by
 have h:(r1L t).rd [⟨k,t.es,bL t l,true,false,0⟩] (.sl 0 0 l.length 0)=some l:=Rf2 t k l;simp only[two,h];rfl
theorem Cd4(x:LPq)(y:PLq)(hy:y.length<=1000000)(hx:x.length<=10000)(hxl:∀c∈x,c.length<=1000000):Rd (two (r1L tLq) r1I) (La1 x y) (λr=>r=ua9 x y):=by
 have hF:=bd2 (c:=y) (by omega);have gF:=bd3 (c:=y) (by omega)
 have hL:U1 y=lean y:=rfl;have gL':U2 y=true:=decide_eq_true hy;unfold La1 ua9 J4;simp only[i6,A5,l4,hF,gF,hL,gL',f0,Qkc];cases hf:ful y with
 |false=>exact⟨_,(x,0),rfl,Jf8 tLq x 0,rfl⟩
 |true =>
  have hc:=(Z0.1 hf).1;have hfl:(lean y).length<=48:=by
   have:=vb9 y
   rw[beq_iff_eq,ab9] at hc;omega
  obtain⟨t,s,hlp,hw⟩:=Cf0 y x hy hx hxl (λp hp=>Sb3 hc p (List.mem_append_left _ (Zb3 hp))) hfl
  simp only[hlp,Qkz,B6,if_true];cases hr:x.all (Ya2 y) with
  |false =>
   rcases hw.n hr with rfl|rfl|rfl|rfl<;>exact⟨_,([],9),rfl,rfl,rfl⟩
  |true =>
   obtain⟨h1,h2,h3⟩:=hw.y hr;by_cases hO:x.flatMap (Fa5 y)=[]
   ·rw[hO] at h1 ⊢;have h1:t=3:=h1;subst h1;exact⟨_,([],0),rfl,rfl,rfl⟩
   ·have h1 : t = 6 := by
     obtain⟨o,os,hO⟩:=Qky hO;rw[h1,hO];rfl
    subst h1;rw[h2,h3];by_cases h200:(x.flatMap (Fa5 y)).length<=200
    ·rw[decide_eq_true h200];refine⟨_,(x.flatMap (Fa5 y),0),?_,cg9 tLq _ 0,rfl⟩
     have:decide (((x.flatMap (Fa5 y)).length:Int)>200)=false:=decide_eq_false (by omega)
     rw[this];rfl
    ·rw[decide_eq_false h200]
     have:decide (((x.flatMap (Fa5 y)).length:Int)>200)=true:=decide_eq_true (by omega)
     rw[this];exact⟨_,([],9),rfl,rfl,rfl⟩
theorem Ac8{x:LPq}{y:PLq}(hy:y.length<=1000000)(hx:x.length<=10000)(hxl:∀c∈x,c.length<=1000000):ga7 x y=ua9 x y:=(Cd4 x y hy hx hxl).p
theorem We2{x:LPq}{y:PLq}(hy:y.length<=1000000)(hx:x.length<=10000)(hxl:∀c∈x,c.length<=1000000):cb5 x y=true:=(Cd4 x y hy hx hxl).g
def schk(s:LPq):Int:=if (s.length:Int)>16 then 2 else match s.find? λc=>chk c != 0 with
 |some c=>chk c
 |none=>0
theorem Me4{α:Type}(t:Ty α)(l:List α)(f:α->Bool)(h:l.any f=true):l.find? f=some (gL t l (l.findIdx f)):=by
 have hlt:l.findIdx f<l.length:=Qkt.2 (Qko.1 h);rw[List.find?_eq_some_iff_getElem];refine⟨?_,l.findIdx f,hlt,?_,λj hj=>?_⟩
 ·simp only[gL,Qkb,Qkd hlt,Option.getD_some];exact List.findIdx_getElem (w:=hlt)
 ·simp[gL,Qkb,Qkd hlt]
 ·have:=List.not_of_lt_findIdx hj
  simpa using this
theorem Rd4(s:LPq)(hs:s.length<=1000000)(hl:∀c∈s,c.length<=1000000):bb1 s=some (i (schk s),[]):=by
 have h:=sb5 (step:=Ea7 ⟨s,(s.length:Int)⟩) (mk:=λj=>(⟨(j:Int)⟩:Y8)) (c:=λc=>chk c != 0) (u:=1) (fin:=2) tLq s (by omega)
  (λj hj=>by
   have hc:=hl _ (N7 tLq hj);simp only[Ea7,za0,Int.toNat_natCast,i6,A5,Ac7 _ (show (gL tLq s j).length<=1000000000 by omega),qd6 _ (show (gL tLq s j).length<=1000000000 by omega),u7 hj (show s.length<=4611686018427387904 by omega),f0]
   rw[btD (n7 hj),bt (g8 hj)])
  (by simp only[Ea7,za0];rw[bfD (B8 (Qke _))]) 0 (Qkh _)
 rw[Qkk,Qkg] at h;unfold bb1 schk;simp only[i6,A5,l4];rw[show (⟨0⟩:Y8)=⟨((0:Nat):Int)⟩ from rfl,h]
 by_cases h16:(s.length:Int)>16
 ·rw[btD h16,if_pos h16]
 ·rw[bfD h16,if_neg h16];cases ha:s.any λc=>chk c != 0 with
  |true =>
   have hlt:s.findIdx (λc=>chk c != 0)<s.length:=Qkt.2 (Qko.1 ha)
   have hc:=hl _ (N7 tLq hlt);rw[Me4 tLq s _ ha];simp only[Int.toNat_natCast,if_true,Ac7 _ (show (gL tLq s (s.findIdx λc=>chk c != 0)).length<=1000000000 by omega)]
   rfl
  |false =>
   rw[Qkn.2 λc hc=>by have:=List.any_eq_false.1 ha c hc;simpa using this]
   rfl
theorem mf7{s:LPq}(hs:s.length<=1000000)(hl:∀c∈s,c.length<=1000000):sb6 s=schk s:=by unfold sb6;rw[Rd4 s hs hl];rfl
theorem mf8{s:LPq}(hs:s.length<=1000000)(hl:∀c∈s,c.length<=1000000):sb7 s=true:=by unfold sb7;rw[Rd4 s hs hl];rfl
theorem Tf3{c:PLq}(h:chk c=0):c.length<=48:=(ab9.1 h).1
theorem We3{s:LPq}(h:schk s=0):s.length<=16/\∀c∈s,chk c=0:=by
 unfold schk at h
 split at h
 ·cases h
 ·refine⟨by omega,λc hc=>?_⟩
  cases hf:s.find? λc=>chk c != 0 with
  |none=>simpa using Qkn.1 hf c hc
  |some d =>
   rw[hf] at h
   have:=List.find?_some hf
   simp only at h
   rw[h] at this;cases this
theorem Uc0{ps r:LPq}{q:PLq}(h:J4 ps q=some r)(hp:ps.length<=200):r.length<=200:=by
 unfold J4 at h
 split at h
 ·split at h
  ·rename_i h';injection h with h;subst h;rw[Qkp] at h';exact of_decide_eq_true h'.2
  ·cases h
 ·injection h with h;subst h;exact hp
theorem mf9(x fs:PLq)(j:Nat)(h:(E4 x fs j).length<48):(Va9 x fs j).length<=48:=by
 unfold Va9
 have:=vb9 (E4 x fs j++[V0 (gL tP fs j)])
 rw[Qka] at this;simp only[List.length_singleton] at this;omega
theorem jd0{ps r:LPq}{q:PLq}(h:J4 ps q=some r)(hp:∀c∈ps,c.length<=48):∀c∈r,c.length<=48:=by
 unfold J4 at h
 split at h
 ·split at h
  ·rename_i h';injection h with h;subst h;rw[Qkp,Qkj] at h';intro c hc;obtain⟨x,hx,hc⟩:=List.mem_flatMap.1 hc;have hr:=h'.1 x hx;unfold Fa5 at hc;unfold Ya2 at hr;cases ha:apart x q with
   |true=>rw[ha,if_pos rfl] at hc;rw[Qkw.1 hc];exact hp x hx
   |false =>
    rw[ha,if_neg (by decide)] at hc
    rw[ha,Bool.false_or] at hr;obtain⟨j,hj,rfl,_⟩:=Zb4.1 hc
    have:=Qkj.1 hr j (Qki.2 hj)
    exact mf9 x _ j (by simpa using this)
  ·cases h
 ·injection h with h;subst h;exact hp
def wb0(s:LPq)(o:Option LPq):Option LPq:=s.foldl (λst q=>st.bind λps=>J4 ps q) o
def qb7(x:PLq)(y:LPq):LPq×Int :=
 if chk x != 0 then ([],chk x) else if schk y != 0 then ([],schk y) else match Ab3 x y with
  |some r=>(r,0)
  |none=>([],9)
structure M0(c:PLq)(ys:LPq)(t:Nat)(s:C8):Prop where
 y:∀r,wb0 ys (some [c])=some r->(ys=[]/\t=2)\/(ys≠[]/\t=4/\s.ka6=r)
 n:wb0 ys (some [c])=none->(t=1/\∃j,s.xc4=((j:Nat):Int)/\ua9 [c] (gL tLq ys j)=([],9))\/(t=3/\∃j,s.xc4=((j:Nat):Int)/\ua9 s.ka6 (gL tLq ys j)=([],9)/\j<ys.length/\s.ka6.length<=200/\∀c∈s.ka6,c.length<=48)
theorem Cd5(s:LPq):wb0 s none=none:=kc7 s
theorem Ee1{ys:LPq}{j:Nat}(hj:j<ys.length)(o:Option LPq):wb0 (ys.take (j+1)) o=(wb0 (ys.take j) o).bind λps=>J4 ps (gL tLq ys j):=by
 unfold wb0;rw[Qkaa,Qkd hj,List.foldl_append];simp[gL,Qkb,Qkd hj]
theorem se8(ys:LPq)(j:Nat)(o:Option LPq):wb0 ys o=wb0 (ys.drop j) (wb0 (ys.take j) o):=by
 unfold wb0;rw[<- List.foldl_append,List.take_append_drop]
theorem Cf1(c:PLq)(ys:LPq)(hc:c.length<=48)(hn:ys.length<=1000)(hy:∀q∈ys,q.length<=1000000) :
  ∃t s,lp (P6 ⟨ys,(ys.length:Int),c⟩) ⟨0,0,[]⟩=(t,s)/\M0 c ys t s:=by
 refine Oa4 (step:=P6 ⟨ys,(ys.length:Int),c⟩) (mk:=λj (ps:LPq)=>(⟨if j=0 then 0 else 1,(j:Int),if j=0 then [] else ps⟩:C8)) ys.length
  (λj ps=>j<=ys.length/\wb0 (ys.take j) (some [c])=some ps/\ps.length<=200/\∀x∈ps,x.length<=48) (M0 c ys) (by omega)
  (λj ps hj hi=>?_) (λj ps hj hi=>?_) 0 [c] ⟨Qkh _,rfl,by simp,by simpa using hc⟩
 ·obtain⟨_,hm,hl,hle⟩:=hi;have hw1:W ((j:Int)+1)=((j+1:Nat):Int):=u7 hj (by omega)
  have hq:=hy _ (N7 tLq hj);have hgx:inB (j:Int) ys.length=true:=g8 hj;have hmj:=Ee1 hj (some [c]);have hsp:=se8 ys (j+1) (some [c]);rw[hm] at hmj;have pw:=Ac8 (x:=ps) hq (by omega) λx hx=>Qkf (hle x hx) (by omega)
  have gw:=We2 (x:=ps) hq (by omega) λx hx=>Qkf (hle x hx) (by omega)
  have hmj:wb0 (ys.take (j+1)) (some [c])=J4 ps (gL tLq ys j):=hmj;by_cases h0:j=0
  ·subst h0;have hps:ps=[c]:=by
    have:some [c]=some ps:=hm
    injection this with this;exact this.symm
   subst hps;cases hw:J4 [c] (gL tLq ys 0) with
   |some r =>
    have hR:ua9 [c] (gL tLq ys 0)=(r,0):=by unfold ua9;rw[hw]
    rw[hR] at pw;have e:P6 ⟨ys,(ys.length:Int),c⟩ ⟨0,((0:Nat):Int),[]⟩=.next ⟨1,((0+1:Nat):Int),r⟩:=by
     show R4 Stp.next Stp.exit Stp.fail _ _=_;simp only[R4,Int.toNat_natCast,i6,A5,pw,gw,hw1,hgx,f0,Qkc];rw[btD (n7 hj)];rfl
    show Nx (P6 ⟨ys,(ys.length:Int),c⟩ ⟨0,((0:Nat):Int),[]⟩) _ _;rw[e];exact .nx ⟨r,rfl,hj,hmj.trans hw,Uc0 hw (by simp),jd0 hw (by simpa using hc)⟩
   |none =>
    have hR:ua9 [c] (gL tLq ys 0)=([],9):=by unfold ua9;rw[hw]
    rw[hR] at pw;have e:P6 ⟨ys,(ys.length:Int),c⟩ ⟨0,((0:Nat):Int),[]⟩=.exit 1:=by
     show R4 Stp.next Stp.exit Stp.fail _ _=_;simp only[R4,Int.toNat_natCast,i6,A5,pw,gw,hw1,hgx,f0,Qkc];rw[btD (n7 hj)];rfl
    show Nx (P6 ⟨ys,(ys.length:Int),c⟩ ⟨0,((0:Nat):Int),[]⟩) _ _;rw[e];rw[hmj,hw,Cd5] at hsp;exact .ex ⟨λr hr=>(by rw[hsp] at hr;cases hr),λ_=>.inl ⟨rfl,0,rfl,hR⟩⟩
  ·have em:(⟨if j=0 then 0 else 1,(j:Int),if j=0 then [] else ps⟩:C8)=⟨1,(j:Int),ps⟩:=by rw[if_neg h0,if_neg h0]
   rw[em];cases hw:J4 ps (gL tLq ys j) with
   |some r =>
    have hR:ua9 ps (gL tLq ys j)=(r,0):=by unfold ua9;rw[hw]
    rw[hR] at pw;have e:P6 ⟨ys,(ys.length:Int),c⟩ ⟨1,(j:Int),ps⟩=.next ⟨1,((j+1:Nat):Int),r⟩:=by
     show R5 Stp.next Stp.exit Stp.fail _ _=_;simp only[R5,Int.toNat_natCast,i6,A5,pw,gw,hw1,hgx,f0,Qkc];rw[btD (n7 hj)];rfl
    rw[e];exact .nx ⟨r,by rw[if_neg (by omega),if_neg (by omega)],hj,hmj.trans hw,Uc0 hw hl,jd0 hw hle⟩
   |none =>
    have hR:ua9 ps (gL tLq ys j)=([],9):=by unfold ua9;rw[hw]
    rw[hR] at pw;have e:P6 ⟨ys,(ys.length:Int),c⟩ ⟨1,(j:Int),ps⟩=.exit 3:=by
     show R5 Stp.next Stp.exit Stp.fail _ _=_;simp only[R5,Int.toNat_natCast,i6,A5,pw,gw,hw1,hgx,f0,Qkc];rw[btD (n7 hj)];rfl
    rw[e];rw[hmj,hw,Cd5] at hsp;exact .ex ⟨λr hr=>(by rw[hsp] at hr;cases hr),λ_=>.inr ⟨rfl,j,rfl,hR,hj,hl,hle⟩⟩
 ·obtain⟨h1,hm,hl,hle⟩:=hi;have hje:j=ys.length:=by omega
  subst hje;rw[Qkl] at hm;by_cases h0:ys.length=0
  ·have hnil:ys=[]:=Qkad.1 h0;subst hnil;refine⟨2,?_,λr hr=>.inl ⟨rfl,rfl⟩,λh=>(by rw[hm] at h;cases h)⟩
   show R4 Stp.next Stp.exit Stp.fail ⟨[],((([]:LPq).length:Nat):Int),c⟩ ⟨0,((([]:LPq).length:Nat):Int),[]⟩=_;simp only[R4];rfl
  ·have em:(⟨if ys.length=0 then 0 else 1,(ys.length:Int),if ys.length=0 then [] else ps⟩:C8)=⟨1,(ys.length:Int),ps⟩:=by rw[if_neg h0,if_neg h0]
   rw[em];refine⟨4,?_,λr hr=>.inr ⟨λe=>h0 (by rw[e];rfl),rfl,?_⟩,λh=>(by rw[hm] at h;cases h)⟩
   ·show R5 Stp.next Stp.exit Stp.fail _ _=_;simp only[R5];rw[bfD (B8 (Qke _))]
   ·rw[hm] at hr;injection hr
theorem Rd5{c:PLq}(h:ful c=false):∀s:LPq,Ab3 c s=some []:=by
 intro s;unfold Ab3;rw[h,if_neg (by decide)]
 induction s with
 |nil=>rfl
 |cons q s ih =>
  have:J4 [] q=some []:=by unfold J4;split<;>rfl
  show s.foldl _ (J4 [] q)=_;rw[this];exact ih
theorem se9(x:PLq)(y:LPq)(hx:x.length<=1000000)(hn:y.length<=1000000)(hy:∀q∈y,q.length<=1000000):Rd (two (r1L tLq) r1I) (bb2 x y) (λr=>r=qb7 x y):=by
 have hC:=Ac7 x (show x.length<=1000000000 by omega);have gC:=qd6 x (show x.length<=1000000000 by omega)
 have hS:=mf7 hn hy;have gS:=mf8 hn hy;have hF:=bd2 (c:=x) (by omega);have gF:=bd3 (c:=x) (by omega)
 have hL:U1 x=lean x:=rfl;have gL':U2 x=true:=decide_eq_true hx;unfold bb2 qb7;simp only[i6,A5,l4,hC,gC,hS,gS,hF,gF,hL,gL',f0,Qkc];cases hc:chk x != 0 with
 |true=>exact⟨_,([],chk x),rfl,rfl,rfl⟩
 |false =>
  cases hs:schk y != 0 with
  |true=>exact⟨_,([],schk y),rfl,rfl,rfl⟩
  |false =>
   have hc0:chk x=0:=by simpa using hc
   have hs0:=We3 (show schk y=0 by simpa using hs)
   simp only[B6,Qkq,if_false];cases hf:ful x with
   |false =>
    rw[Rd5 hf];exact⟨_,([],0),rfl,rfl,rfl⟩
   |true =>
    simp only[Qkz,B6];have hm:Ab3 x y=wb0 y (some [lean x]):=by unfold Ab3 wb0;rw[hf];rfl
    have hll:(lean x).length<=48:=Qkf (vb9 x) (Tf3 hc0);obtain⟨t,s,hlp,hM⟩:=Cf1 (lean x) y hll (by omega) hy
    rw[hlp,hm];cases hr:wb0 y (some [lean x]) with
    |some r =>
     rcases hM.y r hr with⟨rfl,rfl⟩|⟨_,rfl,rfl⟩
     ·have : r = [lean x] := by
       have:some [lean x]=some r:=hr
       injection this with this;exact this.symm
      subst this;exact⟨_,([lean x],0),rfl,dg0 tLq 24 [lean x] 0,rfl⟩
     ·exact⟨_,(s.ka6,0),rfl,Jf8 tLq _ 0,rfl⟩
    |none =>
     rcases hM.n hr with⟨rfl,j,h1,h2⟩|⟨rfl,j,h1,h2,hj,h4,h5⟩
     ·by_cases hj:j<y.length
      ·have pw:=Ac8 (x:=[lean x]) (hy _ (N7 tLq hj)) (by simp) (by simpa using Qkf hll (by omega))
       rw[h2] at pw;simp only[h1,Int.toNat_natCast,pw];exact⟨_,([],9),rfl,rfl,rfl⟩
      ·have hd:gL tLq y j=[]:=by simp[gL,Qkb,List.getElem?_eq_none (show y.length<=j by omega)];rfl
       have pw:=Ac8 (x:=[lean x]) (y:=gL tLq y j) (by rw[hd];simp) (by simp) (by simpa using Qkf hll (by omega))
       rw[h2] at pw;simp only[h1,Int.toNat_natCast,pw];exact⟨_,([],9),rfl,rfl,rfl⟩
     ·have pw:=Ac8 (x:=s.ka6) (hy _ (N7 tLq hj)) (by omega) λc hc=>Qkf (h5 c hc) (by omega)
      rw[h2] at pw;simp only[h1,Int.toNat_natCast,pw];exact⟨_,([],9),rfl,rfl,rfl⟩
theorem Cf2{x:PLq}{y:LPq}(hx:x.length<=1000000)(hn:y.length<=1000000)(hy:∀q∈y,q.length<=1000000):Ub6 x y=qb7 x y:=(se9 x y hx hn hy).p
theorem Cf3{x:PLq}{y:LPq}(hx:x.length<=1000000)(hn:y.length<=1000000)(hy:∀q∈y,q.length<=1000000):Ub7 x y=true:=(se9 x y hx hn hy).g
def ia6(x:LPq)(y:PLq):Bool×Int:=((qb7 y x).2==0&&((qb7 y x).1.length:Int)==0,(qb7 y x).2)
theorem Rd6(x:LPq)(y:PLq)(hy:y.length<=1000000)(hn:x.length<=1000000)(hx:∀q∈x,q.length<=1000000):Sa4 x y=some (.tup [b (ia6 x y).1,i (ia6 x y).2],[]):=by
 unfold Sa4 ia6;simp only[i6,A5,Cf2 hy hn hx,Cf3 hy hn hx,f0];cases (qb7 y x).2==0<;>rfl
theorem Uc1{x:LPq}{y:PLq}(hy:y.length<=1000000)(hn:x.length<=1000000)(hx:∀q∈x,q.length<=1000000):p9 x y=ia6 x y:=by unfold p9;rw[Rd6 x y hy hn hx];rfl
theorem te0{x:LPq}{y:PLq}(hy:y.length<=1000000)(hn:x.length<=1000000)(hx:∀q∈x,q.length<=1000000):ua7 x y=true:=by unfold ua7;rw[Rd6 x y hy hn hx];rfl
def Wa0(c:PLq)(s:LPq):Bool:=!s.any λq=>!apart c q
theorem We4{c q:PLq}(hc:c.length<=1000000)(hq:q.length<=1000000):cb8 ⟨q,c⟩=⟨1,!apart c q⟩:=by
 unfold cb8 xa0;simp only[i6,A5,ae9 (a:=c) (c:=q) (by omega) (by omega),be0 (a:=c) (c:=q) (by omega) (by omega),f0]
theorem Rd7(c:PLq)(s:LPq)(hc:c.length<=1000000)(hs:s.length<=1000000)(hl:∀q∈s,q.length<=1000000):bb3 c s=some (b (Wa0 c s),[]):=by
 have h:=sb5 (step:=M4 ⟨s,(s.length:Int)⟩) (mk:=λj=>(⟨(j:Int),c⟩:q8)) (c:=λq=>!apart c q) (u:=1) (fin:=2) tLq s (by omega)
  (λj hj=>by
   have hq:=hl _ (N7 tLq hj);simp only[M4,K6,Int.toNat_natCast,i6,l4,We4 hc hq,u7 hj (show s.length<=4611686018427387904 by omega),f0,Qkc]
   rw[btD (n7 hj),bt (g8 hj)]
   rfl)
  (by simp only[M4,K6];rw[bfD (B8 (Qke _))]) 0 (Qkh _)
 rw[Qkk,Qkg] at h;have hI:ea2 ⟨s,c⟩=⟨1,if s.any (λq=>!apart c q) then ((s.findIdx (λq=>!apart c q):Nat):Int) else -1,c⟩:=by
  unfold ea2 K7;simp only[i6,l4];rw[show (⟨0,c⟩:q8)=⟨((0:Nat):Int),c⟩ from rfl,h]
  cases s.any (λq=>!apart c q)<;>rfl
 unfold bb3 Wa0 ma9 E9;simp only[i6,l4,hI];cases hA:s.any (λq=>!apart c q) with
 |true =>
  simp only[if_true]
  have:decide (((s.findIdx (λq=>!apart c q):Nat):Int)>=0)=true:=decide_eq_true (by omega)
  rw[this];rfl
 |false=>rfl
theorem Uc2{c:PLq}{s:LPq}(hc:c.length<=1000000)(hs:s.length<=1000000)(hl:∀q∈s,q.length<=1000000):P7 c s=Wa0 c s:=by unfold P7;rw[Rd7 c s hc hs hl];rfl
theorem Uc3{c:PLq}{s:LPq}(hc:c.length<=1000000)(hs:s.length<=1000000)(hl:∀q∈s,q.length<=1000000):Ba3 c s=true:=by unfold Ba3;rw[Rd7 c s hc hs hl];rfl
def inR(s t:LPq):Bool×Int:=match s.find? λc=>!(ia6 t c).1 with
 |some c=>ia6 t c
 |none=>(true,0)
def nf0(x y:LPq):Bool×Int:=if schk x != 0 then (false,schk x) else if schk y != 0 then (false,schk y) else if (inR x y).1 then inR y x else inR x y
end Go.Ev.Ce
namespace Go.Ev.Ce
def Kc9(a b:V3):V3:=⟨a.x-b.x,a.y-b.y,a.z-b.z⟩
def N3(u w x:V3):V3:=q7 (Kc9 w u) (Kc9 x u)
def Sol(l:List V3):Prop:=∃a c k v,a∈l/\c∈l/\k∈l/\v∈l/\dot (N3 a c k) (Kc9 v a)≠0
theorem Sol.off{l:List V3}(h:Sol l){n:V3}(hn:n≠⟨0,0,0⟩)(b:Int):∃v∈l,dot n v≠b:=by
 obtain⟨a,c,k,v,ha,hc,hk,hv,hd⟩:=h;by_cases h1:dot n a=b
 ·by_cases h2:dot n c=b
  ·by_cases h3:dot n k=b
   ·by_cases h4:dot n v=b
    ·exfalso;unfold N3 at hd;generalize hD:dot (q7 (Kc9 c a) (Kc9 k a)) (Kc9 v a)=D at *
     have q1:dot n (Kc9 c a)=0:=by unfold dot Kc9 at *;grind
     have q2:dot n (Kc9 k a)=0:=by unfold dot Kc9 at *;grind
     have q3:dot n (Kc9 v a)=0:=by unfold dot Kc9 at *;grind
     generalize Kc9 c a=p at *
     generalize Kc9 k a=q at *
     generalize Kc9 v a=r at *
     have i1:D*n.x=(q7 q r).x*dot n p+(q7 r p).x*dot n q+(q7 p q).x*dot n r:=by rw[<- hD];simp only[dot,q7];grind
     have i2:D*n.y=(q7 q r).y*dot n p+(q7 r p).y*dot n q+(q7 p q).y*dot n r:=by rw[<- hD];simp only[dot,q7];grind
     have i3:D*n.z=(q7 q r).z*dot n p+(q7 r p).z*dot n q+(q7 p q).z*dot n r:=by rw[<- hD];simp only[dot,q7];grind
     rw[q1,q2,q3] at i1 i2 i3;have z:∀{x:Int},D*x=0->x=0:=λh=>(Int.mul_eq_zero.1 h).resolve_left hd
     exact hn (V3.ext' (z (by omega)) (z (by omega)) (z (by omega)))
    ·exact⟨v,hv,h4⟩
   ·exact⟨k,hk,h3⟩
  ·exact⟨c,hc,h2⟩
 ·exact⟨a,ha,h1⟩
theorem Sol.ne{l:List V3}(h:Sol l):∃v,v∈l:=by obtain⟨a,_,_,_,ha,_⟩:=h;exact⟨a,ha⟩
structure Fac(l:List V3)(n:V3)(b:Int):Prop where
 hd:∀v∈l,dot n v<=b
 on:∃u w x,u∈l/\w∈l/\x∈l/\N3 u w x≠⟨0,0,0⟩/\dot n u=b/\dot n w=b/\dot n x=b
end Go.Ev.Ce
namespace Go.Ev.Ce
open Go Go.Ev Go.Ev.L Go.Proofs
structure og8(l:List V3)(p:Pln):Prop extends Fac l p.n p.b where
 ok:okp p=true
def Fv:V3:=⟨10000,100,1⟩
structure Crs(l:List V3)(p:Pln)(v:V3):Prop where
 h:∃u w,u∈l/\w∈l/\dot p.n u=p.b/\dot p.n w=p.b/\dot Fv w<dot Fv v/\dot Fv v<dot Fv u/\N3 v u w≠⟨0,0,0⟩
 on:dot p.n v=p.b
section
variable{l:List V3}(hl:l.all inV=true)
include hl
end
structure Mc(c:PLq):Prop where
 g:ce2 c
 l:c.length<=12
structure Ms(y:Nat)(s:LPq):Prop where
 n:s.length<=y
 c:∀c∈s,Mc c
theorem dd0(x fs:PLq):∀j,(E4 x fs j).length<=x.length+j
 |0=>by simp[E4]
 |j+1=>by
  have h1:=dd0 x fs j;have h2:=vb9 (E4 x fs j++[gL tP fs j]);rw[Qka] at h2;simp only[List.length_singleton] at h2;show (lean (E4 x fs j++[gL tP fs j])).length<=_;omega
theorem Cf4{x fs:PLq}(h:x.length+fs.length<=48):Ha6 x fs=true:=Qkj.2 λj hj=>decide_eq_true (by
 have:=Qki.1 hj
 have:=dd0 x fs j
 omega)
theorem Cf5(x fs:PLq)(j:Nat):(Va9 x fs j).length<=x.length+j+1:=by
 have h1:=dd0 x fs j;have h2:=vb9 (E4 x fs j++[V0 (gL tP fs j)]);rw[Qka] at h2;simp only[List.length_singleton] at h2;unfold Va9;omega
structure Bnd(n m:Nat)(ps:LPq):Prop where
 n:ps.length<=n
 m:∀x∈ps,x.length<=m
theorem Me5{q x:PLq}{k m:Nat}(h1:1<=k)(hq:(lean q).length<=k)(hx:x.length<=m):(Fa5 q x).length<=k/\∀y∈Fa5 q x,y.length<=m+k:=by
 unfold Fa5;split
 ·exact⟨by simpa using h1,λy hy=>by rw[Qkw.1 hy];omega⟩
 ·refine⟨Qkf (Cd3 _ _ _) hq,λy hy=>?_⟩
  obtain⟨j,hj,rfl,_⟩:=Zb4.1 hy
  have:=Cf5 x (lean q) j
  omega
theorem Me6{q:PLq}{k m:Nat}(h1:1<=k)(hq:(lean q).length<=k):∀ps:LPq,(∀x∈ps,x.length<=m)->(ps.flatMap (Fa5 q)).length<=k*ps.length
 |[],_=>by simp
 |x::ps,h=>by
  have a:=Me6 h1 hq ps λx hx=>h x (List.mem_cons_of_mem _ hx)
  have c:=(Me5 (x:=x) h1 hq (h x (by simp))).1
  simp only[List.flatMap_cons,Qka,List.length_cons];rw[Nat.mul_add];omega
theorem uc3{ps:LPq}{q:PLq}{n m k:Nat}(h:Bnd n m ps)(h1:1<=k)(hq:q.length<=k)(hk:m+k<=48)(hn:k*n<=200):∃r,J4 ps q=some r/\Bnd (k*n) (m+k) r:=by
 have hl:(lean q).length<=k:=Qkf (vb9 q) hq;have hnn:n<=k*n:=Nat.le_mul_of_pos_left n h1;unfold J4;split
 ·have hf:=Me6 h1 hl ps h.m;have hf2:k*ps.length<=k*n:=Nat.mul_le_mul_left k h.n;have hc:(ps.all (Ya2 q)&&decide ((ps.flatMap (Fa5 q)).length<=200))=true:=by
   rw[Qkp];refine⟨Qkj.2 λx hx=>?_,decide_eq_true (by omega)⟩
   unfold Ya2;rw[Cf4 (by have:=h.m x hx;omega),Bool.or_true]
  rw[if_pos hc];refine⟨_,rfl,by omega,λy hy=>?_⟩
  obtain⟨x,hx,hy⟩:=List.mem_flatMap.1 hy;exact (Me5 h1 hl (h.m x hx)).2 y hy
 ·exact⟨ps,rfl,Qkf h.n hnn,λx hx=>by have:=h.m x hx;omega⟩
theorem We5(c:PLq):Bnd 1 c.length (if ful c then [lean c] else []):=by
 split
 ·exact⟨by simp,λx hx=>by rw[Qkw.1 hx];exact vb9 c⟩
 ·exact⟨by simp,λx hx=>by cases hx⟩
theorem Rd8{c:PLq}{s:LPq}(hc:c.length<=13)(hn:s.length<=2)(hs:∀q∈s,q.length<=12):∃r,Ab3 c s=some r/\Bnd 144 37 r:=by
 have h0:Bnd 1 13 (if ful c then [lean c] else []):=by
  have:=We5 c
  exact⟨this.n,λx hx=>Qkf (this.m x hx) hc⟩
 unfold Ab3
 match s,hn,hs with
 |[],_,_=>exact⟨_,rfl,Qkf h0.n (by omega),λx hx=>Qkf (h0.m x hx) (by omega)⟩
 |[a],_,hs =>
  obtain⟨r,e,h⟩:=uc3 (q:=a) h0 (k:=12) (by omega) (hs a (by simp)) (by omega) (by omega)
  exact⟨r,e,Qkf h.n (by omega),λx hx=>Qkf (h.m x hx) (by omega)⟩
 |[a,d],_,hs =>
  obtain⟨r,e,h⟩:=uc3 (q:=a) h0 (k:=12) (by omega) (hs a (by simp)) (by omega) (by omega)
  obtain⟨r2,e2,h2⟩:=uc3 (q:=d) h (k:=12) (by omega) (hs d (by simp)) (by omega) (by omega)
  refine⟨r2,?_,Qkf h2.n (by omega),λx hx=>Qkf (h2.m x hx) (by omega)⟩
  show (J4 _ a).bind (λps=>J4 ps d)=some r2
  rw[e];exact e2
 |_::_::_::_,hn,_=>simp at hn
def Cov(s:LPq)(c:PLq):Prop:=ful c=true->∀z,Inr (c++ws) z->∃q∈s,ful q=true/\Inr (q++ws) z
theorem Cov.mono{s t:LPq}{c:PLq}(h:Cov s c)(hs:∀q∈s,q∈t):Cov t c:=λhf z hz=>by
 obtain⟨q,hq,h2⟩:=h hf z hz;exact⟨q,hs q hq,h2⟩
theorem ce6{s:LPq}(hn:s.length<=16)(hs:∀q∈s,(chk q==0)=true):schk s=0:=by
 unfold schk;rw[if_neg (by omega),Qkn.2 λq hq=>by have:=hs q hq;rw[beq_iff_eq] at this;simp[this]]
open Classical in
theorem Cd6{s:LPq}{c:PLq}{r:LPq}(hc:(chk c==0)=true)(hs:schk s=0)(hm:Ab3 c s=some r):ia6 s c=(decide (Cov s c),0)/\qb7 c s=(r,0):=by
 have e:qb7 c s=(r,0):=by
  unfold qb7;rw[beq_iff_eq] at hc;rw[hc,hs,hm];rfl
 refine⟨?_,e⟩;unfold ia6;rw[e];have k:(((r.length:Nat):Int)==0)=decide (Cov s c):=by
  rw[Qkaf,beq_iff_eq,decide_eq_true_eq];cases hf:ful c with
  |true =>
   have:=Ve7 hf hm
   constructor
   ·intro h0 _;exact this.1 (Qkad.1 (by omega))
   ·intro h;rw[this.2 (h hf)];rfl
  |false =>
   rw[Rd5 hf] at hm;injection hm with hm;subst hm;exact⟨λ_ h=>(by rw[hf] at h;cases h),λ_=>rfl⟩
 rw[k];rfl
theorem Mc.chk{c:PLq}(h:Mc c):(chk c==0)=true:=h.g.chk
theorem Mc.ful{c:PLq}(h:Mc c):ful c=true:=h.g.ful
theorem Ms.schk{y:Nat}{s:LPq}(h:Ms y s)(hy:y<=16):schk s=0:=ce6 (Qkf h.n hy) λq hq=>(h.c q hq).chk
structure Und(c U:PLq)(n:Nat)(ps:LPq):Prop where
 n:ps.length<=n
 d:∀x∈ps,x.Nodup/\(∀p∈x,p∈U)/\ful x=true/\∀z,Inr (x++ws) z->Inr (c++ws) z
def Me7(c:PLq):PLq:=if ful c then c.foldl (Rd1 (pts c)) [] else []
theorem Tf4:lean=Me7:=by
 funext c;unfold lean Me7;rw[lf8]
section
variable(L:PLq->PLq)
def te1(x fs:PLq):Nat->PLq
 |0=>x
 |j+1=>L (te1 x fs j++[gL tP fs j])
def Tf5(x fs:PLq)(j:Nat):PLq:=L (te1 L x fs j++[V0 (gL tP fs j)])
def Tf6(x fs:PLq)(j:Nat):LPq:=((List.range j).map (Tf5 L x fs)).filter λc=>decide (0<c.length)
def nf1(x fs:PLq):Bool:=(List.range fs.length).all λj=>decide ((te1 L x fs j).length<48)
def Cf6(q x:PLq):LPq:=if apart x q then [x] else Tf6 L x (L q) (L q).length
def Cd7(ps:LPq)(q:PLq):Option LPq :=
 if ful q then (if ps.all (λx=>apart x q||nf1 L x (L q))&&decide ((ps.flatMap (Cf6 L q)).length<=200) then some (ps.flatMap (Cf6 L q)) else none) else some ps
def Ee2(c:PLq)(s:LPq):Option LPq :=
 s.foldl (λst q=>st.bind λps=>Cd7 L ps q) (some (if ful c then [L c] else []))
end
theorem Cd8(x fs:PLq):∀j,te1 lean x fs j=E4 x fs j
 |0=>rfl
 |j+1=>by
  show lean (te1 lean x fs j++_)=lean (E4 x fs j++_);rw[Cd8 x fs j]
theorem Cf7:Tf5 lean=Va9:=by funext x fs j;unfold Tf5 Va9;rw[Cd8]
theorem Cf8:Tf6 lean=Ta0:=by funext x fs j;unfold Tf6 Ta0;rw[Cf7]
theorem nf2:nf1 lean=Ha6:=by funext x fs;unfold nf1 Ha6;simp only[Cd8]
theorem Cf9:Cf6 lean=Fa5:=by funext q x;unfold Cf6 Fa5;rw[Cf8]
theorem te2:Cd7 lean=J4:=by
 funext ps q;unfold Cd7 J4;rw[Cf9,nf2];rfl
theorem We6:Ab3=Ee2 Me7:=by
 funext c s;rw[<- Tf4];unfold Ab3 Ee2;rw[te2]
def bx(x y z u v w:Int):PLq:=[⟨⟨1,0,0⟩,u⟩,⟨⟨-1,0,0⟩,-x⟩,⟨⟨0,1,0⟩,v⟩,⟨⟨0,-1,0⟩,-y⟩,⟨⟨0,0,1⟩,w⟩,⟨⟨0,0,-1⟩,-z⟩]
theorem ce7(x y z u v w:Int):(bx x y z u v w).length=6:=rfl
structure og9(own:PLq)(s r:LPq):Prop where
 m:qb7 own s=(r,0)
 n:r.length<=144
 l:∀x∈r,x.length<=37
 full:∀x∈r,ful x=true
 lies:∀x∈r,Ce.lies x own=true
 off:∀x∈r,Wa0 x s=true
 dis:∀j,j<r.length->Wa0 (gL tLq r j) (r.take j)=true
 all:(s++r).length<=16->ia6 (s++r) own=(true,0)
 self:r.length<=16->(ia6 r own).2=9\/((ia6 r own).2=0/\(ia6 r own).1=Wa0 own s)
theorem nf3{α:Type}(t:Ty α)(l:List α)(j:Nat)(h:j<=l.length):lsL t (j-0) (λk=>(λk=>t.row (gL t l k)) (0+k))=l.take j/\okL t (j-0) (λk=>(λk=>t.row (gL t l k)) (0+k))=true:=by
 refine⟨pc7 t (by rw[Qku];omega) λk hk=>?_,Sb1 t (f:=λk=>gL t l (0+k)) λ_ _=>rfl⟩
 simp only[Qkg];congr 1;simp only[gL,Qkb];rw[Qkx,if_pos (by omega)]
theorem nf4{α:Type}(t:Ty α)(l:List α){n:Nat}(h:n=l.length):lsL t n (λk=>d9 (bL t l) k)=l/\okL t n (λk=>d9 (bL t l) k)=true:=by
 subst h;exact⟨pc7 t rfl λk hk=>by rw[fa9 t hk],Sb1 t (f:=λk=>gL t l k) λk hk=>by rw[fa9 t hk]⟩
set_option maxRecDepth 100000
structure rf0 where
 C0:LPq
structure rf1 where
 is3:Int
structure rf2 where
 ba9:PLq
structure rf3 where
 ph:Nat
 og4:PLq
 is8:Int
 ns6:Nat
 eh0:List (List c7)
structure Ye3 where
 C0:LPq
 ba9:PLq
structure nd6 where
 ph:Nat
 is7:Int
 ns6:Nat
 eh0:List (List c7)
structure rf4 where
 Fd1:LPq
 d7:PLq
structure Jd5 where
 ph:Nat
 is8:Int
 ee7:LPq
structure rf5 where
 g7:PLq
 Fd1:LPq
structure rf6 where
 is5:Int
def kc8:List (Nat×Sum):=[(59,zd4)]
theorem dd1:i9 prog G kc8:=⟨oe4,trivial⟩
structure Fa0 where
 (C0 Fd1:LPq)
structure U3 where
 is5:Int
def Rb0(p:Fa0)(s:U3):St:=⟨eL tLq p.C0::eL tLq p.Fd1::ra 3 (i s.is5::ra 21 []),[]⟩
def va0{α:Type}(k:U3->α)(e:Nat->α)(z:α)(p:Fa0)(s:U3):α:=let y1:=(gL tLq p.Fd1 s.is5.toNat);let y0:=(gL tLq p.C0 s.is5.toNat);let t1:=(ec2 (rt tP y0) (rt tP y1));(sl (decide (s.is5<(↑(List.length p.C0):Int))) (sl (inB s.is5 (List.length p.C0)) (sl (inB s.is5 (List.length p.Fd1)) (sl (okE tP y0) (sl (okE tP y1) (sl (ec3 (rt tP y0) (rt tP y1)) (sl (!t1) (e 1) (k ⟨W (s.is5+1)⟩)) z) z) z) z) z) (e 2))
def za4(p:Fa0)(s:U3):Stp U3:=va0 .next .exit .fail p s
def qb8:Lo Fa0 U3:=⟨En kc8,0,Xf4,[1,1,0,1,4,4],[0,1,5],.p,[⟨sLq tLq::sLq tLq::ru2 3 (sIq::ru2 21 []),[],λa H=>(⟨aLq tLq a 0,aLq tLq a 1⟩,⟨aIq a 5⟩)⟩],za4,[(none,λp s=>⟨[b false],[]⟩),(some 0,λp s=>upq (Rb0 p s) [(11,i s.is5),(12,eL tLq p.C0),(13,i (↑(List.length p.C0):Int)),(14,b (decide (s.is5<(↑(List.length p.C0):Int))))])],Rb0⟩
theorem Uc4:qb8.Ok:=Lo.ok [] (by kernel_rfl) .nil rfl (.cons (λa H=>by kernel_rfl) .nil) λp s=>(.of @va0 (λF _ _ _ _ _=>by unfold va0;(repeat' apply j6 (f:=F))<;>rfl) (by kernel_rfl))
def Ta1(x:LPq)(y:LPq):ROq:=let t1:=(lp (za4 (⟨rt tLq x,rt tLq y⟩:Fa0)) (⟨0⟩:U3));(sl ((↑(List.length x):Int) != (↑(List.length y):Int)) (some (b false,[])) (sl ((cnE tLq x)&&((cnE tLq y)&&true)) (sl (Nat.beq t1.1 1) (some (b false,[])) (sl (Nat.beq t1.1 2) (some (b true,[])) none)) none))
def Ta2(x:LPq)(y:LPq):Bool:=ba8 (one r1B) (Ta1 x y)
def Ta3(x:LPq)(y:LPq):Bool:=okO (one r1B) (Ta1 x y)
def uc4:Sum:=Aa5 (ta2 tLq) (ta2 tLq) (λx y=>.guard (Ta3 x y) (.ret ((one r1B).enc (Ta2 x y),[])))
theorem nd7:g9 prog G 24 uc4:=Sb2 (bd b24 dd1) (one r1B) (o:=Ta1) λx y=>Ia8 (.s .p (.s .p (.s (.s .p (.b (.u qb8.ls))) .p))) [qb8.pr] (by kernel_rfl) (.cons Uc4 .nil) (by kernel_rfl)
structure Me8 where
 (og5 og6:List Bool)
structure Me9 where
 is5:Int
structure rf7 where
 I7:ByteArray
 n5:LPq
 w6:List Int
structure rf8 where
 is3:Int
structure rf9 where
 is4:Int
 I7:ByteArray
 n5:LPq
 w6:List Int
structure sf0 where
 is5:Int
structure sf1 where
 I7:ByteArray
structure sf2 where
 is4:Int
 n5:LPq
 w6:List Int
structure Ye4 where
 C0:LPq
structure Ye5 where
 is3:Int
structure sf3 where
 C0:LPq
 ba9:PLq
structure Jd6 where
 ph:Nat
 is6:Int
 ns5:Nat
 eh0:List (List c7)
structure Df0 where
 C0:LPq
structure Df1 where
 ph:Nat
 is4:Int
 ns3:Nat
 eh0:List (List c7)
structure Ye6 where
 I7:ByteArray
 n5:LPq
 w6:List Int
 (ka7 ka8:List Bool)
 o5:LPq
structure Ye7 where
 is6:Int
structure Ye8 where
 I7:ByteArray
 n5:LPq
 w6:List Int
 (ka7 ka8:List Bool)
 o5:LPq
structure Ye9 where
 is7:Int
structure Ze0 where
 I7:ByteArray
 n5:LPq
 w6:List Int
 (ka7 ka8:List Bool)
 o5:LPq
structure Ze1 where
 is8:Int
structure Df2 where
 I7:ByteArray
 n5:LPq
 w6:List Int
 (ka7 ka8:List Bool)
 o5:LPq
structure Df3 where
 ph:Nat
 is6:Int
 ns5:Nat
 eh2:List (List c7)
structure sf4 where
 C0:LPq
structure sf5 where
 ph:Nat
 is4:Int
 ns3:Nat
 eh0:List (List c7)
structure Jf9 where
 (alt ns0:Nat)
 eh0:List (List c7)
structure sf6 where
 (Ia6 eb3:LPq)
 I7:ByteArray
 n5:LPq
 w6:List Int
 (ka7 ka8:List Bool)
 o5:LPq
 dg8:Nat
structure sf7 where
 ph:Nat
 pg0:Int
 (Wc1 Aa3:Nat)
 (eh4 eh5 eh6:List (List c7))
def Tf7(x fs:PLq):LPq×Int:=if Ha6 x fs then (Ta0 x fs fs.length,0) else ([],9)
theorem nbR:Nat.beq 1 2=false/\Nat.beq 2 1=false/\Nat.beq 3 1=false/\Nat.beq 3 2=false/\Nat.beq 4 1=false/\Nat.beq 4 2=false/\Nat.beq 4 3=false/\Nat.beq 6 1=false/\Nat.beq 6 2=false/\Nat.beq 6 3=false/\Nat.beq 6 4=false/\Nat.beq 6 5=false:=by decide
structure RW(q:PLq)(xs:LPq)(t:Nat)(s:nd6):Prop where
 y:xs.all (Ya2 q)=true->t=phL (xs.flatMap (Fa5 q))*2+2/\s.ns6=(xs.flatMap (Fa5 q)).length/\s.eh0=bL tLq (xs.flatMap (Fa5 q))
 n:xs.all (Ya2 q)=false->(t=1\/t=3)/\∃j,s.is7=((j:Nat):Int)/\Tf7 (gL tLq xs j) (lean q)=([],9)
structure RM0(c:PLq)(ys:LPq)(t:Nat)(s:Jd5):Prop where
 y:∀r,wb0 ys (some [c])=some r->(ys=[]/\t=2)\/(ys≠[]/\t=4/\s.ee7=r)
 n:wb0 ys (some [c])=none->(t=1/\∃j,s.is8=((j:Nat):Int)/\ua9 [c] (gL tLq ys j)=([],9))\/(t=3/\∃j,s.is8=((j:Nat):Int)/\ua9 s.ee7 (gL tLq ys j)=([],9)/\j<ys.length/\s.ee7.length<=200/\∀c∈s.ee7,c.length<=48)
theorem jd1(x:LPq)(hx:x.length<=1000000)(hl:∀q∈x,q.length<=1000000):Ta1 x x=some (b true,[]):=by
 have h:=Jc9 (step:=za4 ⟨x,x⟩) (mk:=λj=>(⟨(j:Int)⟩:U3)) (c:=λ_=>false) (u:=1) (fin:=2) tLq x (by omega)
  (λj hj=>by
   have hq:=hl _ (N7 tLq hj);simp only[za4,va0,Int.toNat_natCast,i6,A5,Rf0 (gL tLq x j) (by omega),Rf1 (gL tLq x j) (by omega),u7 hj (show x.length<=4611686018427387904 by omega),Qkz,f0]
   rw[btD (n7 hj),bt (g8 hj),bt (g8 hj)])
  (by simp only[za4,va0];rw[bfD (B8 (Qke _))]) 0 (Qkh _)
 rw[Qkk,show (x.any λ_=>false)=false by simp] at h
 unfold Ta1;simp only[i6,l4];rw[show (⟨0⟩:U3)=⟨((0:Nat):Int)⟩ from rfl,h,bf (by simp)]
 rfl
theorem Cd9{x:LPq}(hx:x.length<=1000000)(hl:∀q∈x,q.length<=1000000):Ta2 x x=true:=by unfold Ta2;rw[jd1 x hx hl];rfl
theorem Dd0{x:LPq}(hx:x.length<=1000000)(hl:∀q∈x,q.length<=1000000):Ta3 x x=true:=by unfold Ta3;rw[jd1 x hx hl];rfl
structure Pok(x:Pce):Prop where
 su:x.su.length<=1000000
 to:x.to.length<=1000000
 cu:x.cu.length<=1000000
 cl:∀q∈x.cu,q.length<=1000000
def Cc4(s:LPq):Int:=match s.find? λc=>chk c != 0 with
 |some c=>chk c
 |none=>0
def te3(x:Prt)(y:Pce):Bool:=(y.su.length:Int)==(x.cl.length:Int)&&((y.to.length:Int)==(x.cl.length:Int)&&(decide ((y.cu.length:Int)<=24)&&(Cc4 y.cu==0)))
structure Jok(x:Prt):Prop where
 cl:x.cl.length<=1000000
 wt:x.wt.length<=1000000
 pl:∀c∈x.cl,c.length<=1000000
def dd2(n:Int):Bool:=decide (n<1)||decide (n>3)
def te4(l:LPq)(j:Nat):Bool:=!ful (gL tLq l j)||(List.range j).any λk=>!apart (gL tLq l k) (gL tLq l j)
def uc5(x:Prt):Int :=
 if (x.cl.length:Int)<1 then 2 else if (x.cl.length:Int)>16 then 2 else if ((x.wt.length:Int) != (x.cl.length:Int))=true then 1 else if x.wt.any dd2=true then 1
 else if (List.range x.cl.length).any (te4 x.cl)=true then 13 else 0
def te5(x:Prt):Pce:=⟨List.replicate x.cl.length false,List.replicate x.cl.length false,[]⟩
theorem Kb7(a c:PLq):apart a c=apart c a:=by
 by_cases ha:(chk a==0)=true
 ·by_cases hc:(chk c==0)=true
  ·rw[Qkaf,Va8 ha hc,Va8 hc ha];exact⟨λh z h1 h2=>h z h2 h1,λh z h1 h2=>h z h2 h1⟩
  ·have hc:(chk c==0)=false:=by simpa using hc
   unfold apart;rw[hc,Bool.and_false,Bool.false_and];rfl
 ·have ha:(chk a==0)=false:=by simpa using ha
  unfold apart;rw[ha,Bool.and_false,Bool.false_and];rfl
theorem Dd1(n:Int):cb9 n=dd2 n/\db0 n=true:=by
 have h:La2 n=some (b (dd2 n),[]):=by
  unfold La2 dd2;cases decide (n<1)<;>rfl
 unfold cb9 db0;rw[h];exact⟨rfl,rfl⟩
theorem Df4(w:List Int)(hw:w.length<=1000000):na7 ⟨w⟩=⟨1,if w.any dd2=true then ((w.findIdx dd2:Nat):Int) else -1⟩:=by
 have h:=sb5 (step:=S9 ⟨w,(w.length:Int)⟩) (mk:=λj=>(⟨(j:Int)⟩:A0)) (c:=dd2) (u:=1) (fin:=2) tI w (by omega)
  (λj hj=>by
   simp only[S9,R6,Int.toNat_natCast,(Dd1 _).1,(Dd1 _).2,u7 hj (show w.length<=4611686018427387904 by omega),f0]
   rw[btD (n7 hj),bt (g8 hj)])
  (by simp only[S9,R6];rw[bfD (B8 (Qke _))]) 0 (Qkh _)
 rw[Qkk,Qkg] at h;unfold na7 S3;simp only[i6,l4,Bool.and_true,f0];rw[show (⟨0⟩:A0)=⟨((0:Nat):Int)⟩ from rfl,h]
 cases w.any dd2<;>rfl
theorem Df5(w:List Int)(hw:w.length<=1000000):ea5 ⟨w⟩=⟨1,w.any dd2⟩:=by
 unfold ea5 K8;simp only[i6,l4,Bool.and_true,f0,Df4 w hw];rw[show Nat.beq 1 1=true from rfl,f0]
 cases w.any dd2 with
 |true =>
  rw[if_pos rfl,decide_eq_true (show ((w.findIdx dd2:Nat):Int)>=0 by omega)]
 |false=>rfl
theorem Df6{l:LPq}{j:Nat}(hj:j<l.length):te4 l j=(!ful (gL tLq l j)||!Wa0 (gL tLq l j) (l.take j)):=by
 unfold te4 Wa0;rw[Bool.not_not];congr 1;rw[Qkaf,Qko,Qko];constructor
 ·rintro⟨k,hk,h⟩;have hk:=Qki.1 hk;refine⟨gL tLq l k,?_,by rw[Kb7];exact h⟩
  rw[Qkaj];refine⟨k,?_⟩;rw[Qkx,if_pos hk];simp[gL,Qkb,Qkd (show k<l.length by omega)]
 ·rintro⟨q,hq,h⟩;obtain⟨k,hk⟩:=Qkaj.1 hq;rw[Qkx] at hk
  split at hk
  case isFalse=>cases hk
  rename_i hkj;refine⟨k,Qki.2 hkj,?_⟩;rw[Kb7,show gL tLq l k=q by simp[gL,Qkb,hk]]
  exact h
theorem We7{nm:ByteArray}{l:LPq}{w:List Int}(hl:l.length<=1000000)(hp:∀c∈l,c.length<=1000000) :
  ∃k,lp (ta3 ⟨l,(l.length:Int),nm,l,w⟩) ⟨0⟩=(if (List.range l.length).any (te4 l)=true then 1 else 2,(⟨((k:Nat):Int)⟩:Y9)):=by
 have h:=cd9 (step:=ta3 ⟨l,(l.length:Int),nm,l,w⟩) (mk:=λk=>(⟨(k:Int)⟩:Y9)) l.length (te4 l) 1 2 (by omega)
  (λj hj=>by
   have hc:=hp _ (N7 tLq hj);have ht:∀q∈l.take j,q.length<=1000000:=λq hq=>hp q (List.mem_of_mem_take hq)
   have htl:(l.take j).length<=1000000:=by rw[Qku];omega
   obtain⟨e1,e2⟩:=nf3 tLq l j (by omega)
   rw[Df6 hj];simp only[ta3,za1,Int.toNat_natCast,i6,A5,e1,e2,bd2 (show (gL tLq l j).length<=1000000000 by omega),bd3 (show (gL tLq l j).length<=1000000000 by omega),Uc2 hc htl ht,Uc3 hc htl ht,u7 hj (show l.length<=4611686018427387904 by omega),f0]
   rw[btD (n7 hj),bt (g8 hj),bt (g8 (show j<l.length+1 by omega))]
   cases ful (gL tLq l j)<;>rfl)
  (by simp only[ta3,za1];rw[bfD (B8 (Qke _))])
 exact h
theorem Ne0{x:Prt}(h:Jok x):bb5 x=some (i (uc5 x),[]):=by
 obtain⟨k,hk⟩:=We7 (nm:=x.nm) (w:=x.wt) h.cl h.pl;unfold bb5 uc5;simp only[i6,l4,Qkc,f0,Df5 x.wt h.wt,hk];cases h1:((x.cl.length:Int)==0) with
 |true =>
  have h1:(x.cl.length:Int)=0:=by simpa using h1
  rw[f0,if_pos (show (x.cl.length:Int)<1 by omega)]
 |false =>
  have h1:¬ (x.cl.length:Int)=0:=by simpa using h1
  rw[B6,if_neg (show ¬ (x.cl.length:Int)<1 by omega)]
  by_cases h2:(x.cl.length:Int)>16
  ·rw[btD h2,if_pos h2]
  ·rw[bfD h2,if_neg h2];cases h3:((x.wt.length:Int) != (x.cl.length:Int)) with
   |true=>rfl
   |false=>cases x.wt.any dd2<;>cases (List.range x.cl.length).any (te4 x.cl)<;>rfl
theorem Dd2{x:Prt}(h:Jok x):Ba5 x=uc5 x:=by unfold Ba5;rw[Ne0 h];rfl
theorem ce8{x:Prt}(h:Jok x):Ba6 x=true:=by unfold Ba6;rw[Ne0 h];rfl
theorem jd2(s:LPq)(hs:s.length<=1000000)(hl:∀c∈s,c.length<=1000000):La4 s=some (i (Cc4 s),[]):=by
 have h:=sb5 (step:=ua8 ⟨s,(s.length:Int)⟩) (mk:=λj=>(⟨(j:Int)⟩:R7)) (c:=λc=>chk c != 0) (u:=1) (fin:=2) tLq s (by omega)
  (λj hj=>by
   have hc:=hl _ (N7 tLq hj);simp only[ua8,pa8,Int.toNat_natCast,i6,A5,Ac7 _ (show (gL tLq s j).length<=1000000000 by omega),qd6 _ (show (gL tLq s j).length<=1000000000 by omega),u7 hj (show s.length<=4611686018427387904 by omega),f0]
   rw[btD (n7 hj),bt (g8 hj)])
  (by simp only[ua8,pa8];rw[bfD (B8 (Qke _))]) 0 (Qkh _)
 rw[Qkk,Qkg] at h;unfold La4 Cc4;simp only[i6,A5,l4];rw[show (⟨0⟩:R7)=⟨((0:Nat):Int)⟩ from rfl,h]
 cases ha:s.any λc=>chk c != 0 with
 |true =>
  have hlt:s.findIdx (λc=>chk c != 0)<s.length:=Qkt.2 (Qko.1 ha)
  have hc:=hl _ (N7 tLq hlt);rw[Me4 tLq s _ ha];simp only[Int.toNat_natCast,if_true,Ac7 _ (show (gL tLq s (s.findIdx λc=>chk c != 0)).length<=1000000000 by omega)]
  rfl
 |false =>
  rw[Qkn.2 λc hc=>by have:=List.any_eq_false.1 ha c hc;simpa using this]
  rfl
theorem Lc0{s:LPq}(hs:s.length<=1000000)(hl:∀c∈s,c.length<=1000000):pa1 s=Cc4 s:=by unfold pa1;rw[jd2 s hs hl];rfl
theorem Lc1{s:LPq}(hs:s.length<=1000000)(hl:∀c∈s,c.length<=1000000):pa2 s=true:=by unfold pa2;rw[jd2 s hs hl];rfl
def Eb3(x:Prt)(y:Pce):Int:=if (uc5 x != 0)=true then uc5 x else if te3 x y=true then 0 else 4
theorem Rd9{x:Prt}{y:Pce}(hx:Jok x)(hy:Pok y):Sa9 x y=some (i (Eb3 x y),[]):=by
 unfold Sa9 Eb3 te3;have hj:Jok ⟨x.nm,x.cl,x.wt⟩:=⟨hx.cl,hx.wt,hx.pl⟩;simp only[i6,A5,Dd2 hx,Dd2 hj,ce8 hj,Lc0 hy.cu hy.cl,Lc1 hy.cu hy.cl,f0,Qkc];rw[show uc5 ⟨x.nm,x.cl,x.wt⟩=uc5 x from rfl]
 cases (uc5 x != 0) with
 |true=>rfl
 |false =>
  rw[B6];simp only[Qkq,if_false];cases h1:((y.su.length:Int)==(x.cl.length:Int)) with
  |false=>rw[show ((y.su.length:Int) != (x.cl.length:Int))=true by rw[bne,h1];rfl];rfl
  |true =>
   rw[show ((y.su.length:Int) != (x.cl.length:Int))=false by rw[bne,h1];rfl]
   cases h2:((y.to.length:Int)==(x.cl.length:Int)) with
   |false=>rw[show ((y.to.length:Int) != (x.cl.length:Int))=true by rw[bne,h2];rfl];rfl
   |true =>
    rw[show ((y.to.length:Int) != (x.cl.length:Int))=false by rw[bne,h2];rfl]
    by_cases h3:(y.cu.length:Int)>24
    ·rw[decide_eq_true h3,decide_eq_false (show ¬ (y.cu.length:Int)<=24 by omega)];rfl
    ·rw[decide_eq_false h3,decide_eq_true (show (y.cu.length:Int)<=24 by omega)]
     cases h4:(Cc4 y.cu==0) with
     |true=>rw[show (Cc4 y.cu != 0)=false by rw[bne,h4];rfl];rfl
     |false=>rw[show (Cc4 y.cu != 0)=true by rw[bne,h4];rfl];rfl
theorem Dd3{x:Prt}{y:Pce}(hx:Jok x)(hy:Pok y):Ea8 x y=Eb3 x y:=by unfold Ea8;rw[Rd9 hx hy];rfl
theorem Dd4{x:Prt}{y:Pce}(hx:Jok x)(hy:Pok y):Ea9 x y=true:=by unfold Ea9;rw[Rd9 hx hy];rfl
def Z2(l:LPq)(c:PLq):LPq:=l.filter λq=>!apart q c
theorem Ee3(l:LPq)(c:PLq){j:Nat}(hj:j<l.length):Z2 (l.take (j+1)) c=Z2 (l.take j) c++(if apart (gL tLq l j) c then [] else [gL tLq l j]):=by
 unfold Z2;rw[ec7 tLq hj,List.filter_append];congr 1;generalize gL tLq l j=q;cases h:apart q c<;>simp[h]
theorem dd3(l:LPq)(c:PLq):(Z2 l c).length<=l.length:=Qkai _ _
structure RMt(l:LPq)(c:PLq)(j:Nat)(s:Jd6):Prop where
 le:j<=l.length
 ix:s.is6=(j:Int)
 ph:s.ph=phL (Z2 (l.take j) c)
 n:s.ns5=(Z2 (l.take j) c).length
 e:s.eh0=bL tLq (Z2 (l.take j) c)
theorem na8(O:LPq):(phL O=0/\O=[])\/phL O=1:=by cases O with | nil=>exact .inl ⟨rfl,rfl⟩ | cons=>exact .inr rfl
theorem Kf0{α:Type}(t:Ty α):(one (r1L t)).rd (.v (.slice none 0 0),[])=some []:=rfl
def cpA(c:PLq):c7:=.tree 4 c.length (λk=>d9 (bL tP c) k)
theorem nf5(c:PLq):o7 (λk=>tP.row (gL tP c k)) (List.range c.length)=bL tP c:=by
 unfold bL;rw[l9,l9];refine Qkm (by simp) λk h1 h2=>?_
 have hk:k<c.length:=by simpa using h2
 simp[gL,Qkb,Qkd hk]
theorem Kf1(c:PLq):tLq.rd [cpA c]=c/\tLq.ok [cpA c]=true:=by
 obtain⟨h1,h2⟩:=nf4 tP c rfl;exact⟨h1,by show Bool.and (Nat.beq 4 4) (okL tP c.length λk=>d9 (bL tP c) k)=true;rw[h2];rfl⟩
def cpR(l:LPq):List (List c7):=o7 (λc=>[cpA c]) l
theorem Ne1(l:LPq):len (cpR l)=l.length:=by unfold cpR;rw[n9,l9,List.length_map]
theorem Ac9(l:LPq)(c:PLq):app (cpR l) [[cpA c]]=cpR (l++[c]):=by unfold cpR;rw[I5,l9,l9,List.map_append];rfl
theorem ce9{l:LPq}{k:Nat}(h:k<l.length):d9 (cpR l) k=[cpA (gL tLq l k)]:=by
 unfold cpR;exact fd3 (λc=>[cpA c]) tLq.d h
theorem de0(l:LPq):slR tLq (cpR l) 0 l.length=l/\okS tLq (cpR l) 0 l.length=true:=by
 constructor
 ·unfold slR lsL;refine Qkm (by simp) λk h1 h2=>?_
  have hk:k<l.length:=h2;simp only[List.getElem_map,List.getElem_range,Qkg,ce9 hk,(Kf1 _).1];simp[gL,Qkb,Qkd hk]
 ·unfold okS okL;rw[Qkj];intro k hk;have hk:k<l.length:=by simpa using hk
  simp only[Qkg,ce9 hk,(Kf1 _).2]
theorem dg1(l:LPq):(one (r1L tLq)).rd (.sl 0 0 l.length 0,[⟨35,1,cpR l,true,false,0⟩])=some l:=by
 show Bool.rec (motive:=λ_=>Option LPq) none (some (slR tLq (cpR l) 0 l.length)) (Bool.and (Nat.beq 1 1) (okS tLq (cpR l) 0 l.length))=some l
 rw[(de0 l).1,(de0 l).2];rfl
theorem Dd5(O:LPq)(h:O.length<=1000000):(Nat.beq O.length (len (cpR O))&&Nat.ble ((O.length+1)*24) room)=true:=by
 rw[Ne1,Qkv,Qkal,Qks];unfold room;omega
structure RCp(l:LPq)(ph:Nat)(is:Int)(ns:Nat)(eh:List (List c7))(j:Nat):Prop where
 le:j<=l.length
 ix:is=(j:Int)
 ph:ph=phL (l.take j)
 n:ns=(l.take j).length
 e:eh=cpR (l.take j)
end Go.Ev.Ce
namespace Go.Proofs
open Go.Shelf
set_option maxRecDepth 100000 in
def Ce.growPs_ren:Go.Shelf.Ren:=⟨fun | 4=>74 | n=>n,fun | 22=>30 | 25=>35 | 3=>3 | 4=>4 | 9=>9 | 20=>20 | 0=>0 | n=>n,fun | n=>n⟩
set_option maxRecDepth 100000 in
theorem Ce.growPs:Go.Proofs.Lays8.n4 Tryz.prog Ce.growPs_ren:={
 mixed:=by kernel_rfl
 f4:=⟨Tryz.f74.name,by decide,Tryz.func74.trans (congrArg some (by kernel_rfl))⟩
 t0:=Tryz.underlying0
 a0:=Tryz.isAgg0
 z0:=Tryz.sizeOf0
 v0:=Tryz.zeroValue0
 t3:=Tryz.underlying3
 a3:=Tryz.isAgg3
 z3:=Tryz.sizeOf3
 v3:=Tryz.zeroValue3
 t4:=Tryz.underlying4
 a4:=Tryz.isAgg4
 z4:=Tryz.sizeOf4
 v4:=Tryz.zeroValue4
 t9:=Tryz.underlying9
 a9:=Tryz.isAgg9
 z9:=Tryz.sizeOf9
 v9:=Tryz.zeroValue9
 t20:=Tryz.underlying20
 a20:=Tryz.isAgg20
 z20:=Tryz.sizeOf20
 v20:=Tryz.zeroValue20
 t22:=Tryz.underlying30
 a22:=Tryz.isAgg30
 z22:=Tryz.sizeOf30
 v22:=Tryz.zeroValue30 }
end Go.Proofs
namespace Go.Ev.Ce
open Go Go.Ev Go.Proofs
def Uc5:List c7:=[.v (.slice none 0 0)]
def Ta4:Sum:=λargs blks=>match args,blks with
 | [.v (.slice none 0 0), .v (.int .i64 n)], [] => .ite (n == 0) (.ret (.v (.slice none 0 0), []))
   (.guard (Bool.and (decide (0<n)) (Nat.ble (n.toNat*24) room)) (.ret (.sl 0 0 0 0,[⟨35,1,List.replicate n.toNat Uc5,true,false,0⟩])))
 |_,_=>.fail
theorem ng9:zeT Tryz.prog 35=some Uc5:=by kernel_rfl
theorem og0:szT Tryz.prog 35=1:=by kernel_rfl
theorem og1:byT Tryz.prog 35=24:=by kernel_rfl
theorem dg2:Ce.growPs_ren.t 25=35:=by kernel_rfl
theorem zf4:Ce.growPs_ren.f 4=74:=by kernel_rfl
set_option maxRecDepth 100000 in
theorem mc4:g9 prog G 74 Ta4:=by
 intro args blks r out he W ρ F w args' hH hlen hargs hG;refine⟨⟨_,Tryz.func74,by kernel_rfl,of_decide_eq_true (by kernel_rfl)⟩,?_⟩
 unfold Ta4 at he
 split at he
 case h_2=>cases he
 rename_i n
 match args',hlen with
 |[v0,v1],_ =>
 have e0:=ga5 (hargs 0 _ _ rfl rfl);have e1:=ga5 (hargs 1 _ _ rfl rfl);subst e0 e1
 rcases DT.run_ite_some he with⟨h0,he⟩|⟨h0,he⟩
 ·have h0:n=0:=by simpa using h0
  subst h0;injection he with he;injection he with q1 q2;subst q1 q2
  have:=Any8.slices_Grow_room Ce.growPs none 0 0 0 w (Qkah _) (by omega) (by omega) (by omega)
  rw[zf4] at this;refine this.mono λe w' ⟨h1,h2⟩=>?_
  subst h1 h2;exact⟨_,rfl,ρ,F,.refl,hH,.ofv _⟩
 ·obtain⟨hg,he⟩:=DT.run_guard_some he;rw[Qkp,decide_eq_true_eq] at hg;obtain⟨hpos,hroom⟩:=hg;have hroom:=Nat.le_of_ble_eq_true hroom;unfold room at hroom;obtain⟨m,rfl⟩:=Int.eq_ofNat_of_zero_le (Int.le_of_lt hpos);have hm:0<m:=by omega
  have he:some (c7.sl 0 0 0 0,[(⟨35,1,List.replicate m Uc5,true,false,0⟩:c8)])=some (r,out):=he;injection he with he;injection he with q1 q2;subst q1 q2
  obtain⟨ti,zv,hi,hzz,hzr,hone⟩:=db5 (E:=En []) ng9;have hi:Tryz.prog.info? 35=some ti:=hi;have hts:ti.size=1:=by have:=og0;simp only[szT,hi] at this;exact this
  have hby:ti.bytes=24:=by have:=og1;simp only[byT,hi] at this;exact this
  have hzs:zv.cells.size=1:=by
   have:=congrArg List.length hzr
   simpa [Uc5] using this.symm
  have hroom':m*24<=140737488355328:=hroom
  have:=Any8.slices_Grow_grow Ce.growPs ti zv (by rw[dg2];exact hi) hzz (by omega) none 0 0 m [] w (Qkah _) (by omega) (by rw[hby];omega) (by omega) (by simp) (λ_=>rfl) (λa ha=>by cases ha)
  rw[zf4,dg2] at this;refine this.mono λe w' ⟨h1,h2⟩=>?_
  have hcap:=grownCap_ge w (0+m) 0 35;have hcap2:=grownCap_le_maxLen w (0+m) 0 35 (by unfold maxLen;omega)
  subst h1;generalize grownCap w (0+m) 0 35=G' at *
  have hsz:∀q,(Builtin.zeroCells zv.cells q).size=q*1:=λq=>by simp[Builtin.zeroCells,hzs]
  have hcc:(#[]++Builtin.zeroCells zv.cells (0+m-0)++Builtin.zeroCells zv.cells (G'-(0+m))).size=G'*1:=by
   rw[Array.size_append,Array.size_append,hsz,hsz];simp;omega
  have hobj:w'.heap[w.heap.size]?=some (.cells (#[]++Builtin.zeroCells zv.cells (0+m-0)++Builtin.zeroCells zv.cells (G'-(0+m))) 35 (0,0)):=by
   rw[h2];exact World.alloc_heap_new w.drew _
  have hold:∀k,k<w.heap.size->w'.heap[k]?=w.heap[k]?:=λk hk=>by
   rw[h2];simp only[World.alloc,Array.getElem?_push,World.drew];rw[if_neg (by omega)]
  have hws:w'.heap.size=w.heap.size+1:=by rw[h2];exact Array.size_push ..
  obtain⟨h6,h7⟩:=hH.newAt (w':=w') (by rw[h2];rfl) (by rw[h2];rfl) (by rw[h2];rfl) (by rw[h2];exact Nat.le_succ _) (by omega) hold w.heap.size (Qkah _) 35 1 (List.replicate m Uc5) _ 35 hobj
   (λj r hr=>by rw[Qkae] at hr;split at hr<;>cases hr;rfl) (by rw[Qkak,hcc];omega)
   (λj r c x hr hx=>by
    have hjm:j<m:=by
     have:=(Qkab.1 hr).1
     simpa using this
    rw[Qkae,if_pos hjm] at hr;injection hr with hr;subst hr;have hc4:c<1:=(Qkab.1 hx).1;rw[hzr,List.getElem?_map] at hx;have hcz:c<zv.cells.size:=by omega
    have hq:zv.cells.toList[c]?=some zv.cells[c]:=by simp[hcz]
    rw[hq] at hx;injection hx with hx;subst hx;refine⟨zv.cells[c],?_,.v _ (hone _ (by simp))⟩
    have hlt:j*1+c<m*1:=by omega
    rw[Array.append_assoc,Array.empty_append,Array.getElem?_append_left (by rw[hsz];omega)]
    have hm4:(j*1+c) % 1=c:=by omega
    simp only[Builtin.zeroCells,hzs];rw[Array.getElem?_map,Array.getElem?_range];rw[if_pos (by omega)]
    have hc0:c=0:=by omega
    subst hc0;simp[Nat.mod_one,hcz])
   (λ_=>rfl)
  refine⟨_,rfl,_,F,h6,h7,.val (.cell ?_)⟩;refine .sl 0 0 0 0 _ _ { et:=35,es:=1,elems:=List.replicate m Uc5,own:=true,dead:=false,g:=0 } rfl rfl (Qkah _) (Qkh _) rfl hcap2 λ_=>⟨.inr ?_,?_,by simp⟩
  ·simp[ρnew]
  ·simp only[ρnew,List.length_nil,if_true];rw[hcc,Qkg]
end Go.Ev.Ce
namespace Go.Ev.Ce
open Go Go.Ev Go.Ev.L Go.Proofs
set_option maxRecDepth 100000
def Fa1:List (Nat×Sum):=[(74,Ta4)]
theorem Vb0:i9 prog G Fa1:=⟨mc4,trivial⟩
structure X2 where
 (Ff1 ee8:List LPq)
 K3:Int
structure A9 where
 (is3 s8:Int)
def Ya3(p:X2)(s:A9):St:=⟨eL tMq p.Ff1::.unk::.unk::i s.is3::ra 5 (eL tMq p.ee8::i p.K3::i s.s8::ra 24 []),[]⟩
def T0{α:Type}(k:A9->α)(e:Nat->α)(z:α)(p:X2)(s:A9):α:=let y0:=(↑(List.length (gL tMq p.ee8 s.s8.toNat)):Int);(sl (decide (s.s8<p.K3)) (sl (inB s.s8 (List.length p.ee8)) (sl (decide ((W (s.is3+y0))<0)) z (k ⟨W (s.is3+y0),W (s.s8+1)⟩)) z) (e 1))
def N5(p:X2)(s:A9):Stp A9:=T0 .next .exit .fail p s
def Ba7:Lo X2 A9:=⟨En Fa1,0,Of7,[1,1,0,1,4,4],[0,3,9,10,11],.p,[⟨sLq tMq::sUq::sUq::sIq::ru2 5 (sLq tMq::sIq::sIq::ru2 24 []),[],λa H=>(⟨aLq tMq a 0,aLq tMq a 9,aIq a 10⟩,⟨aIq a 3,aIq a 11⟩)⟩],N5,[(some 0,λp s=>upq (Ya3 p s) [(12,b (decide (s.s8<p.K3)))])],Ya3⟩
theorem Nb8:Ba7.OkM:=Lo.okM [] (by kernel_rfl) .nil rfl (.cons (λa H=>by kernel_rfl) .nil) λp s=>(.of @T0 (λF _ _ _ _ _=>by unfold T0;(repeat' apply j6 (f:=F))<;>rfl) (by kernel_rfl))
structure D7 where
 Lb8:List LPq
 ed5:Int
structure l8 where
 ph:Nat
 rb2:Int
 ns6:Nat
 eh0:List (List c7)
def Ta5(p:D7)(s:l8):St:=⟨ra 6 (.v (.slice none 0 0)::ra 18 (eL tMq p.Lb8::i p.ed5::i s.rb2::ra 8 [])),[]⟩
def Ta6(p:D7)(s:l8):St:=⟨ra 6 (.sl 0 0 s.ns6 0::ra 18 (eL tMq p.Lb8::i p.ed5::i s.rb2::ra 8 [])),[⟨35,1,s.eh0,true,false,0⟩]⟩
def Nb9(p:D7)(s:l8):St:=(sel (Nat.beq s.ph 1) (Ta6 p s) (Ta5 p s))
def E5{α:Type}(k:l8->α)(e:Nat->α)(z:α)(p:D7)(s:l8):α:=(sl (decide (s.rb2<p.ed5)) (sl (inB s.rb2 (List.length p.Lb8)) (sl (Nat.beq (len (o7 (λk=>(tLq).row (gL tLq (gL tMq p.Lb8 s.rb2.toNat) k)) (List.range (List.length (gL tMq p.Lb8 s.rb2.toNat))))) 0) (k ⟨0,W (s.rb2+1),0,[]⟩) z) z) (e 1))
def E6{α:Type}(k:l8->α)(e:Nat->α)(z:α)(p:D7)(s:l8):α:=let y0:=(gL tMq p.Lb8 s.rb2.toNat);let y1:=(List.range (List.length y0));(sl (decide (s.rb2<p.ed5)) (sl (inB s.rb2 (List.length p.Lb8)) (sl (Nat.ble (s.ns6+(len (o7 (λk=>(tLq).row (gL tLq y0 k)) y1))) (len s.eh0)) (k ⟨1,W (s.rb2+1),(s.ns6+(len (o7 (λk=>(tLq).row (gL tLq y0 k)) y1))),(app (J3 s.eh0 s.ns6) (app (o7 (λk=>(tLq).row (gL tLq y0 k)) y1) (j7 s.eh0 (s.ns6+(len (o7 (λk=>(tLq).row (gL tLq y0 k)) y1))))))⟩) z) z) (e 2))
def G7(p:D7)(s:l8):Stp l8:=(sel (Nat.beq s.ph 1) (E6 .next .exit .fail p s) (E5 .next .exit .fail p s))
def Ba8:Lo D7 l8:=⟨En Fa1,0,Of7,[1,1,1,1,0,1,4,4],[6,25,26,27],.p,[⟨ru2 6 (.s (.o .nil)::ru2 18 (sLq tMq::sIq::sIq::ru2 8 [])),[],λa H=>(⟨aLq tMq a 25,aIq a 26⟩,⟨0,aIq a 27,0,[]⟩)⟩,⟨ru2 6 (.s (.o (.sl 0 0 (some 0) none))::ru2 18 (sLq tMq::sIq::sIq::ru2 8 [])),[⟨35,1,true,none⟩],λa H=>(⟨aLq tMq a 25,aIq a 26⟩,⟨1,aIq a 27,slN (slT a 6),elT H 0⟩)⟩],G7,[(some 2,λp s=>upq (Ta5 p s) [(28,b (decide (s.rb2<p.ed5)))]),(some 2,λp s=>upq (Ta6 p s) [(28,b (decide (s.rb2<p.ed5)))])],Nb9⟩
theorem Ob0:Ba8.OkM:=Lo.okM [] (by kernel_rfl) .nil rfl (.cons (λa H=>by kernel_rfl) (.cons (λa H=>by kernel_rfl) .nil)) λp s=>(.sel (Nat.beq s.ph 1) (.of @E6 (λF _ _ _ _ _=>by unfold E6;(repeat' apply j6 (f:=F))<;>rfl) (by kernel_rfl)) (.of @E5 (λF _ _ _ _ _=>by unfold E5;(repeat' apply j6 (f:=F))<;>rfl) (by kernel_rfl)))
structure sa6 where
 (alt ns0:Nat)
 eh0:List (List c7)
def U4{α:Type}(kk:sa6->α)(x:List LPq):α:=let y0:=(⟨rt tMq (rt tMq x),(↑(List.length (rt tMq x)):Int)⟩:D7);let t1:=(lp (N5 (⟨rt tMq x,rt tMq x,(↑(List.length x):Int)⟩:X2)) (⟨0,0⟩:A9));let t2:=(lp (G7 y0) (⟨0,0,0,[]⟩:l8));let t3:=(lp (G7 y0) (⟨1,0,0,List.replicate t1.2.is3.toNat Uc5⟩:l8));(sl ((cnE tMq x)&&((cnE tMq x)&&true)) (sl (Nat.beq t1.1 1) (sl (t1.2.is3==0) (sl ((cnE tMq (rt tMq x))&&true) (sl (Nat.beq t2.1 1) (kk ⟨1,0,[]⟩) (sl (Nat.beq t2.1 2) (kk ⟨2,t2.2.ns6,t2.2.eh0⟩) (kk ⟨0,0,[]⟩))) (kk ⟨0,0,[]⟩)) (sl (Bool.and (decide (0<t1.2.is3)) (Nat.ble (t1.2.is3.toNat*24) room)) (sl ((cnE tMq (rt tMq x))&&true) (sl (Nat.beq t3.1 1) (kk ⟨1,0,[]⟩) (sl (Nat.beq t3.1 2) (kk ⟨2,t3.2.ns6,t3.2.eh0⟩) (kk ⟨0,0,[]⟩))) (kk ⟨0,0,[]⟩)) (kk ⟨0,0,[]⟩))) (kk ⟨0,0,[]⟩)) (kk ⟨0,0,[]⟩))
def U5(x:List LPq):sa6:=U4 (λr=>r) x
def Fa2(r:sa6):DT (c7×List c8):=(.ite (Nat.beq r.alt 1) (.ret (.v (.slice none 0 0),[])) (.ite (Nat.beq r.alt 2) (.ret (.sl 0 0 r.ns0 0,[⟨35,1,r.eh0,true,false,0⟩])) .fail))
theorem fc6{α β:Type}(F:α->β)(kk:sa6->α)(x:List LPq):F (U4 kk x)=U4 (λr=>F (kk r)) x:=by unfold U4;(repeat' apply j6 (f:=F))<;>rfl
def lb8:Sum:=ga4 (ta2 tMq) (λx=>Fa2 (U5 x))
theorem Zb5:g9 prog G 46 lb8:=ib1 (bd b46 Vb0) λx=>Od9 (.s .p (.s .p (.s (.s .p (.b (.u Ba7.lsM))) (.s .p (.s (.s .p (.b (.u Ba8.lsM))) .p))))) [Ba7.prM,Ba8.prM] (by kernel_rfl) (.cons Nb8 (.cons Ob0 .nil)) (Eq.trans (b:=U4 (λr=>(Fa2 r).run) x) (by kernel_rfl) (fc6 (λr=>(Fa2 r).run) (λr=>r) x).symm)
def uc6:List (Nat×Sum):=[]
theorem mc5:i9 prog G uc6:=trivial
structure Ca1 where
 (alt ns0:Nat)
 eh0:List (List c7)
def ga0{α:Type}(kk:Ca1->α)(x:List Bool):α:=let y0:=(List.range (List.length x));(sl ((!(Nat.beq (List.length x) 0))&&true) (sl (Nat.beq 0 0&&Nat.ble ((0+(len (o7 (λk=>(tB).row (gL tB x k)) y0)))*1) room) (kk ⟨1,(0+(len (o7 (λk=>(tB).row (gL tB x k)) y0))),(app [] (o7 (λk=>(tB).row (gL tB x k)) y0))⟩) (kk ⟨0,0,[]⟩)) (kk ⟨0,0,[]⟩))
def pa9(x:List Bool):Ca1:=ga0 (λr=>r) x
def Ta7(r:Ca1):DT (c7×List c8):=(.ite (Nat.beq r.alt 1) (.ret (.sl 0 0 r.ns0 0,[⟨4,1,r.eh0,true,false,0⟩])) .fail)
theorem Cc5{α β:Type}(F:α->β)(kk:Ca1->α)(x:List Bool):F (ga0 kk x)=ga0 (λr=>F (kk r)) x:=by unfold ga0;(repeat' apply j6 (f:=F))<;>rfl
def Bb3:Sum:=ga4 (ta2 tB) (λx=>Ta7 (pa9 x))
theorem uc7:g9 prog G 47 Bb3:=ib1 (bd b47 mc5) λx=>B7 (Eq.trans (b:=ga0 (λr=>(Ta7 r).run) x) (by kernel_rfl) (Cc5 (λr=>(Ta7 r).run) (λr=>r) x).symm)
def fc7:List (Nat×Sum):=[]
theorem Zb6:i9 prog G fc7:=trivial
structure va8 where
 (alt ns0:Nat)
 eh0:List (List c7)
def W8{α:Type}(kk:va8->α)(x:PLq):α:=let y0:=(List.range (List.length x));(sl ((!(Nat.beq (List.length x) 0))&&true) (sl (Nat.beq 0 0&&Nat.ble ((0+(len (o7 (λk=>(tP).row (gL tP x k)) y0)))*32) room) (kk ⟨1,(0+(len (o7 (λk=>(tP).row (gL tP x k)) y0))),(app [] (o7 (λk=>(tP).row (gL tP x k)) y0))⟩) (kk ⟨0,0,[]⟩)) (kk ⟨0,0,[]⟩))
def ja3(x:PLq):va8:=W8 (λr=>r) x
def Ha7(r:va8):DT (c7×List c8):=(.ite (Nat.beq r.alt 1) (.ret (.sl 0 0 r.ns0 0,[⟨66,4,r.eh0,true,false,0⟩])) .fail)
theorem mc6{α β:Type}(F:α->β)(kk:va8->α)(x:PLq):F (W8 kk x)=W8 (λr=>F (kk r)) x:=by unfold W8;(repeat' apply j6 (f:=F))<;>rfl
def nb5:Sum:=ga4 (ta2 tP) (λx=>Ha7 (ja3 x))
theorem fc8:g9 prog G 75 nb5:=ib1 (bd b75 Zb6) λx=>B7 (Eq.trans (b:=W8 (λr=>(Ha7 r).run) x) (by kernel_rfl) (mc6 (λr=>(Ha7 r).run) (λr=>r) x).symm)
def kc9:List (Nat×Sum):=[(75,nb5)]
theorem dd4:i9 prog G kc9:=⟨fc8,trivial⟩
structure aa6 where
 rb3:LPq
 is7:Int
structure H8 where
 ph:Nat
 is8:Int
 ns3:Nat
 eh0:List (List c7)
def Kb8(p:aa6)(s:H8):St:=⟨ra 3 (.v (.slice none 0 0)::.unk::.unk::eL tLq p.rb3::i p.is7::i s.is8::ra 10 []),[]⟩
def Kb9(p:aa6)(s:H8):St:=⟨ra 3 (.sl 0 0 s.ns3 0::.unk::.unk::eL tLq p.rb3::i p.is7::i s.is8::ra 10 []),[⟨35,1,s.eh0,true,false,0⟩]⟩
def Uc6(p:aa6)(s:H8):St:=(sel (Nat.beq s.ph 1) (Kb9 p s) (Kb8 p s))
def Z4{α:Type}(k:H8->α)(e:Nat->α)(z:α)(p:aa6)(s:H8):α:=let t1:=(ja3 (rt tP (gL tLq p.rb3 s.is8.toNat)));(sl (decide (s.is8<p.is7)) (sl (inB s.is8 (List.length p.rb3)) (sl (okE tP (gL tLq p.rb3 s.is8.toNat)) (sl (Nat.beq t1.alt 1) (k ⟨1,W (s.is8+1),1,[[(.tree 4 t1.ns0 (λk=>d9 t1.eh0 (0+k)))]]⟩) z) z) z) (e 1))
def Z5{α:Type}(k:H8->α)(e:Nat->α)(z:α)(p:aa6)(s:H8):α:=let t1:=(ja3 (rt tP (gL tLq p.rb3 s.is8.toNat)));(sl (decide (s.is8<p.is7)) (sl (inB s.is8 (List.length p.rb3)) (sl (okE tP (gL tLq p.rb3 s.is8.toNat)) (sl (Nat.beq t1.alt 1) (sl (Nat.beq s.ns3 (len s.eh0)&&Nat.ble ((s.ns3+1)*24) room) (k ⟨1,W (s.is8+1),s.ns3+1,(app s.eh0 [[(.tree 4 t1.ns0 (λk=>d9 t1.eh0 (0+k)))]])⟩) z) z) z) z) (e 2))
def na9(p:aa6)(s:H8):Stp H8:=(sel (Nat.beq s.ph 1) (Z5 .next .exit .fail p s) (Z4 .next .exit .fail p s))
def qb9:Lo aa6 H8:=⟨En kc9,0,Xf7,[1,1,0,1,4,4],[3,6,7,8],.p,[⟨ru2 3 (.s (.o .nil)::sUq::sUq::sLq tLq::sIq::sIq::ru2 10 []),[],λa H=>(⟨aLq tLq a 6,aIq a 7⟩,⟨0,aIq a 8,0,[]⟩)⟩,⟨ru2 3 (.s (.o (.sl 0 0 (some 0) none))::sUq::sUq::sLq tLq::sIq::sIq::ru2 10 []),[⟨35,1,true,none⟩],λa H=>(⟨aLq tLq a 6,aIq a 7⟩,⟨1,aIq a 8,slN (slT a 3),elT H 0⟩)⟩],na9,[(some 0,λp s=>upq (Kb8 p s) [(9,b (decide (s.is8<p.is7)))]),(some 0,λp s=>upq (Kb9 p s) [(9,b (decide (s.is8<p.is7)))])],Uc6⟩
theorem Uc7:qb9.Ok:=Lo.ok [] (by kernel_rfl) .nil rfl (.cons (λa H=>by kernel_rfl) (.cons (λa H=>by kernel_rfl) .nil)) λp s=>(.sel (Nat.beq s.ph 1) (.of @Z5 (λF _ _ _ _ _=>by unfold Z5;(repeat' apply j6 (f:=F))<;>rfl) (by kernel_rfl)) (.of @Z4 (λF _ _ _ _ _=>by unfold Z4;(repeat' apply j6 (f:=F))<;>rfl) (by kernel_rfl)))
def Ta8(x:LPq):ROq:=let t1:=(lp (na9 (⟨rt tLq x,(↑(List.length x):Int)⟩:aa6)) (⟨0,0,0,[]⟩:H8));(sl ((cnE tLq x)&&true) (sl (Nat.beq t1.1 1) (some (.v (.slice none 0 0),[])) (sl (Nat.beq t1.1 2) (some (.sl 0 0 t1.2.ns3 0,[⟨35,1,t1.2.eh0,true,false,0⟩])) none)) none)
def na0(x:LPq):LPq:=ba8 (one (r1L tLq)) (Ta8 x)
def ea6(x:LPq):Bool:=okO (one (r1L tLq)) (Ta8 x)
def Lb0:Sum:=ga4 (ta2 tLq) (λx=>.guard (ea6 x) (.ret ((one (r1L tLq)).enc (na0 x),[])))
theorem lc0:g9 prog G 48 Lb0:=db8 (bd b48 dd4) (one (r1L tLq)) (o:=Ta8) λx=>Ia8 (.s .p (.s .p (.s (.s .p (.b (.u qb9.ls))) .p))) [qb9.pr] (by kernel_rfl) (.cons Uc7 .nil) (by kernel_rfl)
structure db1 where
 is0:Int
 (ba9 d7:PLq)
def dd5:List (Nat×Sum):=[(28,Db3)]
theorem Uc8:i9 prog G dd5:=⟨Ub1,trivial⟩
structure db2 where
 alt:Nat
 bs0:Bool
def xa1{α:Type}(kk:db2->α)(x:db1):α:=let t1:=(Ha2 (rt tP x.ba9) (rt tP x.d7));(sl (okE tP x.ba9) (sl (okE tP x.d7) (sl (Ha3 (rt tP x.ba9) (rt tP x.d7)) (kk ⟨1,!t1⟩) (kk ⟨0,false⟩)) (kk ⟨0,false⟩)) (kk ⟨0,false⟩))
def La5(x:db1):db2:=xa1 (λr=>r) x
def rb0(x:db1)(r:db2):DT (c7×List c8):=(.ite (Nat.beq r.alt 1) (.ret (b r.bs0,[⟨0,1,[[eL tP x.d7]],true,false,0⟩])) .fail)
theorem nd8{α β:Type}(F:α->β)(kk:db2->α)(x:db1):F (xa1 kk x)=xa1 (λr=>F (kk r)) x:=by unfold xa1;(repeat' apply j6 (f:=F))<;>rfl
def lc1:Sum:=Ma9 ⟨[sIq,sLq tP,sPq 0],[⟨0,1,true,some [[.c 4 (nL tP)]]⟩],λa H=>(⟨aIq a 0,aLq tP a 1,hLq tP H 0 0 0⟩,())⟩ (λx=>rb0 x (La5 x))
theorem dd6:g9 prog G 50 lc1:=F6 (enc:=λx=>⟨[i x.is0,eL tP x.ba9,.ptr 0 0 0 0],[⟨0,1,[[eL tP x.d7]],true,false,0⟩]⟩) (λa H=>by kernel_rfl) (bd b50 Uc8) λx=>B7 (Eq.trans (b:=xa1 (λr=>(rb0 x r).run) x) (by kernel_rfl) (nd8 (λr=>(rb0 x r).run) (λr=>r) x).symm)
structure Ca2 where
 C0:LPq
 d7:PLq
def wb1:List (Nat×Sum):=[(50,lc1)]
theorem mc7:i9 prog G wb1:=⟨dd6,trivial⟩
structure J5 where
 ka6:LPq
 is9:Int
structure p7 where
 ph:Nat
 K3:Int
 d7:PLq
 ns5:Nat
 eh1:List (List c7)
def fb6(p:J5)(s:p7):St:=⟨.unk::.fn 50 [.ptr 0 0 0 0]::ra 3 (.v (.slice none 0 0)::.unk::.unk::eL tLq p.ka6::i p.is9::i s.K3::ra 14 []),[⟨0,1,[[eL tP s.d7]],true,false,0⟩]⟩
def fb7(p:J5)(s:p7):St:=⟨.unk::.fn 50 [.ptr 0 0 0 0]::ra 3 (.sl 1 0 s.ns5 0::.unk::.unk::eL tLq p.ka6::i p.is9::i s.K3::ra 14 []),[⟨0,1,[[eL tP s.d7]],true,false,0⟩,⟨35,1,s.eh1,true,false,0⟩]⟩
def fc9(p:J5)(s:p7):St:=(sel (Nat.beq s.ph 1) (fb7 p s) (fb6 p s))
def K9{α:Type}(k:p7->α)(e:Nat->α)(z:α)(p:J5)(s:p7):α:=let y1:=(rt tP s.d7);let y0:=(gL tLq p.ka6 s.K3.toNat);let t1:=(La5 ⟨s.K3,rt tP y0,y1⟩);(sl (decide (s.K3<p.is9)) (sl (inB s.K3 (List.length p.ka6)) (sl ((cnE tP y0)&&((cnE tP s.d7)&&true)) (sl (Nat.beq t1.alt 1) (sl t1.bs0 (k ⟨1,W (s.K3+1),y1,1,[[eL tP y0]]⟩) (k ⟨0,W (s.K3+1),y1,0,[]⟩)) z) z) z) (e 1))
def L0{α:Type}(k:p7->α)(e:Nat->α)(z:α)(p:J5)(s:p7):α:=let y1:=(rt tP s.d7);let y0:=(gL tLq p.ka6 s.K3.toNat);let t1:=(La5 ⟨s.K3,rt tP y0,y1⟩);(sl (decide (s.K3<p.is9)) (sl (inB s.K3 (List.length p.ka6)) (sl ((cnE tP y0)&&((cnE tP s.d7)&&true)) (sl (Nat.beq t1.alt 1) (sl t1.bs0 (sl (Nat.beq s.ns5 (len s.eh1)&&Nat.ble ((s.ns5+1)*24) room) (k ⟨1,W (s.K3+1),y1,s.ns5+1,app s.eh1 [[eL tP y0]]⟩) z) (k ⟨1,W (s.K3+1),y1,s.ns5,s.eh1⟩)) z) z) z) (e 2))
def ea7(p:J5)(s:p7):Stp p7:=(sel (Nat.beq s.ph 1) (L0 .next .exit .fail p s) (K9 .next .exit .fail p s))
def Na5:Lo J5 p7:=⟨En wb1,1,Of8,[1,1,0,1,4,4],[1,5,8,9,10],.p,[⟨sUq::.fn 50 [.o (.ptr 0 0 0 0)]::ru2 3 (.s (.o .nil)::sUq::sUq::sLq tLq::sIq::sIq::ru2 14 []),[⟨0,1,true,some [[.c 4 (nL tP)]]⟩],λa H=>(⟨aLq tLq a 8,aIq a 9⟩,⟨0,aIq a 10,hLq tP H 0 0 0,0,[]⟩)⟩,⟨sUq::.fn 50 [.o (.ptr 0 0 0 0)]::ru2 3 (.s (.o (.sl 1 0 (some 0) none))::sUq::sUq::sLq tLq::sIq::sIq::ru2 14 []),[⟨0,1,true,some [[.c 4 (nL tP)]]⟩,⟨35,1,true,none⟩],λa H=>(⟨aLq tLq a 8,aIq a 9⟩,⟨1,aIq a 10,hLq tP H 0 0 0,slN (slT a 5),elT H 1⟩)⟩],ea7,[(some 0,λp s=>upq (fb6 p s) [(11,b (decide (s.K3<p.is9)))]),(some 0,λp s=>upq (fb7 p s) [(11,b (decide (s.K3<p.is9)))])],fc9⟩
theorem gc0:Na5.Ok:=Lo.ok [] (by kernel_rfl) .nil rfl (.cons (λa H=>by kernel_rfl) (.cons (λa H=>by kernel_rfl) .nil)) λp s=>(.sel (Nat.beq s.ph 1) (.of @L0 (λF _ _ _ _ _=>by unfold L0;(repeat' apply j6 (f:=F))<;>rfl) (by kernel_rfl)) (.of @K9 (λF _ _ _ _ _=>by unfold K9;(repeat' apply j6 (f:=F))<;>rfl) (by kernel_rfl)))
structure Ca3 where
 alt:Nat
 d7:PLq
 ns0:Nat
 eh1:List (List c7)
def ga1{α:Type}(kk:Ca3->α)(x:Ca2):α:=let t1:=(lp (ea7 (⟨rt tLq x.C0,(↑(List.length x.C0):Int)⟩:J5)) (⟨0,0,rt tP x.d7,0,[]⟩:p7));(sl ((cnE tLq x.C0)&&((cnE tP x.d7)&&true)) (sl (Nat.beq t1.1 1) (kk ⟨1,t1.2.d7,0,[]⟩) (sl (Nat.beq t1.1 2) (kk ⟨2,t1.2.d7,t1.2.ns5,t1.2.eh1⟩) (kk ⟨0,[],0,[]⟩))) (kk ⟨0,[],0,[]⟩))
def e8(x:Ca2):Ca3:=ga1 (λr=>r) x
def Ta9(x:Ca2)(r:Ca3):DT (c7×List c8):=(.ite (Nat.beq r.alt 1) (.ret (.v (.slice none 0 0),[⟨0,1,[[eL tP r.d7]],true,false,0⟩])) (.ite (Nat.beq r.alt 2) (.ret (.sl 1 0 r.ns0 0,[⟨0,1,[[eL tP r.d7]],true,false,0⟩,⟨35,1,r.eh1,true,false,0⟩])) .fail))
theorem Cc6{α β:Type}(F:α->β)(kk:Ca3->α)(x:Ca2):F (ga1 kk x)=ga1 (λr=>F (kk r)) x:=by unfold ga1;(repeat' apply j6 (f:=F))<;>rfl
def Bb4:Sum:=Ma9 ⟨[sLq tLq,.fn 50 [.o (.ptr 0 0 0 0)]],[⟨0,1,true,some [[.c 4 (nL tP)]]⟩],λa H=>(⟨aLq tLq a 0,hLq tP H 0 0 0⟩,())⟩ (λx=>Ta9 x (e8 x))
theorem uc8:g9 prog G 49 Bb4:=F6 (enc:=λx=>⟨[eL tLq x.C0,.fn 50 [.ptr 0 0 0 0]],[⟨0,1,[[eL tP x.d7]],true,false,0⟩]⟩) (λa H=>by kernel_rfl) (bd b49 mc7) λx=>Ia8 (.s .p (.s .p (.s (.s .p (.b (.u Na5.ls))) .p))) [Na5.pr] (by kernel_rfl) (.cons gc0 .nil) (Eq.trans (b:=ga1 (λr=>(Ta9 x r).run) x) (by kernel_rfl) (Cc6 (λr=>(Ta9 x r).run) (λr=>r) x).symm)
def uc9:List (Nat×Sum):=[(44,lb6),(46,lb8),(45,Ab0),(47,Bb3),(48,Lb0),(49,Bb4),(29,tc7),(27,sb8)]
theorem nd9:i9 prog G uc9:=⟨Ab1,Zb5,Zb1,uc7,lc0,uc8,nd0,Kb3,trivial⟩
structure xa2 where
 (Ia6 eb3 D3:LPq)
 Lc9:Int
 (Oa8 O0:Nat)
 o5:LPq
structure O8 where
 o9:Int
 (eh2 eh3:List (List c7))
def Zb7(p:xa2)(s:O8):St:=⟨.unk::.unk::eL tLq p.Ia6::eL tLq p.eb3::ra 4 (.ptr 0 0 0 0::ra 3 (.ptr 1 0 0 0::ra 43 (eL tLq p.D3::i p.Lc9::i s.o9::ra 51 []))),[⟨0,3,[[.v (.slice none 0 0),.v (.slice none 0 0),.v (.slice none 0 0)]],true,false,0⟩,⟨0,0,[[.sl 2 0 p.Oa8 0,.sl 3 0 p.O0 0,eL tLq p.o5]],true,false,0⟩,⟨4,1,s.eh2,true,false,0⟩,⟨4,1,s.eh3,true,false,0⟩]⟩
def za5{α:Type}(k:O8->α)(e:Nat->α)(z:α)(p:xa2)(s:O8):α:=let y7:=(inB s.o9 p.O0);let y5:=(W (s.o9+1));let y1:=(inB s.o9 p.Oa8);let a1:=(d9 s.eh3 (0+s.o9.toNat));let y0:=(setAt s.eh3 (0+s.o9.toNat) (T1 a1 0 [b true]));let a2:=(d9 s.eh2 (0+s.o9.toNat));let y10:=(toB (hdA (j7 a2 0)));let a0:=((Nat.blt (0+s.o9.toNat) (len s.eh2))&&(Nat.ble (0+1) (len a2)));let y6:=(a0&&(Na9 [CK.bool] (j7 a2 0)));let a3:=(gL tLq p.D3 s.o9.toNat);let t1:=(e8 ⟨rt tLq p.o5,rt tP a3⟩);let y14:=(Nat.beq t1.alt 2);let y13:=(Nat.beq t1.alt 1);let y4:=(rt tP t1.d7);let y11:=(ua7 [] y4);let y3:=(okE tP t1.d7);let t2:=(p9 [] y4);let y8:=(setAt s.eh2 (0+s.o9.toNat) (T1 a2 0 [b t2.1]));let t4:=(P7 (rt tP a3) (rt tLq p.Ia6));let t5:=(P7 (rt tP a3) (rt tLq p.eb3));let y2:=(setAt s.eh3 (0+s.o9.toNat) (T1 a1 0 [b (!t5)]));let a4:=((Nat.blt (0+s.o9.toNat) (len s.eh3))&&(Nat.ble (0+1) (len a1)));let a6:=(λk=>d9 t1.eh1 (0+k));let y12:=(okL tLq t1.ns0 a6);let t3:=(p9 (lsL tLq t1.ns0 a6) y4);let y9:=(setAt s.eh2 (0+s.o9.toNat) (T1 a2 0 [b t3.1]));let a5:=(ua7 (lsL tLq t1.ns0 a6) y4);let a7:=((cnE tLq p.o5)&&((cnE tP a3)&&true));let w0:α:=(sl y1 (sl a0 (k ⟨y5,y8,y0⟩) z) z);let w1:α:=(sl y1 (sl a0 (k ⟨y5,y9,y0⟩) z) z);(sl (decide (s.o9<p.Lc9)) (sl (inB s.o9 (List.length p.D3)) (sl y7 (sl (a4&&(Na9 [CK.bool] (j7 a1 0))) (sl (toB (hdA (j7 a1 0))) (sl y7 (sl a4 (sl y1 (sl y6 (sl y10 (k ⟨y5,s.eh2,y0⟩) (sl a7 (sl y13 (sl y3 (sl y11 (sl (t2.2 != 0) (e 1) w0) z) z) (sl y14 (sl y12 (sl y3 (sl a5 (sl (t3.2 != 0) (e 2) w1) z) z) z) z)) z)) z) z) z) z) (sl (okE tP a3) (sl (okE tLq p.Ia6) (sl (Ba3 (rt tP a3) (rt tLq p.Ia6)) (sl (!t4) (sl y7 (sl a4 (sl y1 (sl y6 (sl y10 (k ⟨y5,s.eh2,y0⟩) (sl a7 (sl y13 (sl y3 (sl y11 (sl (t2.2 != 0) (e 3) w0) z) z) (sl y14 (sl y12 (sl y3 (sl a5 (sl (t3.2 != 0) (e 4) w1) z) z) z) z)) z)) z) z) z) z) (sl (okE tP a3) (sl (okE tLq p.eb3) (sl (Ba3 (rt tP a3) (rt tLq p.eb3)) (sl y7 (sl a4 (sl y1 (sl y6 (sl y10 (k ⟨y5,s.eh2,y2⟩) (sl a7 (sl y13 (sl y3 (sl y11 (sl (t2.2 != 0) (e 5) (sl y1 (sl a0 (k ⟨y5,y8,y2⟩) z) z)) z) z) (sl y14 (sl y12 (sl y3 (sl a5 (sl (t3.2 != 0) (e 6) (sl y1 (sl a0 (k ⟨y5,y9,y2⟩) z) z)) z) z) z) z)) z)) z) z) z) z) z) z) z)) z) z) z)) z) z) z) (e 7))
def aa7(p:xa2)(s:O8):Stp O8:=za5 .next .exit .fail p s
def Ab4:Lo xa2 O8:=⟨En uc9,0,Xf3,[1,1,1,1,1,0,1,4,4],[2,3,8,12,56,57,58],.p,[⟨sUq::sUq::sLq tLq::sLq tLq::ru2 4 (sPq 0::ru2 3 (sPq 1::ru2 43 (sLq tLq::sIq::sIq::ru2 51 []))),[⟨0,3,true,some [[.o .nil,.o .nil,.o .nil]]⟩,⟨0,0,true,some [[.o (.sl 2 0 (some 0) none),.o (.sl 3 0 (some 0) none),.c 1 (nL tLq)]]⟩,⟨4,1,true,none⟩,⟨4,1,true,none⟩],λa H=>(⟨aLq tLq a 2,aLq tLq a 3,aLq tLq a 56,aIq a 57,slN (slT (rwT (elT H 1) 0) 0),slN (slT (rwT (elT H 1) 0) 1),hLq tLq H 1 0 2⟩,⟨aIq a 58,elT H 2,elT H 3⟩)⟩],aa7,[(none,λp s=>let t1:=(e8 ⟨rt tLq p.o5,rt tP (gL tLq p.D3 s.o9.toNat)⟩);let t2:=(p9 [] (rt tP t1.d7));⟨.unk::.unk::eL tLq p.Ia6::eL tLq p.eb3::ra 4 (.ptr 0 0 0 0::i t2.2::.unk::.unk::.ptr 1 0 0 0::i s.o9::.ptr 4 0 0 0::.v (.slice none 0 0)::b t2.1::i t2.2::ra 38 (eL tLq p.D3::i p.Lc9::i s.o9::b (decide (s.o9<p.Lc9))::i s.o9::.tptr [eL tP (gL tLq p.D3 s.o9.toNat)]::eL tP (gL tLq p.D3 s.o9.toNat)::.ptr 1 0 1 0::.sl 3 0 p.O0 0::i s.o9::.ptr 1 0 1 0::.sl 3 0 p.O0 0::i s.o9::.ptr 3 (0+s.o9.toNat) 0 0::b (toB (hdA (j7 (d9 s.eh3 (0+s.o9.toNat)) 0)))::b true::u::u::u::u::b true::b true::u::u::u::u::b true::.ptr 3 (0+s.o9.toNat) 0 0::.ptr 1 0 0 0::.sl 2 0 p.Oa8 0::i s.o9::.ptr 2 (0+s.o9.toNat) 0 0::b (toB (hdA (j7 (d9 s.eh2 (0+s.o9.toNat)) 0)))::.ptr 1 0 2 0::eL tLq p.o5::.fn 50 [.ptr 4 0 0 0]::.v (.slice none 0 0)::.tup [b t2.1,i t2.2]::.v (.slice none 0 0)::eL tP t1.d7::.tup [b t2.1,i t2.2]::b t2.1::i t2.2::i t2.2::b (t2.2 != 0)::.agg [.v (.slice none 0 0),.v (.slice none 0 0),.v (.slice none 0 0)]::i t2.2::ra 7 [])),[⟨0,3,[[.v (.slice none 0 0),.v (.slice none 0 0),.v (.slice none 0 0)]],true,false,0⟩,⟨0,0,[[.sl 2 0 p.Oa8 0,.sl 3 0 p.O0 0,eL tLq p.o5]],true,false,0⟩,⟨4,1,s.eh2,true,false,0⟩,⟨4,1,setAt s.eh3 (0+s.o9.toNat) (T1 (d9 s.eh3 (0+s.o9.toNat)) 0 [b true]),true,false,0⟩,⟨0,1,[[eL tP t1.d7]],true,false,0⟩]⟩),(none,λp s=>let t1:=(e8 ⟨rt tLq p.o5,rt tP (gL tLq p.D3 s.o9.toNat)⟩);let t3:=(p9 (lsL tLq t1.ns0 (λk=>d9 t1.eh1 (0+k))) (rt tP t1.d7));⟨.unk::.unk::eL tLq p.Ia6::eL tLq p.eb3::ra 4 (.ptr 0 0 0 0::i t3.2::.unk::.unk::.ptr 1 0 0 0::i s.o9::.ptr 4 0 0 0::.sl 5 0 t1.ns0 0::b t3.1::i t3.2::ra 38 (eL tLq p.D3::i p.Lc9::i s.o9::b (decide (s.o9<p.Lc9))::i s.o9::.tptr [eL tP (gL tLq p.D3 s.o9.toNat)]::eL tP (gL tLq p.D3 s.o9.toNat)::.ptr 1 0 1 0::.sl 3 0 p.O0 0::i s.o9::.ptr 1 0 1 0::.sl 3 0 p.O0 0::i s.o9::.ptr 3 (0+s.o9.toNat) 0 0::b (toB (hdA (j7 (d9 s.eh3 (0+s.o9.toNat)) 0)))::b true::u::u::u::u::b true::b true::u::u::u::u::b true::.ptr 3 (0+s.o9.toNat) 0 0::.ptr 1 0 0 0::.sl 2 0 p.Oa8 0::i s.o9::.ptr 2 (0+s.o9.toNat) 0 0::b (toB (hdA (j7 (d9 s.eh2 (0+s.o9.toNat)) 0)))::.ptr 1 0 2 0::eL tLq p.o5::.fn 50 [.ptr 4 0 0 0]::.sl 5 0 t1.ns0 0::.tup [b t3.1,i t3.2]::.sl 5 0 t1.ns0 0::eL tP t1.d7::.tup [b t3.1,i t3.2]::b t3.1::i t3.2::i t3.2::b (t3.2 != 0)::.agg [.v (.slice none 0 0),.v (.slice none 0 0),.v (.slice none 0 0)]::i t3.2::ra 7 [])),[⟨0,3,[[.v (.slice none 0 0),.v (.slice none 0 0),.v (.slice none 0 0)]],true,false,0⟩,⟨0,0,[[.sl 2 0 p.Oa8 0,.sl 3 0 p.O0 0,eL tLq p.o5]],true,false,0⟩,⟨4,1,s.eh2,true,false,0⟩,⟨4,1,setAt s.eh3 (0+s.o9.toNat) (T1 (d9 s.eh3 (0+s.o9.toNat)) 0 [b true]),true,false,0⟩,⟨0,1,[[eL tP t1.d7]],true,false,0⟩,⟨35,1,t1.eh1,true,false,0⟩]⟩),(none,λp s=>let t1:=(e8 ⟨rt tLq p.o5,rt tP (gL tLq p.D3 s.o9.toNat)⟩);let t2:=(p9 [] (rt tP t1.d7));let t4:=(P7 (rt tP (gL tLq p.D3 s.o9.toNat)) (rt tLq p.Ia6));⟨.unk::.unk::eL tLq p.Ia6::eL tLq p.eb3::ra 4 (.ptr 0 0 0 0::i t2.2::.unk::.unk::.ptr 1 0 0 0::i s.o9::.ptr 4 0 0 0::.v (.slice none 0 0)::b t2.1::i t2.2::ra 38 (eL tLq p.D3::i p.Lc9::i s.o9::b (decide (s.o9<p.Lc9))::i s.o9::.tptr [eL tP (gL tLq p.D3 s.o9.toNat)]::eL tP (gL tLq p.D3 s.o9.toNat)::.ptr 1 0 1 0::.sl 3 0 p.O0 0::i s.o9::.ptr 1 0 1 0::.sl 3 0 p.O0 0::i s.o9::.ptr 3 (0+s.o9.toNat) 0 0::b (toB (hdA (j7 (d9 s.eh3 (0+s.o9.toNat)) 0)))::b false::eL tP (gL tLq p.D3 s.o9.toNat)::eL tLq p.Ia6::b t4::b (!t4)::b (!t4)::b true::u::u::u::u::b true::.ptr 3 (0+s.o9.toNat) 0 0::.ptr 1 0 0 0::.sl 2 0 p.Oa8 0::i s.o9::.ptr 2 (0+s.o9.toNat) 0 0::b (toB (hdA (j7 (d9 s.eh2 (0+s.o9.toNat)) 0)))::.ptr 1 0 2 0::eL tLq p.o5::.fn 50 [.ptr 4 0 0 0]::.v (.slice none 0 0)::.tup [b t2.1,i t2.2]::.v (.slice none 0 0)::eL tP t1.d7::.tup [b t2.1,i t2.2]::b t2.1::i t2.2::i t2.2::b (t2.2 != 0)::.agg [.v (.slice none 0 0),.v (.slice none 0 0),.v (.slice none 0 0)]::i t2.2::ra 7 [])),[⟨0,3,[[.v (.slice none 0 0),.v (.slice none 0 0),.v (.slice none 0 0)]],true,false,0⟩,⟨0,0,[[.sl 2 0 p.Oa8 0,.sl 3 0 p.O0 0,eL tLq p.o5]],true,false,0⟩,⟨4,1,s.eh2,true,false,0⟩,⟨4,1,setAt s.eh3 (0+s.o9.toNat) (T1 (d9 s.eh3 (0+s.o9.toNat)) 0 [b true]),true,false,0⟩,⟨0,1,[[eL tP t1.d7]],true,false,0⟩]⟩),(none,λp s=>let t1:=(e8 ⟨rt tLq p.o5,rt tP (gL tLq p.D3 s.o9.toNat)⟩);let t3:=(p9 (lsL tLq t1.ns0 (λk=>d9 t1.eh1 (0+k))) (rt tP t1.d7));let t4:=(P7 (rt tP (gL tLq p.D3 s.o9.toNat)) (rt tLq p.Ia6));⟨.unk::.unk::eL tLq p.Ia6::eL tLq p.eb3::ra 4 (.ptr 0 0 0 0::i t3.2::.unk::.unk::.ptr 1 0 0 0::i s.o9::.ptr 4 0 0 0::.sl 5 0 t1.ns0 0::b t3.1::i t3.2::ra 38 (eL tLq p.D3::i p.Lc9::i s.o9::b (decide (s.o9<p.Lc9))::i s.o9::.tptr [eL tP (gL tLq p.D3 s.o9.toNat)]::eL tP (gL tLq p.D3 s.o9.toNat)::.ptr 1 0 1 0::.sl 3 0 p.O0 0::i s.o9::.ptr 1 0 1 0::.sl 3 0 p.O0 0::i s.o9::.ptr 3 (0+s.o9.toNat) 0 0::b (toB (hdA (j7 (d9 s.eh3 (0+s.o9.toNat)) 0)))::b false::eL tP (gL tLq p.D3 s.o9.toNat)::eL tLq p.Ia6::b t4::b (!t4)::b (!t4)::b true::u::u::u::u::b true::.ptr 3 (0+s.o9.toNat) 0 0::.ptr 1 0 0 0::.sl 2 0 p.Oa8 0::i s.o9::.ptr 2 (0+s.o9.toNat) 0 0::b (toB (hdA (j7 (d9 s.eh2 (0+s.o9.toNat)) 0)))::.ptr 1 0 2 0::eL tLq p.o5::.fn 50 [.ptr 4 0 0 0]::.sl 5 0 t1.ns0 0::.tup [b t3.1,i t3.2]::.sl 5 0 t1.ns0 0::eL tP t1.d7::.tup [b t3.1,i t3.2]::b t3.1::i t3.2::i t3.2::b (t3.2 != 0)::.agg [.v (.slice none 0 0),.v (.slice none 0 0),.v (.slice none 0 0)]::i t3.2::ra 7 [])),[⟨0,3,[[.v (.slice none 0 0),.v (.slice none 0 0),.v (.slice none 0 0)]],true,false,0⟩,⟨0,0,[[.sl 2 0 p.Oa8 0,.sl 3 0 p.O0 0,eL tLq p.o5]],true,false,0⟩,⟨4,1,s.eh2,true,false,0⟩,⟨4,1,setAt s.eh3 (0+s.o9.toNat) (T1 (d9 s.eh3 (0+s.o9.toNat)) 0 [b true]),true,false,0⟩,⟨0,1,[[eL tP t1.d7]],true,false,0⟩,⟨35,1,t1.eh1,true,false,0⟩]⟩),(none,λp s=>let t1:=(e8 ⟨rt tLq p.o5,rt tP (gL tLq p.D3 s.o9.toNat)⟩);let t2:=(p9 [] (rt tP t1.d7));let t4:=(P7 (rt tP (gL tLq p.D3 s.o9.toNat)) (rt tLq p.Ia6));let t5:=(P7 (rt tP (gL tLq p.D3 s.o9.toNat)) (rt tLq p.eb3));⟨.unk::.unk::eL tLq p.Ia6::eL tLq p.eb3::ra 4 (.ptr 0 0 0 0::i t2.2::.unk::.unk::.ptr 1 0 0 0::i s.o9::.ptr 4 0 0 0::.v (.slice none 0 0)::b t2.1::i t2.2::ra 38 (eL tLq p.D3::i p.Lc9::i s.o9::b (decide (s.o9<p.Lc9))::i s.o9::.tptr [eL tP (gL tLq p.D3 s.o9.toNat)]::eL tP (gL tLq p.D3 s.o9.toNat)::.ptr 1 0 1 0::.sl 3 0 p.O0 0::i s.o9::.ptr 1 0 1 0::.sl 3 0 p.O0 0::i s.o9::.ptr 3 (0+s.o9.toNat) 0 0::b (toB (hdA (j7 (d9 s.eh3 (0+s.o9.toNat)) 0)))::b false::eL tP (gL tLq p.D3 s.o9.toNat)::eL tLq p.Ia6::b t4::b (!t4)::b (!t4)::b false::eL tP (gL tLq p.D3 s.o9.toNat)::eL tLq p.eb3::b t5::b (!t5)::b (!t5)::.ptr 3 (0+s.o9.toNat) 0 0::.ptr 1 0 0 0::.sl 2 0 p.Oa8 0::i s.o9::.ptr 2 (0+s.o9.toNat) 0 0::b (toB (hdA (j7 (d9 s.eh2 (0+s.o9.toNat)) 0)))::.ptr 1 0 2 0::eL tLq p.o5::.fn 50 [.ptr 4 0 0 0]::.v (.slice none 0 0)::.tup [b t2.1,i t2.2]::.v (.slice none 0 0)::eL tP t1.d7::.tup [b t2.1,i t2.2]::b t2.1::i t2.2::i t2.2::b (t2.2 != 0)::.agg [.v (.slice none 0 0),.v (.slice none 0 0),.v (.slice none 0 0)]::i t2.2::ra 7 [])),[⟨0,3,[[.v (.slice none 0 0),.v (.slice none 0 0),.v (.slice none 0 0)]],true,false,0⟩,⟨0,0,[[.sl 2 0 p.Oa8 0,.sl 3 0 p.O0 0,eL tLq p.o5]],true,false,0⟩,⟨4,1,s.eh2,true,false,0⟩,⟨4,1,setAt s.eh3 (0+s.o9.toNat) (T1 (d9 s.eh3 (0+s.o9.toNat)) 0 [b (!t5)]),true,false,0⟩,⟨0,1,[[eL tP t1.d7]],true,false,0⟩]⟩),(none,λp s=>let t1:=(e8 ⟨rt tLq p.o5,rt tP (gL tLq p.D3 s.o9.toNat)⟩);let t3:=(p9 (lsL tLq t1.ns0 (λk=>d9 t1.eh1 (0+k))) (rt tP t1.d7));let t4:=(P7 (rt tP (gL tLq p.D3 s.o9.toNat)) (rt tLq p.Ia6));let t5:=(P7 (rt tP (gL tLq p.D3 s.o9.toNat)) (rt tLq p.eb3));⟨.unk::.unk::eL tLq p.Ia6::eL tLq p.eb3::ra 4 (.ptr 0 0 0 0::i t3.2::.unk::.unk::.ptr 1 0 0 0::i s.o9::.ptr 4 0 0 0::.sl 5 0 t1.ns0 0::b t3.1::i t3.2::ra 38 (eL tLq p.D3::i p.Lc9::i s.o9::b (decide (s.o9<p.Lc9))::i s.o9::.tptr [eL tP (gL tLq p.D3 s.o9.toNat)]::eL tP (gL tLq p.D3 s.o9.toNat)::.ptr 1 0 1 0::.sl 3 0 p.O0 0::i s.o9::.ptr 1 0 1 0::.sl 3 0 p.O0 0::i s.o9::.ptr 3 (0+s.o9.toNat) 0 0::b (toB (hdA (j7 (d9 s.eh3 (0+s.o9.toNat)) 0)))::b false::eL tP (gL tLq p.D3 s.o9.toNat)::eL tLq p.Ia6::b t4::b (!t4)::b (!t4)::b false::eL tP (gL tLq p.D3 s.o9.toNat)::eL tLq p.eb3::b t5::b (!t5)::b (!t5)::.ptr 3 (0+s.o9.toNat) 0 0::.ptr 1 0 0 0::.sl 2 0 p.Oa8 0::i s.o9::.ptr 2 (0+s.o9.toNat) 0 0::b (toB (hdA (j7 (d9 s.eh2 (0+s.o9.toNat)) 0)))::.ptr 1 0 2 0::eL tLq p.o5::.fn 50 [.ptr 4 0 0 0]::.sl 5 0 t1.ns0 0::.tup [b t3.1,i t3.2]::.sl 5 0 t1.ns0 0::eL tP t1.d7::.tup [b t3.1,i t3.2]::b t3.1::i t3.2::i t3.2::b (t3.2 != 0)::.agg [.v (.slice none 0 0),.v (.slice none 0 0),.v (.slice none 0 0)]::i t3.2::ra 7 [])),[⟨0,3,[[.v (.slice none 0 0),.v (.slice none 0 0),.v (.slice none 0 0)]],true,false,0⟩,⟨0,0,[[.sl 2 0 p.Oa8 0,.sl 3 0 p.O0 0,eL tLq p.o5]],true,false,0⟩,⟨4,1,s.eh2,true,false,0⟩,⟨4,1,setAt s.eh3 (0+s.o9.toNat) (T1 (d9 s.eh3 (0+s.o9.toNat)) 0 [b (!t5)]),true,false,0⟩,⟨0,1,[[eL tP t1.d7]],true,false,0⟩,⟨35,1,t1.eh1,true,false,0⟩]⟩),(some 0,λp s=>upq (Zb7 p s) [(59,b (decide (s.o9<p.Lc9)))])],Zb7⟩
theorem dd7:Ab4.OkM:=Lo.okM [] (by kernel_rfl) .nil rfl (.cons (λa H=>by kernel_rfl) .nil) λp s=>(.of @za5 (λF _ _ _ _ _=>by unfold za5;(repeat' apply j6 (f:=F))<;>rfl) (by kernel_rfl))
def bb6(x:Prt)(y:Pce)(z:LPq)(w:LPq):ROq:=let y9:=((okE tLq y.cu)&&((okE tLq z)&&true));let y8:=(⟨x.nm,rt tLq x.cl,rt tI x.wt⟩:Prt);let y7:=(⟨rt tB y.su,rt tB y.to,rt tLq y.cu⟩:Pce);let y4:=(.tup [.agg [.v (.slice none 0 0),.v (.slice none 0 0),.v (.slice none 0 0)],i 2],[]);let t1:=(Ea8 y8 y7);let t2:=(U5 [rt tLq z,rt tLq w]);let t3:=(pa1 []);let t4:=(pa9 (rt tB y.su));let t5:=(pa9 (rt tB y.to));let y10:=(⟨0,t4.eh0,t5.eh0⟩:O8);let t6:=(U5 [rt tLq y.cu,rt tLq z]);let t7:=(na0 []);let y6:=((cnE tLq z)&&((cnE tLq w)&&((cnE tLq x.cl)&&((cnE tLq t7)&&true))));let t8:=(lp (aa7 (⟨rt tLq z,rt tLq w,rt tLq x.cl,(↑(List.length x.cl):Int),t4.ns0,t5.ns0,rt tLq t7⟩:xa2)) y10);let t9:=(e8 ⟨rt tLq (rt tLq t7),rt tP (gL tLq (rt tLq x.cl) t8.2.o9.toNat)⟩);let t10:=(p9 [] (rt tP t9.d7));let y0:=(.tup [.agg [.v (.slice none 0 0),.v (.slice none 0 0),.v (.slice none 0 0)],i t10.2],[]);let t11:=(p9 (lsL tLq t9.ns0 (λk=>d9 t9.eh1 (0+k))) (rt tP t9.d7));let y1:=(.tup [.agg [.v (.slice none 0 0),.v (.slice none 0 0),.v (.slice none 0 0)],i t11.2],[]);let t21:=(pa1 (lsL tLq t2.ns0 (λk=>d9 t2.eh0 (0+k))));let a0:=(λk=>d9 t6.eh0 (0+k));let y11:=(ea6 (lsL tLq t6.ns0 a0));let t14:=(na0 (lsL tLq t6.ns0 a0));let y5:=((cnE tLq z)&&((cnE tLq w)&&((cnE tLq x.cl)&&((cnE tLq t14)&&true))));let t15:=(lp (aa7 (⟨rt tLq z,rt tLq w,rt tLq x.cl,(↑(List.length x.cl):Int),t4.ns0,t5.ns0,rt tLq t14⟩:xa2)) y10);let t16:=(e8 ⟨rt tLq (rt tLq t14),rt tP (gL tLq (rt tLq x.cl) t15.2.o9.toNat)⟩);let t17:=(p9 [] (rt tP t16.d7));let y2:=(.tup [.agg [.v (.slice none 0 0),.v (.slice none 0 0),.v (.slice none 0 0)],i t17.2],[]);let t18:=(p9 (lsL tLq t16.ns0 (λk=>d9 t16.eh1 (0+k))) (rt tP t16.d7));let y3:=(.tup [.agg [.v (.slice none 0 0),.v (.slice none 0 0),.v (.slice none 0 0)],i t18.2],[]);(sl ((okE tLq x.cl)&&((okE tI x.wt)&&true)) (sl ((okE tB y.su)&&((okE tB y.to)&&((okE tLq y.cu)&&true))) (sl (Ea9 y8 y7) (sl (t1 != 0) (some (.tup [.agg [.v (.slice none 0 0),.v (.slice none 0 0),.v (.slice none 0 0)],i t1],[])) (sl ((okE tLq z)&&((okE tLq w)&&true)) (sl (Nat.beq t2.alt 1) (sl (pa2 []) (sl (t3 != 0) (some (.tup [.agg [.v (.slice none 0 0),.v (.slice none 0 0),.v (.slice none 0 0)],i t3],[])) (sl (decide ((W ((↑(List.length y.cu):Int)+(↑(List.length z):Int)))>24)) (some y4) (sl (okE tB y.su) (sl (Nat.beq t4.alt 1) (sl (okE tB y.to) (sl (Nat.beq t5.alt 1) (sl y9 (sl (Nat.beq t6.alt 1) (sl (ea6 []) (sl y6 (sl (Nat.beq t8.1 1) (some y0) (sl (Nat.beq t8.1 2) (some y1) (sl (Nat.beq t8.1 3) (some y0) (sl (Nat.beq t8.1 4) (some y1) (sl (Nat.beq t8.1 5) (some y0) (sl (Nat.beq t8.1 6) (some y1) (sl (Nat.beq t8.1 7) (some ((.tup [(.agg [(.tree 1 t4.ns0 (λk=>d9 t8.2.eh2 (0+k))),(.tree 1 t5.ns0 (λk=>d9 t8.2.eh3 (0+k))),eL tLq (rt tLq t7)]),i 0]),[])) none))))))) none) none) (sl (Nat.beq t6.alt 2) (sl (okL tLq t6.ns0 a0) (sl y11 (sl y5 (sl (Nat.beq t15.1 1) (some y2) (sl (Nat.beq t15.1 2) (some y3) (sl (Nat.beq t15.1 3) (some y2) (sl (Nat.beq t15.1 4) (some y3) (sl (Nat.beq t15.1 5) (some y2) (sl (Nat.beq t15.1 6) (some y3) (sl (Nat.beq t15.1 7) (some ((.tup [(.agg [(.tree 1 t4.ns0 (λk=>d9 t15.2.eh2 (0+k))),(.tree 1 t5.ns0 (λk=>d9 t15.2.eh3 (0+k))),eL tLq (rt tLq t14)]),i 0]),[])) none))))))) none) none) none) none)) none) none) none) none) none))) none) (sl (Nat.beq t2.alt 2) (sl (okL tLq t2.ns0 (λk=>d9 t2.eh0 (0+k))) (sl (pa2 (lsL tLq t2.ns0 (λk=>d9 t2.eh0 (0+k)))) (sl (t21 != 0) (some (.tup [.agg [.v (.slice none 0 0),.v (.slice none 0 0),.v (.slice none 0 0)],i t21],[])) (sl (decide ((W ((↑(List.length y.cu):Int)+(↑(List.length z):Int)))>24)) (some y4) (sl (okE tB y.su) (sl (Nat.beq t4.alt 1) (sl (okE tB y.to) (sl (Nat.beq t5.alt 1) (sl y9 (sl (Nat.beq t6.alt 1) (sl (ea6 []) (sl y6 (sl (Nat.beq t8.1 1) (some y0) (sl (Nat.beq t8.1 2) (some y1) (sl (Nat.beq t8.1 3) (some y0) (sl (Nat.beq t8.1 4) (some y1) (sl (Nat.beq t8.1 5) (some y0) (sl (Nat.beq t8.1 6) (some y1) (sl (Nat.beq t8.1 7) (some ((.tup [(.agg [(.tree 1 t4.ns0 (λk=>d9 t8.2.eh2 (0+k))),(.tree 1 t5.ns0 (λk=>d9 t8.2.eh3 (0+k))),eL tLq (rt tLq t7)]),i 0]),[])) none))))))) none) none) (sl (Nat.beq t6.alt 2) (sl (okL tLq t6.ns0 a0) (sl y11 (sl y5 (sl (Nat.beq t15.1 1) (some y2) (sl (Nat.beq t15.1 2) (some y3) (sl (Nat.beq t15.1 3) (some y2) (sl (Nat.beq t15.1 4) (some y3) (sl (Nat.beq t15.1 5) (some y2) (sl (Nat.beq t15.1 6) (some y3) (sl (Nat.beq t15.1 7) (some ((.tup [(.agg [(.tree 1 t4.ns0 (λk=>d9 t15.2.eh2 (0+k))),(.tree 1 t5.ns0 (λk=>d9 t15.2.eh3 (0+k))),eL tLq (rt tLq t14)]),i 0]),[])) none))))))) none) none) none) none)) none) none) none) none) none))) none) none) none)) none)) none) none) none)
def la8(x:Prt)(y:Pce)(z:LPq)(w:LPq):Pce×Int:=ba8 (two r1O r1I) (bb6 x y z w)
def la9(x:Prt)(y:Pce)(z:LPq)(w:LPq):Bool:=okO (two r1O r1I) (bb6 x y z w)
def Vb1:Sum:=Re0 cJ cO (ta2 tLq) (ta2 tLq) (λx y z w=>.guard (la9 x y z w) (.ret ((two r1O r1I).enc (la8 x y z w),[])))
theorem vc0:g9 prog G 19 Vb1:=eg1 (bd b19 nd9) (two r1O r1I) (o:=bb6) λx y z w=>Od9 (.s .p (.s .p (.s .p (.s .p (.s .p (.s (.s .p (.b (.u Ab4.lsM))) .p)))))) [Ab4.prM] (by kernel_rfl) (.cons dd7 .nil) (by kernel_rfl)
theorem Ee4{l:List LPq}{j:Nat}(h:j<l.length):gL tMq l j=l[j]:=Ya0 tMq h
theorem We8(ls:List LPq)(hn:ls.length<=1000000000)(hl:ls.flatten.length<=1000000000):∃m,lp (N5 ⟨ls,ls,(ls.length:Int)⟩) ⟨0,0⟩=(1,⟨(ls.flatten.length:Int),m⟩):=by
 have h:=Ka8 (step:=N5 ⟨ls,ls,(ls.length:Int)⟩) (mk:=λj (n:Nat)=>(⟨(n:Int),(j:Int)⟩:A9)) (f:=λl _ n=>n+l.length) (g:=λl n=>n+l.flatten.length) (fin:=λ_=>1) ls
  (λj n=>n+(ls.drop j).flatten.length=ls.flatten.length) hn (λ_=>rfl) (λx r a=>by simp only[List.flatten_cons,Qka];omega)
  (λj n hj hi=>by
   rw[Qkac hj,List.flatten_cons,Qka] at hi;have hW:W ((n:Int)+(ls[j].length:Int))=((n+ls[j].length:Nat):Int):=by rw[Ka7 (by omega) (by omega)];omega
   refine⟨?_,by show n+ls[j].length+(ls.drop (j+1)).flatten.length=_;omega⟩
   simp only[N5,T0,Int.toNat_natCast,Ee4 hj,hW,u7 hj (by omega)]
   rw[btD (n7 hj),bt (g8 hj),bfD (by omega)])
  (λj n hj _=>by
   simp only[N5,T0];rw[bfD (by omega)]) 0 0 (by simp)
 have h:=h.1;rw[Qkk,Qkg] at h;exact⟨_,h⟩
theorem We9{ls:List LPq}(h:ls.flatten=[]){j:Nat}(hj:j<ls.length):ls[j]=[]:=by
 rw[List.flatten_eq_nil_iff] at h;exact h _ (List.getElem_mem hj)
theorem nf6(ls:List LPq)(hn:ls.length<=1000000000)(hl:ls.flatten=[]):∃s,lp (G7 ⟨ls,(ls.length:Int)⟩) ⟨0,0,0,[]⟩=(1,s):=by
 have h:=Ka8 (step:=G7 ⟨ls,(ls.length:Int)⟩) (mk:=λj (_:Unit)=>(⟨0,(j:Int),0,[]⟩:l8)) (f:=λ_ _ n=>n) (g:=λ_ n=>n) (fin:=λ_=>1) ls
  (λ_ _=>True) hn (λ_=>rfl) (λx r a=>rfl)
  (λj n hj hi=>by
   refine⟨?_,trivial⟩;show E5 Stp.next Stp.exit Stp.fail _ _=_;simp only[E5,Int.toNat_natCast,Ee4 hj,We9 hl hj,u7 hj (by omega)]
   rw[btD (n7 hj),bt (g8 hj)]
   rfl)
  (λj n hj _=>by
   show E5 Stp.next Stp.exit Stp.fail _ _=_;simp only[E5];rw[bfD (by omega)]) 0 () trivial
 exact⟨_,h.1⟩
def parts(t:Nat)(d:LPq):List (List c7):=app (bL tLq d) (List.replicate (t-d.length) Uc5)
theorem Xe0(t:Nat)(d:LPq)(h:d.length<=t):len (parts t d)=t:=by
 unfold parts;rw[I5,n9,Qka,<- n9,ja7,Qkak];omega
theorem Xe1(t:Nat)(d l:LPq)(h:d.length+l.length<=t):app (J3 (parts t d) d.length) (app (bL tLq l) (j7 (parts t d) (d.length+len (bL tLq l))))=parts t (d++l):=by
 have hd:(bL tLq d).length=d.length:=by rw[<- n9,ja7]
 unfold parts;rw[ja7,<- ob4];simp only[I5,I1,I4];rw[List.take_left' hd,List.append_assoc];congr 2;rw[List.drop_append,List.drop_eq_nil_of_le (by omega),List.nil_append,hd,List.drop_replicate,Qka]
 congr 1;omega
theorem nf7(c:LPq):o7 (λk=>tLq.row (gL tLq c k)) (List.range c.length)=bL tLq c:=by
 unfold bL;rw[l9,l9];refine Qkm (by simp) λk h1 h2=>?_
 have hk:k<c.length:=by simpa using h2
 simp[gL,Qkb,Qkd hk]
theorem Xe2(ls:List LPq)(hn:ls.length<=1000000000):∃m,lp (G7 ⟨ls,(ls.length:Int)⟩) ⟨1,0,0,List.replicate ls.flatten.length Uc5⟩=(2,⟨1,m,ls.flatten.length,bL tLq ls.flatten⟩):=by
 have h:=Ka8 (step:=G7 ⟨ls,(ls.length:Int)⟩) (mk:=λj (d:LPq)=>(⟨1,(j:Int),d.length,parts ls.flatten.length d⟩:l8)) (f:=λl _ d=>d++l) (g:=λl d=>d++l.flatten) (fin:=λ_=>2) ls
  (λj d=>d.length+(ls.drop j).flatten.length=ls.flatten.length) hn (λ_=>by simp) (λx r a=>by simp)
  (λj d hj hi=>by
   rw[Qkac hj,List.flatten_cons,Qka] at hi;refine⟨?_,by show (d++ls[j]).length+(ls.drop (j+1)).flatten.length=_;rw[Qka];omega⟩
   show E6 Stp.next Stp.exit Stp.fail _ _=_;simp only[E6,Int.toNat_natCast,Ee4 hj,u7 hj (by omega),nf7]
   rw[Xe1 _ _ _ (by omega),Xe0 _ _ (by omega),ja7,btD (n7 hj),bt (g8 hj),bt (by rw[Qks];omega),Qka])
  (λj d hj _=>by
   show E6 Stp.next Stp.exit Stp.fail _ _=_;simp only[E6];rw[bfD (by omega)]) 0 [] (by simp)
 have h:=h.1;rw[Qkk,List.nil_append] at h;have e:parts ls.flatten.length ls.flatten=bL tLq ls.flatten:=by unfold parts;rw[Nat.sub_self,I5];simp
 rw[e] at h;exact⟨_,h⟩
theorem Ee5(ls:List LPq)(hn:ls.length<=1000000000)(hl:ls.flatten.length<=1000000000):U5 ls=if ls.flatten=[] then ⟨1,0,[]⟩ else ⟨2,ls.flatten.length,bL tLq ls.flatten⟩:=by
 unfold U5 U4;simp only[i6,l4];obtain⟨m,hm⟩:=We8 ls hn hl;rw[hm];by_cases h0:ls.flatten=[]
 ·obtain⟨s,hs⟩:=nf6 ls hn h0;rw[if_pos h0,hs];rw[show (⟨(ls.flatten.length:Int),m⟩:A9)=⟨0,m⟩ by rw[h0];rfl]
  rfl
 ·obtain⟨m',hm'⟩:=Xe2 ls hn;rw[if_neg h0];simp only[Int.toNat_natCast];rw[hm'];have h1:0<ls.flatten.length:=List.length_pos_iff.2 h0;have e1:((ls.flatten.length:Int)==0)=false:=by rw[beq_eq_false_iff_ne];omega
  have e2:Bool.and (decide ((0:Int)<(ls.flatten.length:Int))) (Nat.ble (ls.flatten.length*24) room)=true:=by
   rw[decide_eq_true (by omega),show Nat.ble (ls.flatten.length*24) room=true by rw[Qks];unfold room;omega]
   rfl
  rw[e1,e2];rfl
theorem te6(a c:LPq)(ha:a.length<=1000000)(hc:c.length<=1000000):U5 [a,c]=if a++c=[] then ⟨1,0,[]⟩ else ⟨2,(a++c).length,bL tLq (a++c)⟩:=by
 have e:[a,c].flatten=a++c:=by simp
 rw[Ee5 [a,c] (by simp) (by rw[e,Qka];omega),e]
theorem Df7(c:List Bool):o7 (λk=>tB.row (gL tB c k)) (List.range c.length)=bL tB c:=by
 unfold bL;rw[l9,l9];refine Qkm (by simp) λk h1 h2=>?_
 have hk:k<c.length:=by simpa using h2
 simp[gL,Qkb,Qkd hk]
theorem Dd6{α:Type}(l:List α):app [] l=l:=by rw[I5];rfl
theorem te7{α:Type}{l:List α}(h:l≠[]):Nat.beq l.length 0=false:=by cases l with | nil=>exact absurd rfl h | cons=>rfl
theorem Sd0(c:List Bool)(h0:c≠[])(h:c.length<=1000000):pa9 c=⟨1,c.length,bL tB c⟩:=by
 unfold pa9 ga0;simp only[Df7,ja7,Qkg,te7 h0,Dd6,show Nat.ble (c.length*1) room=true by rw[Qks];unfold room;omega]
 rfl
theorem Sd1(c:PLq)(h0:c≠[])(h:c.length<=1000000):ja3 c=⟨1,c.length,bL tP c⟩:=by
 unfold ja3 W8;simp only[nf5,ja7,Qkg,te7 h0,Dd6,show Nat.ble (c.length*32) room=true by rw[Qks];unfold room;omega]
 rfl
theorem de1(c:PLq):c7.tree 4 c.length (λk=>d9 (bL tP c) (0+k))=cpA c:=by
 unfold cpA;congr 1;funext k;rw[Qkg]
theorem te8(l:LPq)(hl:l.length<=1000000)(hp:∀q∈l,q.length<=1000000)(h0:∀q∈l,q≠[]) :
  ∃t s,lp (na9 ⟨l,(l.length:Int)⟩) ⟨0,0,0,[]⟩=(t,s)/\RCp l s.ph s.is8 s.ns3 s.eh0 l.length/\t=phL l+1:=by
 refine Oa4 (step:=na9 ⟨l,(l.length:Int)⟩) (mk:=λ_ (s:H8)=>s) l.length (λj s=>RCp l s.ph s.is8 s.ns3 s.eh0 j) (λt s=>RCp l s.ph s.is8 s.ns3 s.eh0 l.length/\t=phL l+1) (by omega)
  (λj s hj hi=>?_) (λj s hj hi=>?_) 0 _ ⟨Qkh _,rfl,rfl,rfl,rfl⟩
 ·obtain⟨_,h2,h3,h4,h5⟩:=hi;obtain⟨ph,is4,ns3,eh0⟩:=s
  simp only at h2 h3 h4 h5
  subst h2 h3 h4 h5;have hq:=hp _ (N7 tLq hj);have hq0:=h0 _ (N7 tLq hj);have hw1:W ((j:Int)+1)=((j+1:Nat):Int):=u7 hj (by omega)
  have hgx:inB (j:Int) l.length=true:=g8 hj;have htl:(l.take j).length<=l.length:=by rw[Qku];omega
  have hm:l.take (j+1)=l.take j++[gL tLq l j]:=ec7 tLq hj;have hnx:na9 ⟨l,(l.length:Int)⟩ ⟨phL (l.take j),(j:Int),(l.take j).length,cpR (l.take j)⟩=.next ⟨phL (l.take (j+1)),((j+1:Nat):Int),(l.take (j+1)).length,cpR (l.take (j+1))⟩:=by
   rw[hm,fc5,Qka,List.length_singleton,<- Ac9]
   rcases na8 (l.take j) with⟨hz,hn⟩|h1
   ·rw[hz];show Z4 Stp.next Stp.exit Stp.fail _ _=_;simp only[Z4,Int.toNat_natCast,hw1,hgx,f0,i6,A5,Sd1 _ hq0 hq,de1,nbR];rw[btD (n7 hj),hn];rfl
   ·rw[h1];show Z5 Stp.next Stp.exit Stp.fail _ _=_;simp only[Z5,Int.toNat_natCast,hw1,hgx,f0,i6,A5,Sd1 _ hq0 hq,de1];rw[btD (n7 hj),bt (show Nat.beq 1 1=true from rfl),bt (Dd5 _ (by omega))]
  show Nx (na9 ⟨l,(l.length:Int)⟩ ⟨phL (l.take j),(j:Int),(l.take j).length,cpR (l.take j)⟩) _ _;rw[hnx];exact .nx ⟨_,rfl,hj,rfl,rfl,rfl,rfl⟩
 ·have hje:j=l.length:=by have:=hi.le;omega
  subst hje;have hi':=hi;obtain⟨_,h2,h3,h4,h5⟩:=hi;obtain⟨ph,is4,ns3,eh0⟩:=s
  simp only at h2 h3 h4 h5
  subst h2 h3 h4 h5;simp only[Qkl] at *
  rcases na8 l with⟨hz,hn⟩|h1
  ·refine⟨1,?_,hi',by rw[hz]⟩
   rw[hz];show Z4 Stp.next Stp.exit Stp.fail _ _=_;simp only[Z4];rw[bfD (B8 (Qke _))]
  ·refine⟨2,?_,hi',by rw[h1]⟩
   rw[h1];show Z5 Stp.next Stp.exit Stp.fail _ _=_;simp only[Z5];rw[bfD (B8 (Qke _))]
theorem Sd2(l:LPq)(hl:l.length<=1000000)(hp:∀q∈l,q.length<=1000000)(h0:∀q∈l,q≠[]):Rd (one (r1L tLq)) (Ta8 l) (λr=>r=l):=by
 obtain⟨t,s,h1,h2,h3⟩:=te8 l hl hp h0;unfold Ta8;simp only[i6,l4,Qkc,f0,h1];have hn:=h2.n;have he:=h2.e;rw[Qkl] at hn he
 rcases na8 l with⟨hz,hnl⟩|hp1
 ·rw[h3,hz];exact⟨_,[],rfl,Kf0 _,hnl.symm⟩
 ·rw[h3,hp1,hn,he];exact⟨_,l,rfl,dg1 l,rfl⟩
theorem Uc9{l:LPq}(hl:l.length<=1000000)(hp:∀q∈l,q.length<=1000000)(h0:∀q∈l,q≠[]):na0 l=l:=(Sd2 l hl hp h0).p
theorem Vc0{l:LPq}(hl:l.length<=1000000)(hp:∀q∈l,q.length<=1000000)(h0:∀q∈l,q≠[]):ea6 l=true:=(Sd2 l hl hp h0).g
theorem Sd3{n:Int}{q c:PLq}(hq:q.length<=1000000)(hc:c.length<=1000000):La5 ⟨n,q,c⟩=⟨1,!apart q c⟩:=by
 unfold La5 xa1;simp only[i6,A5,ae9 (a:=q) (c:=c) (by omega) (by omega),be0 (a:=q) (c:=c) (by omega) (by omega),f0]
structure RMo(l:LPq)(c:PLq)(j:Nat)(s:p7):Prop where
 le:j<=l.length
 ix:s.K3=(j:Int)
 ph:s.ph=phL (Z2 (l.take j) c)
 cc:s.d7=c
 n:s.ns5=(Z2 (l.take j) c).length
 e:s.eh1=bL tLq (Z2 (l.take j) c)
theorem Xe3(l:LPq)(c:PLq)(hl:l.length<=1000000)(hp:∀q∈l,q.length<=1000000)(hc:c.length<=1000000) :
  ∃t s,lp (ea7 ⟨l,(l.length:Int)⟩) ⟨0,0,c,0,[]⟩=(t,s)/\RMo l c l.length s/\t=phL (Z2 l c)+1:=by
 refine Oa4 (step:=ea7 ⟨l,(l.length:Int)⟩) (mk:=λ_ (s:p7)=>s) l.length (RMo l c) (λt s=>RMo l c l.length s/\t=phL (Z2 l c)+1) (by omega)
  (λj s hj hi=>?_) (λj s hj hi=>?_) 0 _ ⟨Qkh _,rfl,rfl,rfl,rfl,rfl⟩
 ·obtain⟨_,h2,h3,h6,h4,h5⟩:=hi;obtain⟨ph,is6,c',ns5,eh0⟩:=s
  simp only at h2 h3 h4 h5 h6
  subst h2 h3 h4 h5 h6;have hq:=hp _ (N7 tLq hj);have hw1:W ((j:Int)+1)=((j+1:Nat):Int):=u7 hj (by omega)
  have hgx:inB (j:Int) l.length=true:=g8 hj;have hlen:=dd3 (l.take j) c';have htl:(l.take j).length<=l.length:=by rw[Qku];omega
  have hnx:∃s,ea7 ⟨l,(l.length:Int)⟩ ⟨phL (Z2 (l.take j) c'),(j:Int),c',(Z2 (l.take j) c').length,bL tLq (Z2 (l.take j) c')⟩=.next s/\RMo l c' (j+1) s:=by
   have hm:=Ee3 l c' hj
   rcases na8 (Z2 (l.take j) c') with⟨h0,hn⟩|h1
   ·rw[h0];refine⟨⟨phL (Z2 (l.take (j+1)) c'),((j+1:Nat):Int),c',(Z2 (l.take (j+1)) c').length,bL tLq (Z2 (l.take (j+1)) c')⟩,?_,⟨hj,rfl,rfl,rfl,rfl,rfl⟩⟩;show K9 Stp.next Stp.exit Stp.fail _ _=_;simp only[K9,Int.toNat_natCast,i6,l4,Qkc,Sd3 hq hc,hw1,hgx,f0];rw[btD (n7 hj),hm,hn,bt (show Nat.beq 1 1=true from rfl)]
    cases apart (gL tLq l j) c'<;>rfl
   ·rw[h1];refine⟨⟨phL (Z2 (l.take (j+1)) c'),((j+1:Nat):Int),c',(Z2 (l.take (j+1)) c').length,bL tLq (Z2 (l.take (j+1)) c')⟩,?_,⟨hj,rfl,rfl,rfl,rfl,rfl⟩⟩;show L0 Stp.next Stp.exit Stp.fail _ _=_;simp only[L0,Int.toNat_natCast,i6,l4,Qkc,Sd3 hq hc,hw1,hgx,f0];rw[btD (n7 hj),hm,bt (show Nat.beq 1 1=true from rfl),bt (ce5 _ (by omega)),Me3]
    cases apart (gL tLq l j) c' with
    |true =>
     simp only[Qkz,B6,if_true,List.append_nil,h1]
    |false =>
     simp only[Qkr,f0,Qkq,if_false,fc5,Qka,List.length_singleton]
  obtain⟨s,e1,e2⟩:=hnx;rw[e1];exact .nx ⟨s,rfl,e2⟩
 ·have hje:j=l.length:=by have:=hi.le;omega
  subst hje;have hi':=hi;obtain⟨_,h2,h3,h6,h4,h5⟩:=hi;obtain⟨ph,is6,c',ns5,eh0⟩:=s
  simp only at h2 h3 h4 h5 h6
  subst h2 h3 h4 h5 h6;rw[Qkl] at *
  rcases na8 (Z2 l c') with⟨h0,hn⟩|h1
  ·refine⟨1,?_,hi',by rw[h0]⟩
   rw[h0];show K9 Stp.next Stp.exit Stp.fail _ _=_;simp only[K9];rw[bfD (B8 (Qke _))]
  ·refine⟨2,?_,hi',by rw[h1]⟩
   rw[h1];show L0 Stp.next Stp.exit Stp.fail _ _=_;simp only[L0];rw[bfD (B8 (Qke _))]
theorem Ne2(l:LPq)(c:PLq)(hl:l.length<=1000000)(hp:∀q∈l,q.length<=1000000)(hc:c.length<=1000000) :
  (Z2 l c=[]/\e8 ⟨l,c⟩=⟨1,c,0,[]⟩)\/(Z2 l c≠[]/\e8 ⟨l,c⟩=⟨2,c,(Z2 l c).length,bL tLq (Z2 l c)⟩):=by
 obtain⟨t,s,h1,h2,h3⟩:=Xe3 l c hl hp hc;unfold e8 ga1;simp only[i6,l4,Qkc,f0,h1,h2.cc];have hn:=h2.n;have he:=h2.e;rw[Qkl] at hn he
 rcases na8 (Z2 l c) with⟨hz,hnl⟩|hp1
 ·rw[h3,hz];exact .inl ⟨hnl,rfl⟩
 ·rw[h3,hp1,hn,he];exact .inr ⟨λe=>(by rw[e] at hp1;cases hp1),rfl⟩
structure CR{α:Type}(t:Ty α)(x:c7)(l:List α):Prop where
 fz:freezeCell [] x=some (x,[])
 ok:(tLs t).ok [x]=true
 rd:rL t x=l
theorem CR.tree{α:Type}(t:Ty α){n:Nat}{f:Nat->List c7}{l:List α}(h1:okL t n f=true)(h2:lsL t n f=l):CR t (.tree t.es n f) l :=
 ⟨rfl,by show Bool.and (Nat.beq t.es t.es) (okL t n f)=true;rw[Qkv,h1];rfl,h2⟩
theorem CR.eL{α:Type}(t:Ty α)(l:List α):CR t (eL t l) l:=⟨rfl,by
 have h:=(tLs t).h2 l;exact h,i6 t l⟩
theorem Ee6{α:Type}(t:Ty α)(l:List α){n:Nat}(h:n=l.length):lsL t n (λk=>d9 (bL t l) (0+k))=l:=by rw[h];exact Ic5 t l
theorem Xe4{α:Type}(t:Ty α)(l:List α){n:Nat}(h:n=l.length):okL t n (λk=>d9 (bL t l) (0+k))=true:=by rw[h];exact Ic6 t l
theorem CR.bL{α:Type}(t:Ty α)(l:List α){n:Nat}(h:n=l.length):CR t (.tree t.es n (λk=>d9 (bL t l) (0+k))) l:=.tree t (Xe4 t l h) (Ee6 t l h)
theorem CR.nil{α:Type}(t:Ty α):CR t (.v (.slice none 0 0)) []:=⟨rfl,rfl,rfl⟩
theorem fz3{a c d:c7}(h1:freezeCell [] a=some (a,[]))(h2:freezeCell [] c=some (c,[]))(h3:freezeCell [] d=some (d,[])):freezeCells [] [a,c,d]=some ([a,c,d],[]):=by
 simp only[freezeCells,h1,h2,h3]
theorem nf8{a c d:c7}{su to:List Bool}{cu:LPq}(h1:CR tB a su)(h2:CR tB c to)(h3:CR tLq d cu):r1O.rd [] (.agg [a,c,d])=some ⟨su,to,cu⟩:=by
 show Option.rec (motive:=λ_=>Option Pce) none (λp=>Bool.rec (motive:=λ_=>Option Pce) none (some (tO.rd p)) (tO.ok p)) ((freezeCells [] [a,c,d]).map (·.1))=_
 rw[fz3 h1.fz h2.fz h3.fz];show Bool.rec (motive:=λ_=>Option Pce) none (some (tO.rd [a,c,d])) (Bool.and ((tLs tB).ok [a]) (Bool.and ((tLs tB).ok [c]) (Bool.and (tMq.ok [d]) true)))=_
 rw[h1.ok,h2.ok,h3.ok];show some (Pce.mk (rL tB a) (rL tB c) (rL tLq d))=_;rw[h1.rd,h2.rd,h3.rd]
theorem Df8{a c d:c7}{su to:List Bool}{cu:LPq}(h1:CR tB a su)(h2:CR tB c to)(h3:CR tLq d cu):(one r1O).rd (.agg [a,c,d],[])=some ⟨su,to,cu⟩:=nf8 h1 h2 h3
theorem Ne3{a c d:c7}{su to:List Bool}{cu:LPq}(n:Int)(h1:CR tB a su)(h2:CR tB c to)(h3:CR tLq d cu):(two r1O r1I).rd (.tup [.agg [a,c,d],i n],[])=some (⟨su,to,cu⟩,n):=by
 simp only[two,nf8 h1 h2 h3];rfl
def vc1:Pce:=⟨[],[],[]⟩
theorem Sd4(n:Int):(two r1O r1I).rd (.tup [.agg [.v (.slice none 0 0),.v (.slice none 0 0),.v (.slice none 0 0)],i n],[])=some (vc1,n):=Ne3 n (.nil tB) (.nil tB) (.nil tLq)
theorem Tf8(n:Nat):List.replicate n [b false]=bL tB (List.replicate n false):=by
 unfold bL;rw[l9,List.map_replicate];rfl
theorem nf9(x:Prt)(hl:x.cl.length<=1000000):Rd (one r1O) (vb8 x) (λr=>r=te5 x):=by
 have h1:inB (x.cl.length:Int) (room+1)=true:=g8 (by unfold room;omega)
 have h2:Nat.ble (x.cl.length*1) room=true:=by rw[Qks];unfold room;omega
 unfold vb8;simp only[Int.toNat_natCast,h1,h2,Qkc,Tf8,show Nat.ble x.cl.length x.cl.length=true by rw[Qks];omega,f0]
 exact⟨_,te5 x,rfl,Df8 (.bL tB _ (by simp)) (.bL tB _ (by simp)) (.nil _),rfl⟩
theorem Kf2{x:Prt}(hl:x.cl.length<=1000000):fb5 x=te5 x:=(nf9 x hl).p
theorem Kf3{x:Prt}(hl:x.cl.length<=1000000):Sa8 x=true:=(nf9 x hl).g
def suJ(C cl:LPq)(su:List Bool)(j:Nat):Bool×Int:=if gL tB su j=true then (true,0) else ia6 (Z2 C (gL tLq cl j)) (gL tLq cl j)
def toJ(z w cl:LPq)(to:List Bool)(j:Nat):Bool:=gL tB to j||(!Wa0 (gL tLq cl j) z||!Wa0 (gL tLq cl j) w)
def Pa2(f:Nat->Bool)(l:List Bool)(j:Nat):List Bool:=(List.range l.length).map λk=>if k<j then f k else gL tB l k
theorem Vc1(f:Nat->Bool)(l:List Bool)(j:Nat):(Pa2 f l j).length=l.length:=by simp[Pa2]
theorem dd8{α:Type}(t:Ty α)(n:Nat)(f:Nat->α){k:Nat}(h:k<n):gL t ((List.range n).map f) k=f k:=by
 simp[gL,Qkb,h]
theorem Ne4(f:Nat->Bool)(l:List Bool){j:Nat}(h:j<l.length):gL tB (Pa2 f l j) j=gL tB l j:=by
 unfold Pa2;rw[dd8 tB _ _ h,if_neg (Qke j)]
theorem Sd5(f:Nat->Bool)(l:List Bool):Pa2 f l 0=l:=by
 refine Qkm (by simp[Pa2]) λk h1 h2=>?_
 simp[Pa2,gL,Qkb,Qkd h2]
theorem dd9(f:Nat->Bool)(l:List Bool)(j:Nat):(Pa2 f l j).set j (f j)=Pa2 f l (j+1):=by
 refine Qkm (by simp[Pa2]) λk h1 h2=>?_
 simp only[Pa2,List.getElem_set,List.getElem_map,List.getElem_range];by_cases e:j=k
 ·subst e;simp
 ·rw[if_neg e];by_cases h:k<j
  ·rw[if_pos h,if_pos (by omega)]
  ·rw[if_neg h,if_neg (by omega)]
theorem Xe5(f:Nat->Bool)(l:List Bool){j:Nat}(h:j<l.length)(e:gL tB l j=f j):Pa2 f l (j+1)=Pa2 f l j:=by
 unfold Pa2;refine List.map_congr_left λk hk=>?_
 by_cases h1:k<j
 ·rw[if_pos h1,if_pos (by omega)]
 ·by_cases h2:k=j
  ·subst h2;rw[if_pos (by omega),if_neg h1,e]
  ·rw[if_neg h1,if_neg (by omega)]
theorem Dd7{f:Nat->Bool}{l:List Bool}{j:Nat}(h:f j=true):(Pa2 f l j).set j true=Pa2 f l (j+1):=by rw[<- dd9,h]
theorem te9(f:Nat->Bool)(l:List Bool):Pa2 f l l.length=(List.range l.length).map f:=by
 unfold Pa2;exact List.map_congr_left λk hk=>if_pos (Qki.1 hk)
theorem Tf9(l:List Bool)(k:Nat)(v:Bool):setAt (bL tB l) k [b v]=bL tB (l.set k v):=ud7 tB l k v
theorem dg3{l:List Bool}{k:Nat}(h:k<l.length):d9 (bL tB l) k=[b (gL tB l k)]:=fa9 tB h
theorem ckB(v:Bool):Na9 [CK.bool] (j7 [b v] 0)=true:=rfl
theorem og2(v:Bool):toB (hdA (j7 [b v] 0))=v:=rfl
theorem spB(u v:Bool):T1 [b u] 0 [b v]=[b v]:=rfl
structure Apl(z w cl C:LPq)(su to:List Bool):Prop where
 zn:z.length<=1000000
 wn:w.length<=1000000
 cn:cl.length<=1000000
 Cn:C.length<=1000000
 zl:∀q∈z,q.length<=1000000
 wl:∀q∈w,q.length<=1000000
 cc:∀q∈cl,q.length<=1000000
 Cl:∀q∈C,q.length<=1000000
 sn:su.length=cl.length
 tn:to.length=cl.length
structure RAp(z w cl C:LPq)(su to:List Bool)(j:Nat)(s:O8):Prop where
 le:j<=cl.length
 ix:s.o9=(j:Int)
 e2:s.eh2=bL tB (Pa2 (λk=>(suJ C cl su k).1) su j)
 e3:s.eh3=bL tB (Pa2 (toJ z w cl to) to j)
 ok:∀k,k<j->(suJ C cl su k).2=0
def EAp(z w cl C:LPq)(su to:List Bool)(t:Nat)(s:O8):Prop :=
 (∃j,j<cl.length/\s.o9=(j:Int)/\(∀k,k<j->(suJ C cl su k).2=0)/\(suJ C cl su j).2≠0/\suJ C cl su j=ia6 (Z2 C (gL tLq cl j)) (gL tLq cl j) /\
  ((Z2 C (gL tLq cl j)=[]/\(t=1\/t=3\/t=5))\/(Z2 C (gL tLq cl j)≠[]/\(t=2\/t=4\/t=6)))) \/
 (t=7/\RAp z w cl C su to cl.length s)
theorem Ee7{z w cl C:LPq}{su to:List Bool}(h:Apl z w cl C su to) :
  ∃t s,lp (aa7 ⟨z,w,cl,(cl.length:Int),su.length,to.length,C⟩) ⟨0,bL tB su,bL tB to⟩=(t,s)/\EAp z w cl C su to t s:=by
 refine Oa4 (step:=aa7 ⟨z,w,cl,(cl.length:Int),su.length,to.length,C⟩) (mk:=λ_ (s:O8)=>s) cl.length (RAp z w cl C su to) (EAp z w cl C su to) (by have:=h.cn;omega)
  (λj s hj hi=>?_) (λj s hj hi=>?_) 0 _ ⟨Qkh _,rfl,by rw[Sd5],by rw[Sd5],λk hk=>absurd hk (Nat.not_lt_zero _)⟩
 ·obtain⟨_,h2,h3,h4,h5⟩:=hi;obtain⟨is4,eh2,eh3⟩:=s
  simp only at h2 h3 h4 h5
  subst h2 h3 h4;have hc:=h.cc _ (N7 tLq hj);have hcl:=h.cn;have hw1:W ((j:Int)+1)=((j+1:Nat):Int):=u7 hj (by omega)
  have hgx:inB (j:Int) cl.length=true:=g8 hj;have hg1:inB (j:Int) su.length=true:=by rw[h.sn];exact hgx
  have hg2:inB (j:Int) to.length=true:=by rw[h.tn];exact hgx
  have hs:j<su.length:=by rw[h.sn];exact hj
  have ht:j<to.length:=by rw[h.tn];exact hj
  have hms:∀q∈Z2 C (gL tLq cl j),q.length<=1000000:=λq hq=>h.Cl q ((List.mem_filter.1 hq).1)
  have hml:(Z2 C (gL tLq cl j)).length<=1000000:=by have:=dd3 C (gL tLq cl j);have:=h.Cn;omega
  have r2:d9 (bL tB (Pa2 (λk=>(suJ C cl su k).1) su j)) j=[b (gL tB su j)]:=by rw[dg3 (by rw[Vc1];exact hs),Ne4 _ _ hs]
  have r3:d9 (bL tB (Pa2 (toJ z w cl to) to j)) j=[b (gL tB to j)]:=by rw[dg3 (by rw[Vc1];exact ht),Ne4 _ _ ht]
  have l2:Nat.blt j (len (bL tB (Pa2 (λk=>(suJ C cl su k).1) su j)))=true:=by rw[ja7,Vc1,Nat.blt_eq];exact hs
  have l3:Nat.blt j (len (bL tB (Pa2 (toJ z w cl to) to j)))=true:=by rw[ja7,Vc1,Nat.blt_eq];exact ht
  have lb:∀v:Bool,Nat.ble (0+1) (len [b v])=true:=λv=>rfl
  have n11:Nat.beq 1 1=true:=rfl;have n21:Nat.beq 2 1=false:=rfl;have n22:Nat.beq 2 2=true:=rfl;have nx:∀(v:Bool) (s':Bool),toJ z w cl to j=v->suJ C cl su j=(s',0)->RAp z w cl C su to (j+1) ⟨((j+1:Nat):Int),setAt (bL tB (Pa2 (λk=>(suJ C cl su k).1) su j)) j [b s'],setAt (bL tB (Pa2 (toJ z w cl to) to j)) j [b v]⟩:=by
   intro v s' e1 e2;refine⟨hj,rfl,?_,?_,λk hk=>?_⟩
   ·show setAt _ _ _=_;rw[Tf9,<- dd9,e2]
   ·show setAt _ _ _=_;rw[Tf9,<- dd9,e1]
   ·rcases Nat.lt_or_eq_of_le (Nat.lt_succ_iff.1 hk) with hk|rfl
    ·exact h5 k hk
    ·rw[e2]
  have nk:∀(v:Bool),toJ z w cl to j=v->gL tB su j=true->RAp z w cl C su to (j+1) ⟨((j+1:Nat):Int),bL tB (Pa2 (λk=>(suJ C cl su k).1) su j),setAt (bL tB (Pa2 (toJ z w cl to) to j)) j [b v]⟩:=by
   intro v e1 e2;have e3:suJ C cl su j=(true,0):=by unfold suJ;rw[if_pos e2]
   have:=nx v true e1 e3
   rw[Tf9,Dd7 (f:=λk=>(suJ C cl su k).1) (by rw[e3]),Xe5 _ _ hs (by rw[e2,e3])] at this
   exact this
  have key : ∀ (v : Bool) (u1 u2 : Nat), toJ z w cl to j = v → (u1 = 1 ∨ u1 = 3 ∨ u1 = 5) → (u2 = 2 ∨ u2 = 4 ∨ u2 = 6) → Nx (sl (gL tB su j) (Stp.next ⟨((j + 1 : Nat) : Int), bL tB (Pa2 (fun k => (suJ C cl su k).1) su j), setAt (bL tB (Pa2 (toJ z w cl to) to j)) j [b v]⟩)
    (sl (Nat.beq (e8 ⟨C,gL tLq cl j⟩).alt 1) (sl (ua7 [] (e8 ⟨C,gL tLq cl j⟩).d7) (sl ((p9 [] (e8 ⟨C,gL tLq cl j⟩).d7).2 != 0) (Stp.exit u1)
     (Stp.next ⟨((j+1:Nat):Int),setAt (bL tB (Pa2 (λk=>(suJ C cl su k).1) su j)) j [b (p9 [] (e8 ⟨C,gL tLq cl j⟩).d7).1],setAt (bL tB (Pa2 (toJ z w cl to) to j)) j [b v]⟩)) Stp.fail)
     (sl (Nat.beq (e8 ⟨C,gL tLq cl j⟩).alt 2) (sl (okL tLq (e8 ⟨C,gL tLq cl j⟩).ns0 (λk=>d9 (e8 ⟨C,gL tLq cl j⟩).eh1 (0+k))) (sl (ua7 (lsL tLq (e8 ⟨C,gL tLq cl j⟩).ns0 (λk=>d9 (e8 ⟨C,gL tLq cl j⟩).eh1 (0+k))) (e8 ⟨C,gL tLq cl j⟩).d7)
      (sl ((p9 (lsL tLq (e8 ⟨C,gL tLq cl j⟩).ns0 (λk=>d9 (e8 ⟨C,gL tLq cl j⟩).eh1 (0+k))) (e8 ⟨C,gL tLq cl j⟩).d7).2 != 0) (Stp.exit u2)
      (Stp.next ⟨((j+1:Nat):Int),setAt (bL tB (Pa2 (λk=>(suJ C cl su k).1) su j)) j [b (p9 (lsL tLq (e8 ⟨C,gL tLq cl j⟩).ns0 (λk=>d9 (e8 ⟨C,gL tLq cl j⟩).eh1 (0+k))) (e8 ⟨C,gL tLq cl j⟩).d7).1],setAt (bL tB (Pa2 (toJ z w cl to) to j)) j [b v]⟩)) Stp.fail) Stp.fail) Stp.fail)))
    (λt=>EAp z w cl C su to t ⟨(j:Int),bL tB (Pa2 (λk=>(suJ C cl su k).1) su j),bL tB (Pa2 (toJ z w cl to) to j)⟩) (λs=>∃a',s=a'/\RAp z w cl C su to (j+1) a'):=by
   intro v u1 u2 hv hu1 hu2;refine Nx.sl (λe=>.nx ⟨_,rfl,nk v hv e⟩) (λe=>?_)
   have es:suJ C cl su j=ia6 (Z2 C (gL tLq cl j)) (gL tLq cl j):=by unfold suJ;rw[e,if_neg (by decide)]
   rcases Ne2 C (gL tLq cl j) h.Cn h.Cl hc with⟨m0,hm⟩|⟨m0,hm⟩
   ·rw[hm]
    simp only
    rw[n11,f0,te0 (x:=[]) hc (by simp) (by simp),f0,Uc1 (x:=[]) hc (by simp) (by simp)]
    rw[m0] at es;refine Nx.sl (λhe=>.ex (.inl ⟨j,hj,rfl,h5,by rw[es];simpa using he,by rw[es,m0],.inl ⟨m0,hu1⟩⟩)) (λhe=>.nx ⟨_,rfl,nx v _ hv ?_⟩)
    rw[es];exact Prod.ext rfl (by simpa using he)
   ·rw[hm]
    simp only
    rw[n21,B6,n22,f0,Xe4 tLq _ rfl,Ee6 tLq _ rfl,f0,te0 hc hml hms,f0,Uc1 hc hml hms];refine Nx.sl (λhe=>.ex (.inl ⟨j,hj,rfl,h5,by rw[es];simpa using he,es,.inr ⟨m0,hu2⟩⟩)) (λhe=>.nx ⟨_,rfl,nx v _ hv ?_⟩)
    rw[es];exact Prod.ext rfl (by simpa using he)
  simp only[aa7,za5,Int.toNat_natCast,Qkg,i6,A5,l4,Qkc,r2,r3,l2,l3,show Nat.ble 1 (len [b (gL tB su j)])=true from rfl,show Nat.ble 1 (len [b (gL tB to j)])=true from rfl,hgx,hg1,hg2,ckB,og2,spB,hw1,f0,Uc2 hc h.zn h.zl,Uc3 hc h.zn h.zl,Uc2 hc h.wn h.wl,Uc3 hc h.wn h.wl]
  rw[btD (n7 hj)];simp only[Qkg] at key;refine Nx.sl (λe=>key true 1 2 (by unfold toJ;rw[e];rfl) (.inl rfl) (.inl rfl)) (λe=>?_)
  refine Nx.sl (λe'=>key true 3 4 (by unfold toJ;rw[e,e'];rfl) (.inr (.inl rfl)) (.inr (.inl rfl))) (λe'=>?_)
  exact key _ 5 6 (by unfold toJ;rw[e,e'];rfl) (.inr (.inr rfl)) (.inr (.inr rfl))
 ·have hje:j=cl.length:=by have:=hi.le;omega
  subst hje;refine⟨7,?_,.inr ⟨rfl,hi⟩⟩;obtain⟨_,h2,h3,h4,h5⟩:=hi;obtain⟨is4,eh2,eh3⟩:=s
  simp only at h2 h3 h4 h5
  subst h2 h3 h4;simp only[aa7,za5];rw[bfD (B8 (Qke _))]
def noA(n:Int):ROq:=some (.tup [.agg [.v (.slice none 0 0),.v (.slice none 0 0),.v (.slice none 0 0)],i n],[])
def Ee8(cl C:LPq)(n0 n1:Nat)(t8:Nat×O8):ROq :=
 let t9:=(e8 ⟨C,gL tLq cl t8.2.o9.toNat⟩)
 let t10:=(p9 [] t9.d7)
 let t11:=(p9 (lsL tLq t9.ns0 (λk=>d9 t9.eh1 (0+k))) t9.d7)
 sl (Nat.beq t8.1 1) (noA t10.2) (sl (Nat.beq t8.1 2) (noA t11.2) (sl (Nat.beq t8.1 3) (noA t10.2) (sl (Nat.beq t8.1 4) (noA t11.2) (sl (Nat.beq t8.1 5) (noA t10.2) (sl (Nat.beq t8.1 6) (noA t11.2)
  (sl (Nat.beq t8.1 7) (some ((.tup [(.agg [(.tree 1 n0 (λk=>d9 t8.2.eh2 (0+k))),(.tree 1 n1 (λk=>d9 t8.2.eh3 (0+k))),(eL tLq C)]),(i 0)]),[])) none))))))
def jd3(z w cl C:LPq)(su to:List Bool):Pce×Int :=
 match (List.range cl.length).find? λj=>(suJ C cl su j).2 != 0 with
 |some j=>(vc1,(suJ C cl su j).2)
 |none=>(⟨(List.range cl.length).map λk=>(suJ C cl su k).1,(List.range cl.length).map (toJ z w cl to),C⟩,0)
theorem Ee9{n j:Nat}{f:Nat->Bool}(hj:j<n)(h1:∀k,k<j->f k=false)(h2:f j=true):(List.range n).find? f=some j:=by
 rw[List.find?_range_eq_some];exact⟨h2,Qki.2 hj,λk hk=>by rw[h1 k hk];rfl⟩
theorem Fe0{z w cl C:LPq}{su to:List Bool}(h:Apl z w cl C su to) :
  Rd (two r1O r1I) (Ee8 cl C su.length to.length (lp (aa7 ⟨z,w,cl,(cl.length:Int),su.length,to.length,C⟩) ⟨0,bL tB su,bL tB to⟩)) (λr=>r=jd3 z w cl C su to):=by
 obtain⟨t,s,h1,h2⟩:=Ee7 h;rw[h1]
 rcases h2 with⟨j,hj,hs,hk,he,hc,hm⟩|⟨rfl,hr⟩
 ·have hcl:=h.cc _ (N7 tLq hj);have hms:∀q∈Z2 C (gL tLq cl j),q.length<=1000000:=λq hq=>h.Cl q (List.mem_filter.1 hq).1
  have hml:(Z2 C (gL tLq cl j)).length<=1000000:=by have:=dd3 C (gL tLq cl j);have:=h.Cn;omega
  have ht:jd3 z w cl C su to=(vc1,(suJ C cl su j).2):=by
   unfold jd3;rw[Ee9 hj (λk hk'=>by rw[hk k hk'];rfl) (by simpa using he)]
  rw[ht,hc];unfold Ee8;simp only[hs,Int.toNat_natCast]
  rcases Ne2 C (gL tLq cl j) h.Cn h.Cl hcl with⟨m0,hq⟩|⟨m0,hq⟩
  ·rcases hm with⟨_,hm⟩|⟨hm,_⟩
   ·rw[hq,m0]
    simp only
    rw[Uc1 (x:=[]) hcl (by simp) (by simp)]
    rcases hm with rfl|rfl|rfl<;>exact⟨_,_,rfl,Sd4 _,rfl⟩
   ·exact absurd m0 hm
  ·rcases hm with⟨hm,_⟩|⟨_,hm⟩
   ·exact absurd hm m0
   ·rw[hq]
    simp only
    rw[Ee6 tLq _ rfl,Uc1 hcl hml hms]
    rcases hm with rfl|rfl|rfl<;>exact⟨_,_,rfl,Sd4 _,rfl⟩
 ·have ht : jd3 z w cl C su to = (⟨(List.range cl.length).map fun k => (suJ C cl su k).1, (List.range cl.length).map (toJ z w cl to), C⟩, 0) := by
   unfold jd3;rw[Qkn.2 λk hk=>by rw[hr.ok k (Qki.1 hk)];decide]
  have e2:=hr.e2;have e3:=hr.e3;rw[<- h.sn,te9] at e2;rw[<- h.tn,te9] at e3;rw[ht];unfold Ee8
  simp only
  rw[e2,e3];refine⟨_,_,rfl,Ne3 0 (.bL tB _ (by simp)) (.bL tB _ (by simp)) (.eL tLq C),?_⟩
  rw[h.sn,h.tn]
def Lb1(x:Prt)(y:Pce)(z w:LPq):Pce×Int :=
 if (Eb3 x y != 0)=true then (vc1,Eb3 x y) else if (Cc4 (z++w) != 0)=true then (vc1,Cc4 (z++w)) else if (y.cu.length:Int)+(z.length:Int)>24 then (vc1,2)
 else jd3 z w x.cl (y.cu++z) y.su y.to
theorem Dd8{x:Prt}{y:Pce}(h:Eb3 x y=0):uc5 x=0/\y.su.length=x.cl.length/\y.to.length=x.cl.length/\y.cu.length<=24/\Cc4 y.cu=0:=by
 unfold Eb3 at h;cases hc:(uc5 x != 0) with
 |true=>rw[hc] at h;simp only[if_true] at h;rw[h] at hc;cases hc
 |false =>
  rw[hc] at h;simp only[Qkq,if_false] at h;cases hf:te3 x y with
  |false=>rw[hf] at h;simp at h
  |true =>
   unfold te3 at hf;simp only[Qkp,beq_iff_eq,decide_eq_true_eq] at hf;obtain⟨h1,h2,h3,h4⟩:=hf;exact⟨by simpa using hc,by omega,by omega,by omega,h4⟩
theorem Sd6{x:Prt}(h:uc5 x=0):1<=x.cl.length/\x.cl.length<=16/\x.wt.length=x.cl.length/\x.wt.any dd2=false/\(List.range x.cl.length).any (te4 x.cl)=false:=by
 unfold uc5 at h
 split at h
 ·cases h
 ·rename_i h1
  split at h
  ·cases h
  ·rename_i h2
   split at h
   ·cases h
   ·rename_i h3
    split at h
    ·cases h
    ·rename_i h4
     split at h
     ·cases h
     ·rename_i h5;refine⟨by omega,by omega,?_,by simpa using h4,by simpa using h5⟩
      simp only[bne_iff_ne,ne_eq,Decidable.not_not] at h3;omega
theorem ue0{x:Prt}{y:Pce}{z w:LPq}(hx:Jok x)(hy:Pok y)(hz:z.length<=100000)(hw:w.length<=100000)(hzl:∀q∈z,q.length<=1000000)(hwl:∀q∈w,q.length<=1000000)
  (hyn:∀q∈y.cu,q≠[]) (hzn:∀q∈z,q≠[]):Rd (two r1O r1I) (bb6 x y z w) (λr=>r=Lb1 x y z w):=by
 have n11:Nat.beq 1 1=true:=rfl;have n21:Nat.beq 2 1=false:=rfl;have n22:Nat.beq 2 2=true:=rfl;have hj:Jok ⟨x.nm,x.cl,x.wt⟩:=⟨hx.cl,hx.wt,hx.pl⟩;have hp:Pok ⟨y.su,y.to,y.cu⟩:=⟨hy.su,hy.to,hy.cu,hy.cl⟩;have f1:=Dd3 hj hp;have f2:=Dd4 hj hp;unfold bb6 Lb1;simp only[i6,A5,l4,Qkc,f0,f1,f2];rw[show Eb3 ⟨x.nm,x.cl,x.wt⟩ ⟨y.su,y.to,y.cu⟩=Eb3 x y from rfl]
 cases hf:(Eb3 x y != 0) with
 |true=>rw[f0,if_pos rfl];exact⟨_,_,rfl,Sd4 _,rfl⟩
 |false =>
  rw[B6,if_neg (show ¬ false=true by decide)]
  have hf0:Eb3 x y=0:=by simpa using hf
  obtain⟨hx0,hs,ht,hcu,_⟩:=Dd8 hf0;obtain⟨hn1,hn16,_⟩:=Sd6 hx0;have es:y.su≠[]:=λe=>by rw[e] at hs;simp at hs;omega
  have et:y.to≠[]:=λe=>by rw[e] at ht;simp at ht;omega
  have hzw:(z++w).length<=1000000:=by rw[Qka];omega
  have hzwl:∀q∈z++w,q.length<=1000000:=λq hq=>by rcases Qkag.1 hq with h | h;exact hzl q h;exact hwl q h
  have hyz:∀q∈y.cu++z,q.length<=1000000:=λq hq=>by rcases Qkag.1 hq with h | h;exact hy.cl q h;exact hzl q h
  have hyzn:∀q∈y.cu++z,q≠[]:=λq hq=>by rcases Qkag.1 hq with h | h;exact hyn q h;exact hzn q h
  have hW:W ((y.cu.length:Int)+(z.length:Int))=(y.cu.length:Int)+(z.length:Int):=Ka7 (by omega) (by omega)
  have c2:=te6 z w (by omega) (by omega)
  have c6:=te6 y.cu z hy.cu (by omega)
  have b4:=Sd0 y.su es hy.su;have b5:=Sd0 y.to et hy.to;have k0:pa1 []=0:=Lc0 (s:=[]) (by simp) (by simp)
  have k1:pa2 []=true:=Lc1 (s:=[]) (by simp) (by simp)
  have k2:=Lc0 hzw hzwl;have k3:=Lc1 hzw hzwl;have k4:na0 []=[]:=Uc9 (l:=[]) (by simp) (by simp) (by simp)
  have k5:ea6 []=true:=Vc0 (l:=[]) (by simp) (by simp) (by simp)
  have hyzc:(y.cu++z).length<=1000000:=by rw[Qka];omega
  have k6:=Uc9 hyzc hyz hyzn;have k7:=Vc0 hyzc hyz hyzn;have A:Apl z w x.cl (y.cu++z) y.su y.to:=⟨by omega,by omega,hx.cl,hyzc,hzl,hwl,hx.pl,hyz,hs,ht⟩
  have T:=Fe0 A;have q0:((0:Int) != 0)=false:=rfl;rw[c2,c6,b4,b5];by_cases hzw0:z++w=[]
  ·rw[if_pos hzw0];have hz0:z=[]:=List.append_eq_nil_iff.1 hzw0 |>.1
   rw[hzw0];simp only[n11,f0,k0,k1,q0,B6,hW];rw[show (Cc4 [] != 0)=false from rfl,if_neg (show ¬ false=true by decide)]
   by_cases h24:(y.cu.length:Int)+(z.length:Int)>24
   ·rw[btD h24,if_pos h24];exact⟨_,_,rfl,Sd4 _,rfl⟩
   ·rw[bfD h24,if_neg h24];by_cases hc0:y.cu++z=[]
    ·rw[if_pos hc0];rw[hc0] at T;simp only[n11,f0,k4,k5];rw[hc0];exact T
    ·rw[if_neg hc0];simp only[n21,n22,n11,f0,B6,Xe4 tLq (y.cu++z) rfl,Ee6 tLq (y.cu++z) rfl,k6,k7];exact T
  ·rw[if_neg hzw0];simp only[n21,n22,n11,f0,B6,Xe4 tLq (z++w) rfl,Ee6 tLq (z++w) rfl,k2,k3,hW];cases hck:(Cc4 (z++w) != 0) with
   |true=>rw[f0,if_pos rfl];exact⟨_,_,rfl,Sd4 _,rfl⟩
   |false =>
    rw[B6,if_neg (show ¬ false=true by decide)]
    by_cases h24:(y.cu.length:Int)+(z.length:Int)>24
    ·rw[btD h24,if_pos h24];exact⟨_,_,rfl,Sd4 _,rfl⟩
    ·rw[bfD h24,if_neg h24];by_cases hc0:y.cu++z=[]
     ·rw[if_pos hc0];rw[hc0] at T;simp only[n11,f0,k4,k5];rw[hc0];exact T
     ·rw[if_neg hc0];simp only[n21,n22,n11,f0,B6,Xe4 tLq (y.cu++z) rfl,Ee6 tLq (y.cu++z) rfl,k6,k7];exact T
theorem Vc2{x:Prt}{y:Pce}{z w:LPq}(hx:Jok x)(hy:Pok y)(hz:z.length<=100000)(hw:w.length<=100000)(hzl:∀q∈z,q.length<=1000000)(hwl:∀q∈w,q.length<=1000000)
  (hyn:∀q∈y.cu,q≠[]) (hzn:∀q∈z,q≠[]):la8 x y z w=Lb1 x y z w:=(ue0 hx hy hz hw hzl hwl hyn hzn).p
theorem Vc3{x:Prt}{y:Pce}{z w:LPq}(hx:Jok x)(hy:Pok y)(hz:z.length<=100000)(hw:w.length<=100000)(hzl:∀q∈z,q.length<=1000000)(hwl:∀q∈w,q.length<=1000000)
  (hyn:∀q∈y.cu,q≠[]) (hzn:∀q∈z,q≠[]):la9 x y z w=true:=(ue0 hx hy hz hw hzl hwl hyn hzn).g
end Go.Ev.Ce
