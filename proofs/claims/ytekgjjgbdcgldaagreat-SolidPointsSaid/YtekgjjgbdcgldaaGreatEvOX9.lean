/- Own work. -/
import Derived.Test.YtekgjjgbdcgldaaGreatEvOV1
import Derived.ChangeStays
import Derived.ChangeSame
import Derived.OpenShut
import Derived.RowKit
set_option linter.all false
def Qla:=@List.length_append
def Qlb:=@List.getElem?_eq_getElem
def Qlc:=@Bool.and_self
def Qld:=@Nat.le_trans
def Qle:=@Nat.zero_le
def Qlf:=@List.getD_eq_getElem?_getD
def Qlg:=@Nat.lt_irrefl
def Qlh:=@List.mem_filter
def Qli:=@List.all_eq_true
def Qlj:=@List.mem_singleton
def Qlk:=@List.countP_eq_length_filter
def Qll:=@Option.bind_eq_some_iff
def Qlm:=@Bool.false_eq_true
def Qln:=@Int.mul_pos_of_neg_of_neg
def Qlo:=@Nat.beq_refl
def Qlp:=@Nat.zero_add
def Qlq:=@List.find?_eq_none
def Qlr:=@List.mem_range
def Qls:=@Int.mul_nonpos_of_nonneg_of_nonpos
def Qlt:=@List.findIdx_lt_length
def Qlu:=@List.mem_cons
def Qlv:=@Bool.and_eq_true
def Qlw:=@List.length_eq_countP_add_countP
def Qlx:=@List.mem_append
def Qly:=@List.getElem?_range
def Qlz:=@Bool.not_false
def Qlaa:=@List.drop_zero
def Qlab:=@List.exists_cons_of_ne_nil
def Qlac:=@List.take_add_one
def Qlad:=@Classical.byContradiction
def Qlae:=@Int.mul_neg_of_pos_of_neg
def Qlaf:=@List.any_eq_true
def Qlag:=@List.length_eq_zero_iff
def Qlah:=@List.append_nil
def Qlai:=@Int.mul_eq_zero
def Qlaj:=@Option.map_eq_some_iff
def Qlak:=@Nat.ble_eq_true_of_le
def Qlal:=@Bool.true_and
def Qlam:=@Bool.not_true
namespace Go.Ev.Ce
open Go Go.Ev Go.Ev.L Go.Proofs
theorem Qe2(ls:List (List Pln))(hn:ls.length<=1000000000)(hl:ls.flatten.length<=1000000000):u7 ls=if ls.flatten=[] then ⟨1,0,[]⟩ else ⟨2,ls.flatten.length,bL tP ls.flatten⟩:=by
 unfold u7 M3;simp only[g8,i7];obtain⟨m,hm⟩:=ie8 ls hn hl;rw[hm];by_cases h0:ls.flatten=[]
 ·obtain⟨s,hs⟩:=De7 ls hn h0;rw[if_pos h0,hs];rw[show (⟨(ls.flatten.length:Int),m⟩:s8)=⟨0,m⟩ by rw[h0];rfl]
  rfl
 ·obtain⟨m',hm'⟩:=ie9 ls hn;rw[if_neg h0];simp only[Int.toNat_natCast];rw[hm'];have h1:0<ls.flatten.length:=List.length_pos_iff.2 h0;have e1:((ls.flatten.length:Int)==0)=false:=by rw[beq_eq_false_iff_ne];omega
  have e2:Bool.and (decide ((0:Int)<(ls.flatten.length:Int))) (Nat.ble (ls.flatten.length*32) room)=true:=by
   rw[fa4 (by omega),decide_eq_true (by omega)]
   rfl
  rw[e1,e2];rfl
theorem He3(r:List Pln)(p:Pln)(hr:r.length<=1000000):u7 [r,[p]]=⟨2,(r++[p]).length,bL tP (r++[p])⟩:=by
 have e:[r,[p]].flatten=r++[p]:=by simp
 rw[Qe2 [r,[p]] (by simp) (by rw[e,Qla];simp only[List.length_singleton];omega),e,if_neg (by simp)]
theorem Bf1(r:List Pln)(p:Pln):slR tP (bL tP (r++[p])) 0 (r++[p]).length=r++[p]:=hc9 tP _
theorem Bf2(r:List Pln)(p:Pln):okS tP (bL tP (r++[p])) 0 (r++[p]).length=true:=ic0 tP _
theorem fd2{p:Pln}(h:Bd p):fb1 p=V8 p:=by
 unfold fb1 nc6 V8
 simp only
 have:=h.x1;have:=h.x2;have:=h.y1;have:=h.y2;have:=h.z1;have:=h.z2;have:=h.b1;have:=h.b2
 rw[ka3 (by omega) (by omega),ka3 (by omega) (by omega),ka3 (by omega) (by omega),ka3 (by omega) (by omega)]
 simp only[Int.zero_sub]
def phL(O:List (List Pln)):Nat:=match O with
 |[]=>0
 |_::_=>1
theorem Xd6(O:List (List Pln))(c:List Pln):phL (O++[c])=1:=by cases O<;>rfl
theorem kf7(O:List (List Pln))(c:List Pln):app (bL (tLs tP) O) [[eL tP c]]=bL (tLs tP) (O++[c]):=Xa2 (tLs tP) O [c]
theorem ze0(O:List (List Pln))(h:O.length<=1000000):(Nat.beq O.length (len (bL (tLs tP) O))&&Nat.ble ((O.length+1)*24) room)=true:=by
 rw[U9,Qlo,Qlal];exact Qlak (by unfold room;omega)
theorem Qe3(x fs:List Pln)(j:Nat):Pa3 x fs (j+1)=Pa3 x fs j++(if 0<(Pa2 x fs j).length then [Pa2 x fs j] else []):=by
 unfold Pa3;rw[List.range_succ,List.map_append,List.filter_append];congr 1;by_cases h:0<(Pa2 x fs j).length
 ·rw[if_pos h];simp[h]
 ·rw[if_neg h];simp[h]
theorem td6(x fs:List Pln)(j:Nat):(Pa3 x fs j).length<=j:=by
 unfold Pa3
 have:=List.length_filter_le (λc:List Pln=>decide (0<c.length)) ((List.range j).map (Pa2 x fs))
 simpa using this
theorem oe3:Nat.beq 2 1=false:=rfl
theorem oe4:Nat.beq 2 2=true:=rfl
theorem Bf3 (x fs q : List Pln) (xs : List (List Pln)) (a c : Int) (O : List (List Pln)) (hf : ∀ p ∈ fs, okp p = true) (hfl : fs.length ≤ 1000) (hO : O.length ≤ 900000) :
  ∃t s,lp (m9 ⟨fs,(fs.length:Int),q,fs,xs,a,c⟩) ⟨phL O,x,0,O.length,bL (tLs tP) O⟩=(t,s) /\
   ((Ha6 x fs=true->t=phL (O++Pa3 x fs fs.length)*2+2/\s.B7=(O++Pa3 x fs fs.length).length/\s.eh3=bL (tLs tP) (O++Pa3 x fs fs.length))/\(Ha6 x fs=false->t=1\/t=3)):=by
 refine S3 (step:=m9 ⟨fs,(fs.length:Int),q,fs,xs,a,c⟩) (mk:=λj (O':List (List Pln))=>(⟨phL O',B1 x fs j,(j:Int),O'.length,bL (tLs tP) O'⟩:k8)) fs.length
  (λj O'=>j<=fs.length/\O'=O++Pa3 x fs j/\∀i,i<j->(B1 x fs i).length<48)
  (λt s=>(Ha6 x fs=true->t=phL (O++Pa3 x fs fs.length)*2+2/\s.B7=(O++Pa3 x fs fs.length).length/\s.eh3=bL (tLs tP) (O++Pa3 x fs fs.length))/\(Ha6 x fs=false->t=1\/t=3)) (by omega)
  (λj O' hj hi=>?_) (λj O' hj hi=>?_) 0 O ⟨Qle _,by simp[Pa3],λi hi=>absurd hi (Nat.not_lt_zero i)⟩
 ·obtain⟨_,hO',hr⟩:=hi;have hn:W ((j:Int)+1)=((j+1:Nat):Int):=n8 hj (by omega)
  have hp:=hf _ (ya6 tP hj);have hb:=Nb8 hp;have hOl:O'.length<=1000000:=by
   rw[hO',Qla]
   have:=td6 x fs j
   omega
  have hroom:=ze0 O' hOl;by_cases h48:(B1 x fs j).length<48
  ·have e1:decide (((B1 x fs j).length:Int)>=48)=false:=decide_eq_false (by omega)
   have c1:=He3 (B1 x fs j) (V8 (gL tP fs j)) (by omega)
   have c2:=He3 (B1 x fs j) (gL tP fs j) (by omega)
   have l1:r7 (B1 x fs j++[V8 (gL tP fs j)])=true:=decide_eq_true (by rw[Qla];simp only[List.length_singleton];omega)
   have l2:r7 (B1 x fs j++[gL tP fs j])=true:=decide_eq_true (by rw[Qla];simp only[List.length_singleton];omega)
   have m1:Q3 (B1 x fs j++[V8 (gL tP fs j)])=Pa2 x fs j:=rfl;have m2:Q3 (B1 x fs j++[gL tP fs j])=B1 x fs (j+1):=rfl;have hnew:O++Pa3 x fs (j+1)=O'++(if 0<(Pa2 x fs j).length then [Pa2 x fs j] else []):=by rw[Qe3,<- List.append_assoc,<- hO']
   have hnx : ∀ {s : k8}, s = ⟨phL (O ++ Pa3 x fs (j + 1)), B1 x fs (j + 1), ((j + 1 : Nat) : Int), (O ++ Pa3 x fs (j + 1)).length, bL (tLs tP) (O ++ Pa3 x fs (j + 1))⟩ →
     Nx (.next s) (λt=>(Ha6 x fs=true->t=phL (O++Pa3 x fs fs.length)*2+2/\(⟨phL O',B1 x fs j,(j:Int),O'.length,bL (tLs tP) O'⟩:k8).B7=(O++Pa3 x fs fs.length).length/\(⟨phL O',B1 x fs j,(j:Int),O'.length,bL (tLs tP) O'⟩:k8).eh3=bL (tLs tP) (O++Pa3 x fs fs.length))/\(Ha6 x fs=false->t=1\/t=3))
      (λs=>∃O'',s=(⟨phL O'',B1 x fs (j+1),((j+1:Nat):Int),O''.length,bL (tLs tP) O''⟩:k8)/\(j+1<=fs.length/\O''=O++Pa3 x fs (j+1)/\∀i,i<j+1->(B1 x fs i).length<48)) :=
    λ{s} hs=>.nx ⟨_,hs,hj,rfl,λi hi=>by
     by_cases e:i=j
     ·subst e;exact h48
     ·exact hr i (by omega)⟩
   by_cases hc:0<(Pa2 x fs j).length
   ·have e2:decide (((Pa2 x fs j).length:Int)>0)=true:=decide_eq_true (by omega)
    have e3:Nat.beq (Pa2 x fs j).length 0=false:=by
     cases h:(Pa2 x fs j).length with
     |zero=>omega
     |succ n=>rfl
    rw[if_pos hc] at hnew;cases O' with
    |nil =>
     have e:m9 ⟨fs,(fs.length:Int),q,fs,xs,a,c⟩ ⟨phL [],B1 x fs j,(j:Int),([]:List (List Pln)).length,bL (tLs tP) []⟩=.next ⟨1,B1 x fs (j+1),((j+1:Nat):Int),1,[[eL tP (Pa2 x fs j)]]⟩:=by
      show A0 Stp.next Stp.exit Stp.fail _ _=_;simp only[A0,Int.toNat_natCast,g8,o5,fd2 hb,c1,c2,hn,Bf1,Bf2,l1,l2,m1,m2,oe3,oe4,e1,e2,e3,g7,J7,Qlc,Qlz];rw[btD (f9 hj),bt (e8 hj)]
     rw[e];exact hnx (by rw[hnew];rfl)
    |cons o os =>
     have e:m9 ⟨fs,(fs.length:Int),q,fs,xs,a,c⟩ ⟨phL (o::os),B1 x fs j,(j:Int),(o::os).length,bL (tLs tP) (o::os)⟩=.next ⟨1,B1 x fs (j+1),((j+1:Nat):Int),(o::os).length+1,bL (tLs tP) (o::os++[Pa2 x fs j])⟩:=by
      show A1 Stp.next Stp.exit Stp.fail _ _=_;simp only[A1,Int.toNat_natCast,g8,o5,fd2 hb,c1,c2,hn,Bf1,Bf2,l1,l2,m1,m2,oe3,oe4,e1,e2,e3,hroom,kf7,g7,J7,Qlc,Qlz];rw[btD (f9 hj),bt (e8 hj)]
     rw[e];exact hnx (by rw[hnew,Xd6,Qla];rfl)
   ·have e2:decide (((Pa2 x fs j).length:Int)>0)=false:=decide_eq_false (by omega)
    rw[if_neg hc,Qlah] at hnew;cases O' with
    |nil =>
     have e:m9 ⟨fs,(fs.length:Int),q,fs,xs,a,c⟩ ⟨phL [],B1 x fs j,(j:Int),([]:List (List Pln)).length,bL (tLs tP) []⟩=.next ⟨0,B1 x fs (j+1),((j+1:Nat):Int),0,[]⟩:=by
      show A0 Stp.next Stp.exit Stp.fail _ _=_;simp only[A0,Int.toNat_natCast,g8,o5,fd2 hb,c1,c2,hn,Bf1,Bf2,l1,l2,m1,m2,oe3,oe4,e1,e2,g7,J7,Qlc,Qlz];rw[btD (f9 hj),bt (e8 hj)]
     rw[e];exact hnx (by rw[hnew];rfl)
    |cons o os =>
     have e:m9 ⟨fs,(fs.length:Int),q,fs,xs,a,c⟩ ⟨phL (o::os),B1 x fs j,(j:Int),(o::os).length,bL (tLs tP) (o::os)⟩=.next ⟨1,B1 x fs (j+1),((j+1:Nat):Int),(o::os).length,bL (tLs tP) (o::os)⟩:=by
      show A1 Stp.next Stp.exit Stp.fail _ _=_;simp only[A1,Int.toNat_natCast,g8,o5,fd2 hb,c1,c2,hn,Bf1,Bf2,l1,l2,m1,m2,oe3,oe4,e1,e2,g7,J7,Qlc,Qlz];rw[btD (f9 hj),bt (e8 hj)]
     rw[e];exact hnx (by rw[hnew];rfl)
  ·have e1:decide (((B1 x fs j).length:Int)>=48)=true:=decide_eq_true (by omega)
   have hno:Ha6 x fs=false:=by
    cases h:Ha6 x fs with
    |false=>rfl
    |true =>
     have:=Qli.1 h j (Qlr.2 hj)
     exact absurd (by simpa using this) h48
   have hex:∀{t:Nat},(t=1\/t=3)->(Ha6 x fs=true->t=phL (O++Pa3 x fs fs.length)*2+2/\(⟨phL O',B1 x fs j,(j:Int),O'.length,bL (tLs tP) O'⟩:k8).B7=(O++Pa3 x fs fs.length).length/\(⟨phL O',B1 x fs j,(j:Int),O'.length,bL (tLs tP) O'⟩:k8).eh3=bL (tLs tP) (O++Pa3 x fs fs.length))/\(Ha6 x fs=false->t=1\/t=3):=λh=>⟨λh'=>(by rw[hno] at h';cases h'),λ_=>h⟩
   cases O' with
   |nil =>
    have e:m9 ⟨fs,(fs.length:Int),q,fs,xs,a,c⟩ ⟨phL [],B1 x fs j,(j:Int),([]:List (List Pln)).length,bL (tLs tP) []⟩=.exit 1:=by
     show A0 Stp.next Stp.exit Stp.fail _ _=_;simp only[A0,e1,g7];rw[btD (f9 hj),bt (e8 hj)]
    rw[e];exact .ex (hex (.inl rfl))
   |cons o os =>
    have e:m9 ⟨fs,(fs.length:Int),q,fs,xs,a,c⟩ ⟨phL (o::os),B1 x fs j,(j:Int),(o::os).length,bL (tLs tP) (o::os)⟩=.exit 3:=by
     show A1 Stp.next Stp.exit Stp.fail _ _=_;simp only[A1,e1,g7];rw[btD (f9 hj),bt (e8 hj)]
    rw[e];exact .ex (hex (.inr rfl))
 ·obtain⟨h1,hO',hr⟩:=hi;have hje:j=fs.length:=by omega
  subst hje;have hyes:Ha6 x fs=true:=Qli.2 λi hi=>by simpa using hr i (Qlr.1 hi)
  refine⟨phL O'*2+2,?_,λ_=>?_,λh=>(by rw[hyes] at h;cases h)⟩
  ·cases O' with
   |nil =>
    show A0 Stp.next Stp.exit Stp.fail _ _=_;simp only[A0];rw[bfD (l7 (Qlg _))];rfl
   |cons o os =>
    show A1 Stp.next Stp.exit Stp.fail _ _=_;simp only[A1];rw[bfD (l7 (Qlg _))];rfl
  ·rw[<- hO'];exact⟨rfl,rfl,rfl⟩
theorem Qe4{α β:Type}(t:Ty α)(l:List α)(f:α->List β){j:Nat}(hj:j<l.length):(l.take (j+1)).flatMap f=(l.take j).flatMap f++f (gL t l j):=by
 rw[Qlac,Qlb hj,List.flatMap_append];simp[gL,Qlf,Qlb hj]
theorem Qe5{α:Type}(t:Ty α)(l:List α)(f:α->Bool){j:Nat}(hj:j<l.length):(l.take (j+1)).all f=((l.take j).all f&&f (gL t l j)):=by
 rw[Qlac,Qlb hj,List.all_append];simp[gL,Qlf,Qlb hj]
theorem kf8{q x:List Pln}(h:(lean q).length<=48):(Ha7 q x).length<=48:=by
 unfold Ha7;split
 ·simp
 ·exact Qld (td6 _ _ _) h
theorem oe5{q:List Pln}(h:(lean q).length<=48):∀l:List (List Pln),(l.flatMap (Ha7 q)).length<=48*l.length
 |[]=>by simp
 |x::l=>by
  have:=oe5 h l
  have:=kf8 (x:=x) h
  simp only[List.flatMap_cons,Qla,List.length_cons];omega
structure W0(q:List Pln)(xs:List (List Pln))(t:Nat)(s:o8):Prop where
 y:xs.all (Za7 q)=true->t=phL (xs.flatMap (Ha7 q))*3+3/\s.B7=(xs.flatMap (Ha7 q)).length/\s.eh3=bL (tLs tP) (xs.flatMap (Ha7 q))
 n:xs.all (Za7 q)=false->t=1\/t=2\/t=4\/t=5
theorem nbA:Nat.beq 1 2=false/\Nat.beq 1 3=false/\Nat.beq 1 4=false/\Nat.beq 1 1=true/\Nat.beq 3 1=false/\Nat.beq 3 2=false/\Nat.beq 3 3=true/\Nat.beq 4 1=false/\Nat.beq 4 2=false/\Nat.beq 4 3=false/\Nat.beq 4 4=true/\Nat.beq 2 3=false/\Nat.beq 2 4=false:=⟨rfl,rfl,rfl,rfl,rfl,rfl,rfl,rfl,rfl,rfl,rfl,rfl,rfl⟩
theorem Bf4 (q : List Pln) (xs : List (List Pln)) (hq : q.length ≤ 1000000) (hxs : xs.length ≤ 10000) (hx : ∀ x ∈ xs, x.length ≤ 1000000) (hf : ∀ p ∈ lean q, okp p = true) (hfl : (lean q).length ≤ 48) :
  ∃t s,lp (u9 ⟨(xs.length:Int)⟩) ⟨0,q,lean q,xs,0,0,[]⟩=(t,s)/\W0 q xs t s:=by
 refine S3 (step:=u9 ⟨(xs.length:Int)⟩) (mk:=λj (O':List (List Pln))=>(⟨phL O',q,lean q,xs,(j:Int),O'.length,bL (tLs tP) O'⟩:o8)) xs.length
  (λj O'=>j<=xs.length/\O'=(xs.take j).flatMap (Ha7 q)/\(xs.take j).all (Za7 q)=true) (W0 q xs) (by omega)
  (λj O' hj hi=>?_) (λj O' hj hi=>?_) 0 [] ⟨Qle _,by simp,by simp⟩
 ·obtain⟨_,hO',hr⟩:=hi;have hn:W ((j:Int)+1)=((j+1:Nat):Int):=n8 hj (by omega)
  have hxl:=hx _ (ya6 (tLs tP) hj);have hOl:O'.length<=800000:=by
   rw[hO']
   have:=oe5 hfl (xs.take j)
   have:=List.length_take_le j xs
   omega
  have hroom:=ze0 O' (by omega)
  have hA:=Fe0 (a:=gL (tLs tP) xs j) (c:=q) (by omega) (by omega)
  have gA:=Fe1 (a:=gL (tLs tP) xs j) (c:=q) (by omega) (by omega)
  have hnew:=Qe4 (tLs tP) xs (Ha7 q) hj;have hall:=Qe5 (tLs tP) xs (Za7 q) hj;rw[<- hO'] at hnew;rw[hr,Qlal] at hall;have hfull:∀{v:Bool},Za7 q (gL (tLs tP) xs j)=v->v=false->xs.all (Za7 q)=false:=λ{v} h hv=>by
   rw[List.all_eq_false];exact⟨_,ya6 (tLs tP) hj,by rw[h,hv];decide⟩
  have hnx : Za7 q (gL (tLs tP) xs j) = true → ∀ {s : o8}, s = ⟨phL ((xs.take (j + 1)).flatMap (Ha7 q)), q, lean q, xs, ((j + 1 : Nat) : Int), ((xs.take (j + 1)).flatMap (Ha7 q)).length, bL (tLs tP) ((xs.take (j + 1)).flatMap (Ha7 q))⟩ →
    Nx (.next s) (λt=>W0 q xs t (⟨phL O',q,lean q,xs,(j:Int),O'.length,bL (tLs tP) O'⟩:o8))
     (λs=>∃O'',s=(⟨phL O'',q,lean q,xs,((j+1:Nat):Int),O''.length,bL (tLs tP) O''⟩:o8)/\(j+1<=xs.length/\O''=(xs.take (j+1)).flatMap (Ha7 q)/\(xs.take (j+1)).all (Za7 q)=true)) :=
   λh {s} hs=>.nx ⟨_,hs,hj,rfl,by rw[hall,h]⟩
  have hex:Za7 q (gL (tLs tP) xs j)=false->∀{t:Nat},(t=1\/t=2\/t=4\/t=5)->W0 q xs t (⟨phL O',q,lean q,xs,(j:Int),O'.length,bL (tLs tP) O'⟩:o8):=λh {t} ht =>
   ⟨λh'=>(by rw[hfull h rfl] at h';cases h'),λ_=>ht⟩
  have hgx:inB (j:Int) xs.length=true:=e8 hj;have hlt:((j:Int)<(xs.length:Int)):=f9 hj;generalize hX:gL (tLs tP) xs j=x at *
  obtain⟨z1,z2,z3,z4,z5,z6,z7,z8,z9,zA,zB,zC,zD⟩:=nbA;cases hap:apart x q with
  |true =>
   have hp:Ha7 q x=[x]:=by unfold Ha7;rw[hap,if_pos rfl]
   have hro:Za7 q x=true:=by unfold Za7;rw[hap];rfl
   rw[hap] at hA;rw[hp] at hnew;cases O' with
   |nil =>
    have e:u9 ⟨(xs.length:Int)⟩ ⟨phL [],q,lean q,xs,(j:Int),([]:List (List Pln)).length,bL (tLs tP) []⟩=.next ⟨1,q,lean q,xs,((j+1:Nat):Int),1,[[eL tP x]]⟩:=by
     show o7 Stp.next Stp.exit Stp.fail _ _=_;simp only[o7,Int.toNat_natCast,g8,o5,hX,hA,gA,hn,hgx,g7];rw[btD hlt]
    rw[e];exact hnx hro (by rw[hnew];rfl)
   |cons o os =>
    have e:u9 ⟨(xs.length:Int)⟩ ⟨phL (o::os),q,lean q,xs,(j:Int),(o::os).length,bL (tLs tP) (o::os)⟩=.next ⟨1,q,lean q,xs,((j+1:Nat):Int),(o::os).length+1,bL (tLs tP) (o::os++[x])⟩:=by
     show r9 Stp.next Stp.exit Stp.fail _ _=_;simp only[r9,Int.toNat_natCast,g8,o5,hX,hA,gA,hn,hgx,hroom,kf7,g7];rw[btD hlt]
    rw[e];exact hnx hro (by rw[hnew,Xd6,Qla];rfl)
  |false =>
   have hp:Ha7 q x=Pa3 x (lean q) (lean q).length:=by unfold Ha7;rw[hap,if_neg (by decide)]
   have hro:Za7 q x=Ha6 x (lean q):=by unfold Za7;rw[hap];rfl
   rw[hap] at hA;rw[hp] at hnew;obtain⟨t,s,hlp,hy,hno⟩:=Bf3 x (lean q) q xs (xs.length:Int) (j:Int) O' hf (by omega) (by omega)
   cases hr48:Ha6 x (lean q) with
   |true =>
    obtain⟨h1,h2,h3⟩:=hy hr48;rw[<- hnew] at h1 h2 h3;cases O' with
    |nil =>
     have hlp:lp (m9 ⟨lean q,((lean q).length:Int),q,lean q,xs,(xs.length:Int),(j:Int)⟩) ⟨0,x,0,0,[]⟩=(t,s):=hlp;by_cases hO:(xs.take (j+1)).flatMap (Ha7 q)=[]
     ·rw[hO] at h1;have h1:t=2:=h1;subst h1;have e:u9 ⟨(xs.length:Int)⟩ ⟨phL [],q,lean q,xs,(j:Int),([]:List (List Pln)).length,bL (tLs tP) []⟩=.next ⟨0,q,lean q,xs,((j+1:Nat):Int),0,[]⟩:=by
       show o7 Stp.next Stp.exit Stp.fail _ _=_;simp only[o7,Int.toNat_natCast,g8,o5,i7,hX,hA,gA,hn,hgx,hlp,oe3,oe4,g7,J7,Qlc];rw[btD hlt]
      rw[e];exact hnx (hro.trans hr48) (by rw[hO];rfl)
     ·obtain⟨o,os,hO⟩:=Qlab hO;rw[hO] at h1 h2 h3;have h1:t=4:=h1;subst h1;have e:u9 ⟨(xs.length:Int)⟩ ⟨phL [],q,lean q,xs,(j:Int),([]:List (List Pln)).length,bL (tLs tP) []⟩=.next ⟨1,q,lean q,xs,((j+1:Nat):Int),s.B7,s.eh3⟩:=by
       show o7 Stp.next Stp.exit Stp.fail _ _=_;simp only[o7,Int.toNat_natCast,g8,o5,i7,hX,hA,gA,hn,hgx,hlp,z8,z9,zA,zB,g7,J7,Qlc];rw[btD hlt]
      rw[e];exact hnx (hro.trans hr48) (by rw[h2,h3,hO];rfl)
    |cons o os =>
     have hlp:lp (m9 ⟨lean q,((lean q).length:Int),q,lean q,xs,(xs.length:Int),(j:Int)⟩) ⟨1,x,0,(o::os).length,bL (tLs tP) (o::os)⟩=(t,s):=hlp;have h1:t=4:=by rw[h1,hnew];rfl
     subst h1;have e:u9 ⟨(xs.length:Int)⟩ ⟨phL (o::os),q,lean q,xs,(j:Int),(o::os).length,bL (tLs tP) (o::os)⟩=.next ⟨1,q,lean q,xs,((j+1:Nat):Int),s.B7,s.eh3⟩:=by
      show r9 Stp.next Stp.exit Stp.fail _ _=_;simp only[r9,Int.toNat_natCast,g8,o5,i7,hX,hA,gA,hn,hgx,hlp,z8,z9,zA,zB,g7,J7,Qlc];rw[btD hlt]
     rw[e];exact hnx (hro.trans hr48) (by rw[h2,h3,hnew];rfl)
   |false =>
    have ht:=hno hr48;cases O' with
    |nil =>
     have hlp:lp (m9 ⟨lean q,((lean q).length:Int),q,lean q,xs,(xs.length:Int),(j:Int)⟩) ⟨0,x,0,0,[]⟩=(t,s):=hlp
     rcases ht with rfl|rfl
     ·have e : u9 ⟨(xs.length : Int)⟩ ⟨phL [], q, lean q, xs, (j : Int), ([] : List (List Pln)).length, bL (tLs tP) []⟩ = .exit 1 := by
       show o7 Stp.next Stp.exit Stp.fail _ _=_;simp only[o7,Int.toNat_natCast,g8,o5,i7,hX,hA,gA,hn,hgx,hlp,z4,g7,J7,Qlc];rw[btD hlt]
      rw[e];exact .ex (hex (hro.trans hr48) (by simp))
     ·have e : u9 ⟨(xs.length : Int)⟩ ⟨phL [], q, lean q, xs, (j : Int), ([] : List (List Pln)).length, bL (tLs tP) []⟩ = .exit 2 := by
       show o7 Stp.next Stp.exit Stp.fail _ _=_;simp only[o7,Int.toNat_natCast,g8,o5,i7,hX,hA,gA,hn,hgx,hlp,z5,z6,z7,g7,J7,Qlc];rw[btD hlt]
      rw[e];exact .ex (hex (hro.trans hr48) (by simp))
    |cons o os =>
     have hlp:lp (m9 ⟨lean q,((lean q).length:Int),q,lean q,xs,(xs.length:Int),(j:Int)⟩) ⟨1,x,0,(o::os).length,bL (tLs tP) (o::os)⟩=(t,s):=hlp
     rcases ht with rfl|rfl
     ·have e : u9 ⟨(xs.length : Int)⟩ ⟨phL (o :: os), q, lean q, xs, (j : Int), (o :: os).length, bL (tLs tP) (o :: os)⟩ = .exit 4 := by
       show r9 Stp.next Stp.exit Stp.fail _ _=_;simp only[r9,Int.toNat_natCast,g8,o5,i7,hX,hA,gA,hn,hgx,hlp,z4,g7,J7,Qlc];rw[btD hlt]
      rw[e];exact .ex (hex (hro.trans hr48) (by simp))
     ·have e : u9 ⟨(xs.length : Int)⟩ ⟨phL (o :: os), q, lean q, xs, (j : Int), (o :: os).length, bL (tLs tP) (o :: os)⟩ = .exit 5 := by
       show r9 Stp.next Stp.exit Stp.fail _ _=_;simp only[r9,Int.toNat_natCast,g8,o5,i7,hX,hA,gA,hn,hgx,hlp,z5,z6,z7,g7,J7,Qlc];rw[btD hlt]
      rw[e];exact .ex (hex (hro.trans hr48) (by simp))
 ·obtain⟨h1,hO',hr⟩:=hi;have hje:j=xs.length:=by omega
  subst hje;rw[List.take_length] at hO' hr;refine⟨phL O'*3+3,?_,λ_=>?_,λh=>(by rw[hr] at h;cases h)⟩
  ·cases O' with
   |nil =>
    show o7 Stp.next Stp.exit Stp.fail _ _=_;simp only[o7];rw[bfD (l7 (Qlg _))];rfl
   |cons o os =>
    show r9 Stp.next Stp.exit Stp.fail _ _=_;simp only[r9];rw[bfD (l7 (Qlg _))];rfl
  ·rw[<- hO'];exact⟨rfl,rfl,rfl⟩
noncomputable def Ba1(x:List (List Pln))(y:List Pln):List (List Pln)×Int:=match F6 x y with
 |some r=>(r,0)
 |none=>([],9)
theorem If8{α:Type}(t:Ty α)(l:List α)(n:Int):(two (r1L t) r1I).rd (.tup [eL t l,i n],[])=some (l,n):=by
 have h:(r1L t).rd [] (eL t l)=some l:=by
  show Bool.rec (motive:=λ_=>Option (List α)) none (some (rt t l)) (Bool.and (Nat.beq t.es t.es) (okE t l))=_
  rw[g8,o5,Qlo];rfl
 simp only[two,h];rfl
theorem cg5{α:Type}(t:Ty α)(l:List α)(n:Int):(two (r1L t) r1I).rd (.tup [.tree t.es l.length (λk=>l9 (bL t l) (0+k)),i n],[])=some (l,n):=by
 have h:(r1L t).rd [] (.tree t.es l.length (λk=>l9 (bL t l) (0+k)))=some l:=by
  show Bool.rec (motive:=λ_=>Option (List α)) none (some (lsL t l.length λk=>l9 (bL t l) (0+k))) (Bool.and (Nat.beq t.es t.es) (okL t l.length λk=>l9 (bL t l) (0+k)))=_
  rw[Nc6 t (l:=l) rfl λk hk=>by rw[Qlp,ea8 t hk],jb2 t (f:=λk=>gL t l k) λk hk=>by rw[Qlp,ea8 t hk],Qlo]
  rfl
 simp only[two,h];rfl
theorem cg6{α:Type}(t:Ty α)(k:Nat)(l:List α)(n:Int):(two (r1L t) r1I).rd (.tup [.sl 0 0 l.length 0,i n],[⟨k,t.es,bL t l,true,false,0⟩])=some (l,n):=by
 have h:(r1L t).rd [⟨k,t.es,bL t l,true,false,0⟩] (.sl 0 0 l.length 0)=some l:=xe3 t k l;simp only[two,h];rfl
theorem td7(x:List (List Pln))(y:List Pln)(hy:y.length<=1000000)(hx:x.length<=10000)(hxl:∀c∈x,c.length<=1000000):Rd (two (r1L (tLs tP)) r1I) (Fa9 x y) (λr=>r=Ba1 x y):=by
 have hF:=od3 (c:=y) (by omega);have gF:=od4 (c:=y) (by omega)
 have hL:Q3 y=lean y:=rfl;have gL':r7 y=true:=decide_eq_true hy;unfold Fa9 Ba1 F6;simp only[g8,o5,i7,hF,gF,hL,gL',g7,Qlc];cases hf:ful y with
 |false=>exact⟨_,(x,0),rfl,If8 (tLs tP) x 0,rfl⟩
 |true =>
  have hc:=(na5.1 hf).1;have hfl:(lean y).length<=48:=by
   have:=eb8 y
   rw[beq_iff_eq,db5] at hc;omega
  obtain⟨t,s,hlp,hw⟩:=Bf4 y x hy hx hxl (λp hp=>bb2 hc p (List.mem_append_left _ (Tb4 hp))) hfl
  simp only[hlp,Qlam,J7,if_true];cases hr:x.all (Za7 y) with
  |false =>
   rcases hw.n hr with rfl|rfl|rfl|rfl<;>exact⟨_,([],9),rfl,rfl,rfl⟩
  |true =>
   obtain⟨h1,h2,h3⟩:=hw.y hr;by_cases hO:x.flatMap (Ha7 y)=[]
   ·rw[hO] at h1 ⊢;have h1:t=3:=h1;subst h1;exact⟨_,([],0),rfl,rfl,rfl⟩
   ·have h1 : t = 6 := by
     obtain⟨o,os,hO⟩:=Qlab hO;rw[h1,hO];rfl
    subst h1;rw[h2,h3];by_cases h200:(x.flatMap (Ha7 y)).length<=200
    ·rw[decide_eq_true h200];refine⟨_,(x.flatMap (Ha7 y),0),?_,cg5 (tLs tP) _ 0,rfl⟩
     have:decide (((x.flatMap (Ha7 y)).length:Int)>200)=false:=decide_eq_false (by omega)
     rw[this];rfl
    ·rw[decide_eq_false h200]
     have:decide (((x.flatMap (Ha7 y)).length:Int)>200)=true:=decide_eq_true (by omega)
     rw[this];exact⟨_,([],9),rfl,rfl,rfl⟩
theorem rc8{x:List (List Pln)}{y:List Pln}(hy:y.length<=1000000)(hx:x.length<=10000)(hxl:∀c∈x,c.length<=1000000):ba3 x y=Ba1 x y:=(td7 x y hy hx hxl).p
theorem Qe6{x:List (List Pln)}{y:List Pln}(hy:y.length<=1000000)(hx:x.length<=10000)(hxl:∀c∈x,c.length<=1000000):Wa6 x y=true:=(td7 x y hy hx hxl).g
noncomputable def schk(s:List (List Pln)):Int:=if (s.length:Int)>16 then 2 else match s.find? λc=>chk c != 0 with
 |some c=>chk c
 |none=>0
theorem Xd7{α:Type}(t:Ty α)(l:List α)(f:α->Bool)(h:l.any f=true):l.find? f=some (gL t l (l.findIdx f)):=by
 have hlt:l.findIdx f<l.length:=Qlt.2 (Qlaf.1 h);rw[List.find?_eq_some_iff_getElem];refine⟨?_,l.findIdx f,hlt,?_,λj hj=>?_⟩
 ·simp only[gL,Qlf,Qlb hlt,Option.getD_some];exact List.findIdx_getElem (w:=hlt)
 ·simp[gL,Qlf,Qlb hlt]
 ·have:=List.not_of_lt_findIdx hj
  simpa using this
theorem Ld2(s:List (List Pln))(hs:s.length<=1000000)(hl:∀c∈s,c.length<=1000000):Ua9 s=some (i (schk s),[]):=by
 have h:=Va6 (step:=Ba0 ⟨s,(s.length:Int)⟩) (mk:=λj=>(⟨(j:Int)⟩:U6)) (c:=λc=>chk c != 0) (u:=1) (fin:=2) (tLs tP) s (by omega)
  (λj hj=>by
   have hc:=hl _ (ya6 (tLs tP) hj);simp only[Ba0,va7,Int.toNat_natCast,g8,o5,ed1 _ (show (gL (tLs tP) s j).length<=1000000000 by omega),Td0 _ (show (gL (tLs tP) s j).length<=1000000000 by omega),n8 hj (show s.length<=4611686018427387904 by omega),g7]
   rw[btD (f9 hj),bt (e8 hj)])
  (by simp only[Ba0,va7];rw[bfD (l7 (Qlg _))]) 0 (Qle _)
 rw[Qlaa,Qlp] at h;unfold Ua9 schk;simp only[g8,o5,i7];rw[show (⟨0⟩:U6)=⟨((0:Nat):Int)⟩ from rfl,h]
 by_cases h16:(s.length:Int)>16
 ·rw[btD h16,if_pos h16]
 ·rw[bfD h16,if_neg h16];cases ha:s.any λc=>chk c != 0 with
  |true =>
   have hlt:s.findIdx (λc=>chk c != 0)<s.length:=Qlt.2 (Qlaf.1 ha)
   have hc:=hl _ (ya6 (tLs tP) hlt);rw[Xd7 (tLs tP) s _ ha];simp only[Int.toNat_natCast,if_true,ed1 _ (show (gL (tLs tP) s (s.findIdx λc=>chk c != 0)).length<=1000000000 by omega)]
   rfl
  |false =>
   rw[Qlq.2 λc hc=>by have:=List.any_eq_false.1 ha c hc;simpa using this]
   rfl
theorem oc0{s:List (List Pln)}(hs:s.length<=1000000)(hl:∀c∈s,c.length<=1000000):Y1 s=schk s:=by unfold Y1;rw[Ld2 s hs hl];rfl
theorem oc1{s:List (List Pln)}(hs:s.length<=1000000)(hl:∀c∈s,c.length<=1000000):Y2 s=true:=by unfold Y2;rw[Ld2 s hs hl];rfl
theorem ze1{c:List Pln}(h:chk c=0):c.length<=48:=(db5.1 h).1
theorem Ld3{s:List (List Pln)}(h:schk s=0):s.length<=16/\∀c∈s,chk c=0:=by
 unfold schk at h
 split at h
 ·cases h
 ·refine⟨by omega,λc hc=>?_⟩
  cases hf:s.find? λc=>chk c != 0 with
  |none=>simpa using Qlq.1 hf c hc
  |some d =>
   rw[hf] at h
   have:=List.find?_some hf
   simp only at h
   rw[h] at this;cases this
theorem Lc2{ps r:List (List Pln)}{q:List Pln}(h:F6 ps q=some r)(hp:ps.length<=200):r.length<=200:=by
 unfold F6 at h
 split at h
 ·split at h
  ·rename_i h';injection h with h;subst h;rw[Qlv] at h';exact of_decide_eq_true h'.2
  ·cases h
 ·injection h with h;subst h;exact hp
theorem kf9(x fs:List Pln)(j:Nat)(h:(B1 x fs j).length<48):(Pa2 x fs j).length<=48:=by
 unfold Pa2
 have:=eb8 (B1 x fs j++[V8 (gL tP fs j)])
 rw[Qla] at this;simp only[List.length_singleton] at this;omega
theorem Xc1{ps r:List (List Pln)}{q:List Pln}(h:F6 ps q=some r)(hp:∀c∈ps,c.length<=48):∀c∈r,c.length<=48:=by
 unfold F6 at h
 split at h
 ·split at h
  ·rename_i h';injection h with h;subst h;rw[Qlv,Qli] at h';intro c hc;obtain⟨x,hx,hc⟩:=List.mem_flatMap.1 hc;have hr:=h'.1 x hx;unfold Ha7 at hc;unfold Za7 at hr;cases ha:apart x q with
   |true=>rw[ha,if_pos rfl] at hc;rw[Qlj.1 hc];exact hp x hx
   |false =>
    rw[ha,if_neg (by decide)] at hc
    rw[ha,Bool.false_or] at hr;obtain⟨j,hj,rfl,_⟩:=Tb5.1 hc
    have:=Qli.1 hr j (Qlr.2 hj)
    exact kf9 x _ j (by simpa using this)
  ·cases h
 ·injection h with h;subst h;exact hp
noncomputable def Fb6(s:List (List Pln))(o:Option (List (List Pln))):Option (List (List Pln)):=s.foldl (λst q=>st.bind λps=>F6 ps q) o
noncomputable def Ra9(x:List Pln)(y:List (List Pln)):List (List Pln)×Int :=
 if chk x != 0 then ([],chk x) else if schk y != 0 then ([],schk y) else match qa9 x y with
  |some r=>(r,0)
  |none=>([],9)
structure M0(c:List Pln)(ys:List (List Pln))(t:Nat)(s:y7):Prop where
 y:∀r,Fb6 ys (some [c])=some r->(ys=[]/\t=2)\/(ys≠[]/\t=4/\s.hb6=r)
 n:Fb6 ys (some [c])=none->(t=1/\∃j,s.Gb4=((j:Nat):Int)/\Ba1 [c] (gL (tLs tP) ys j)=([],9))\/(t=3/\∃j,s.Gb4=((j:Nat):Int)/\Ba1 s.hb6 (gL (tLs tP) ys j)=([],9)/\j<ys.length/\s.hb6.length<=200/\∀c∈s.hb6,c.length<=48)
theorem td8(s:List (List Pln)):Fb6 s none=none:=dc2 s
theorem ze2{ys:List (List Pln)}{j:Nat}(hj:j<ys.length)(o:Option (List (List Pln))):Fb6 (ys.take (j+1)) o=(Fb6 (ys.take j) o).bind λps=>F6 ps (gL (tLs tP) ys j):=by
 unfold Fb6;rw[Qlac,Qlb hj,List.foldl_append];simp[gL,Qlf,Qlb hj]
theorem oe6(ys:List (List Pln))(j:Nat)(o:Option (List (List Pln))):Fb6 ys o=Fb6 (ys.drop j) (Fb6 (ys.take j) o):=by
 unfold Fb6;rw[<- List.foldl_append,List.take_append_drop]
theorem Bf5 (c : List Pln) (ys : List (List Pln)) (hc : c.length ≤ 48) (hn : ys.length ≤ 1000) (hy : ∀ q ∈ ys, q.length ≤ 1000000) :
  ∃t s,lp (M1 ⟨ys,(ys.length:Int),c⟩) ⟨0,0,[]⟩=(t,s)/\M0 c ys t s:=by
 refine S3 (step:=M1 ⟨ys,(ys.length:Int),c⟩) (mk:=λj (ps:List (List Pln))=>(⟨if j=0 then 0 else 1,(j:Int),if j=0 then [] else ps⟩:y7)) ys.length
  (λj ps=>j<=ys.length/\Fb6 (ys.take j) (some [c])=some ps/\ps.length<=200/\∀x∈ps,x.length<=48) (M0 c ys) (by omega)
  (λj ps hj hi=>?_) (λj ps hj hi=>?_) 0 [c] ⟨Qle _,rfl,by simp,by simpa using hc⟩
 ·obtain⟨_,hm,hl,hle⟩:=hi;have hw1:W ((j:Int)+1)=((j+1:Nat):Int):=n8 hj (by omega)
  have hq:=hy _ (ya6 (tLs tP) hj);have hgx:inB (j:Int) ys.length=true:=e8 hj;have hmj:=ze2 hj (some [c]);have hsp:=oe6 ys (j+1) (some [c]);rw[hm] at hmj;have pw:=rc8 (x:=ps) hq (by omega) λx hx=>Qld (hle x hx) (by omega)
  have gw:=Qe6 (x:=ps) hq (by omega) λx hx=>Qld (hle x hx) (by omega)
  have hmj:Fb6 (ys.take (j+1)) (some [c])=F6 ps (gL (tLs tP) ys j):=hmj;by_cases h0:j=0
  ·subst h0;have hps:ps=[c]:=by
    have:some [c]=some ps:=hm
    injection this with this;exact this.symm
   subst hps;cases hw:F6 [c] (gL (tLs tP) ys 0) with
   |some r =>
    have hR:Ba1 [c] (gL (tLs tP) ys 0)=(r,0):=by unfold Ba1;rw[hw]
    rw[hR] at pw;have e:M1 ⟨ys,(ys.length:Int),c⟩ ⟨0,((0:Nat):Int),[]⟩=.next ⟨1,((0+1:Nat):Int),r⟩:=by
     show N5 Stp.next Stp.exit Stp.fail _ _=_;simp only[N5,Int.toNat_natCast,g8,o5,pw,gw,hw1,hgx,g7,Qlc];rw[btD (f9 hj)];rfl
    show Nx (M1 ⟨ys,(ys.length:Int),c⟩ ⟨0,((0:Nat):Int),[]⟩) _ _;rw[e];exact .nx ⟨r,rfl,hj,hmj.trans hw,Lc2 hw (by simp),Xc1 hw (by simpa using hc)⟩
   |none =>
    have hR:Ba1 [c] (gL (tLs tP) ys 0)=([],9):=by unfold Ba1;rw[hw]
    rw[hR] at pw;have e:M1 ⟨ys,(ys.length:Int),c⟩ ⟨0,((0:Nat):Int),[]⟩=.exit 1:=by
     show N5 Stp.next Stp.exit Stp.fail _ _=_;simp only[N5,Int.toNat_natCast,g8,o5,pw,gw,hw1,hgx,g7,Qlc];rw[btD (f9 hj)];rfl
    show Nx (M1 ⟨ys,(ys.length:Int),c⟩ ⟨0,((0:Nat):Int),[]⟩) _ _;rw[e];rw[hmj,hw,td8] at hsp;exact .ex ⟨λr hr=>(by rw[hsp] at hr;cases hr),λ_=>.inl ⟨rfl,0,rfl,hR⟩⟩
  ·have em:(⟨if j=0 then 0 else 1,(j:Int),if j=0 then [] else ps⟩:y7)=⟨1,(j:Int),ps⟩:=by rw[if_neg h0,if_neg h0]
   rw[em];cases hw:F6 ps (gL (tLs tP) ys j) with
   |some r =>
    have hR:Ba1 ps (gL (tLs tP) ys j)=(r,0):=by unfold Ba1;rw[hw]
    rw[hR] at pw;have e:M1 ⟨ys,(ys.length:Int),c⟩ ⟨1,(j:Int),ps⟩=.next ⟨1,((j+1:Nat):Int),r⟩:=by
     show N6 Stp.next Stp.exit Stp.fail _ _=_;simp only[N6,Int.toNat_natCast,g8,o5,pw,gw,hw1,hgx,g7,Qlc];rw[btD (f9 hj)];rfl
    rw[e];exact .nx ⟨r,by rw[if_neg (by omega),if_neg (by omega)],hj,hmj.trans hw,Lc2 hw hl,Xc1 hw hle⟩
   |none =>
    have hR:Ba1 ps (gL (tLs tP) ys j)=([],9):=by unfold Ba1;rw[hw]
    rw[hR] at pw;have e:M1 ⟨ys,(ys.length:Int),c⟩ ⟨1,(j:Int),ps⟩=.exit 3:=by
     show N6 Stp.next Stp.exit Stp.fail _ _=_;simp only[N6,Int.toNat_natCast,g8,o5,pw,gw,hw1,hgx,g7,Qlc];rw[btD (f9 hj)];rfl
    rw[e];rw[hmj,hw,td8] at hsp;exact .ex ⟨λr hr=>(by rw[hsp] at hr;cases hr),λ_=>.inr ⟨rfl,j,rfl,hR,hj,hl,hle⟩⟩
 ·obtain⟨h1,hm,hl,hle⟩:=hi;have hje:j=ys.length:=by omega
  subst hje;rw[List.take_length] at hm;by_cases h0:ys.length=0
  ·have hnil:ys=[]:=Qlag.1 h0;subst hnil;refine⟨2,?_,λr hr=>.inl ⟨rfl,rfl⟩,λh=>(by rw[hm] at h;cases h)⟩
   show N5 Stp.next Stp.exit Stp.fail ⟨[],((([]:List (List Pln)).length:Nat):Int),c⟩ ⟨0,((([]:List (List Pln)).length:Nat):Int),[]⟩=_;simp only[N5];rfl
  ·have em:(⟨if ys.length=0 then 0 else 1,(ys.length:Int),if ys.length=0 then [] else ps⟩:y7)=⟨1,(ys.length:Int),ps⟩:=by rw[if_neg h0,if_neg h0]
   rw[em];refine⟨4,?_,λr hr=>.inr ⟨λe=>h0 (by rw[e];rfl),rfl,?_⟩,λh=>(by rw[hm] at h;cases h)⟩
   ·show N6 Stp.next Stp.exit Stp.fail _ _=_;simp only[N6];rw[bfD (l7 (Qlg _))]
   ·rw[hm] at hr;injection hr
theorem Ld4{c:List Pln}(h:ful c=false):∀s:List (List Pln),qa9 c s=some []:=by
 intro s;unfold qa9;rw[h,if_neg (by decide)]
 induction s with
 |nil=>rfl
 |cons q s ih =>
  have:F6 [] q=some []:=by unfold F6;split<;>rfl
  show s.foldl _ (F6 [] q)=_;rw[this];exact ih
theorem oe7(x:List Pln)(y:List (List Pln))(hx:x.length<=1000000)(hn:y.length<=1000000)(hy:∀q∈y,q.length<=1000000):Rd (two (r1L (tLs tP)) r1I) (Va0 x y) (λr=>r=Ra9 x y):=by
 have hC:=ed1 x (show x.length<=1000000000 by omega);have gC:=Td0 x (show x.length<=1000000000 by omega)
 have hS:=oc0 hn hy;have gS:=oc1 hn hy;have hF:=od3 (c:=x) (by omega);have gF:=od4 (c:=x) (by omega)
 have hL:Q3 x=lean x:=rfl;have gL':r7 x=true:=decide_eq_true hx;unfold Va0 Ra9;simp only[g8,o5,i7,hC,gC,hS,gS,hF,gF,hL,gL',g7,Qlc];cases hc:chk x != 0 with
 |true=>exact⟨_,([],chk x),rfl,rfl,rfl⟩
 |false =>
  cases hs:schk y != 0 with
  |true=>exact⟨_,([],schk y),rfl,rfl,rfl⟩
  |false =>
   have hc0:chk x=0:=by simpa using hc
   have hs0:=Ld3 (show schk y=0 by simpa using hs)
   simp only[J7,Qlm,if_false];cases hf:ful x with
   |false =>
    rw[Ld4 hf];exact⟨_,([],0),rfl,rfl,rfl⟩
   |true =>
    simp only[Qlam,J7];have hm:qa9 x y=Fb6 y (some [lean x]):=by unfold qa9 Fb6;rw[hf];rfl
    have hll:(lean x).length<=48:=Qld (eb8 x) (ze1 hc0);obtain⟨t,s,hlp,hM⟩:=Bf5 (lean x) y hll (by omega) hy
    rw[hlp,hm];cases hr:Fb6 y (some [lean x]) with
    |some r =>
     rcases hM.y r hr with⟨rfl,rfl⟩|⟨_,rfl,rfl⟩
     ·have : r = [lean x] := by
       have:some [lean x]=some r:=hr
       injection this with this;exact this.symm
      subst this;exact⟨_,([lean x],0),rfl,cg6 (tLs tP) 24 [lean x] 0,rfl⟩
     ·exact⟨_,(s.hb6,0),rfl,If8 (tLs tP) _ 0,rfl⟩
    |none =>
     rcases hM.n hr with⟨rfl,j,h1,h2⟩|⟨rfl,j,h1,h2,hj,h4,h5⟩
     ·by_cases hj:j<y.length
      ·have pw:=rc8 (x:=[lean x]) (hy _ (ya6 (tLs tP) hj)) (by simp) (by simpa using Qld hll (by omega))
       rw[h2] at pw;simp only[h1,Int.toNat_natCast,pw];exact⟨_,([],9),rfl,rfl,rfl⟩
      ·have hd:gL (tLs tP) y j=[]:=by simp[gL,Qlf,List.getElem?_eq_none (show y.length<=j by omega)];rfl
       have pw:=rc8 (x:=[lean x]) (y:=gL (tLs tP) y j) (by rw[hd];simp) (by simp) (by simpa using Qld hll (by omega))
       rw[h2] at pw;simp only[h1,Int.toNat_natCast,pw];exact⟨_,([],9),rfl,rfl,rfl⟩
     ·have pw:=rc8 (x:=s.hb6) (hy _ (ya6 (tLs tP) hj)) (by omega) λc hc=>Qld (h5 c hc) (by omega)
      rw[h2] at pw;simp only[h1,Int.toNat_natCast,pw];exact⟨_,([],9),rfl,rfl,rfl⟩
theorem Xd8{x:List Pln}{y:List (List Pln)}(hx:x.length<=1000000)(hn:y.length<=1000000)(hy:∀q∈y,q.length<=1000000):Va1 x y=Ra9 x y:=(oe7 x y hx hn hy).p
theorem Xd9{x:List Pln}{y:List (List Pln)}(hx:x.length<=1000000)(hn:y.length<=1000000)(hy:∀q∈y,q.length<=1000000):Va2 x y=true:=(oe7 x y hx hn hy).g
noncomputable def B4(x:List (List Pln))(y:List Pln):Bool×Int:=((Ra9 y x).2==0&&((Ra9 y x).1.length:Int)==0,(Ra9 y x).2)
theorem Ld5(x:List (List Pln))(y:List Pln)(hy:y.length<=1000000)(hn:x.length<=1000000)(hx:∀q∈x,q.length<=1000000):Ma6 x y=some (.tup [b (B4 x y).1,i (B4 x y).2],[]):=by
 unfold Ma6 B4;simp only[g8,o5,Xd8 hy hn hx,Xd9 hy hn hx,g7];cases (Ra9 y x).2==0<;>rfl
theorem Lc3{x:List (List Pln)}{y:List Pln}(hy:y.length<=1000000)(hn:x.length<=1000000)(hx:∀q∈x,q.length<=1000000):ia2 x y=B4 x y:=by unfold ia2;rw[Ld5 x y hy hn hx];rfl
theorem oe8{x:List (List Pln)}{y:List Pln}(hy:y.length<=1000000)(hn:x.length<=1000000)(hx:∀q∈x,q.length<=1000000):Ma7 x y=true:=by unfold Ma7;rw[Ld5 x y hy hn hx];rfl
set_option maxRecDepth 100000
structure Wa7 where
 (c9 e7:List Pln)
noncomputable def Sc7:List (Nat×Sum):=[(56,Yb7)]
theorem Lc4:i9 prog G Sc7:=⟨vc5,trivial⟩
structure Wa8 where
 alt:Nat
 bs0:Bool
noncomputable def ta3{α:Type}(kk:Wa8->α)(x:Wa7):α:=let t1:=(Oa8 (rt tP x.e7) (rt tP x.c9));(sl (okE tP x.e7) (sl (okE tP x.c9) (sl (Oa9 (rt tP x.e7) (rt tP x.c9)) (kk ⟨1,!t1⟩) (kk ⟨0,false⟩)) (kk ⟨0,false⟩)) (kk ⟨0,false⟩))
noncomputable def Wa9(x:Wa7):Wa8:=ta3 (λr=>r) x
noncomputable def lb3(x:Wa7)(r:Wa8):DT (b7×List b8):=(.ite (Nat.beq r.alt 1) (.ret (b r.bs0,[⟨0,1,[[eL tP x.e7]],true,false,0⟩])) .fail)
theorem bd8{α β:Type}(F:α->β)(kk:Wa8->α)(x:Wa7):F (ta3 kk x)=ta3 (λr=>F (kk r)) x:=by unfold ta3;(repeat' apply l6 (f:=F))<;>rfl
noncomputable def dc5:Sum:=bb1 ⟨[sLq tP,sPq 0],[⟨0,1,true,some [[.c 4 (nL tP)]]⟩],λa H=>(⟨aLq tP a 0,hLq tP H 0 0 0⟩,())⟩ (λx=>lb3 x (Wa9 x))
theorem Sc8:g9 prog G 104 dc5:=N9 (enc:=λx=>⟨[eL tP x.c9,.ptr 0 0 0 0],[⟨0,1,[[eL tP x.e7]],true,false,0⟩]⟩) (λa H=>by kernel_rfl) (bd hg7 Lc4) λx=>v7 (Eq.trans (b:=ta3 (λr=>(lb3 x r).run) x) (by kernel_rfl) (bd8 (λr=>(lb3 x r).run) (λr=>r) x).symm)
structure aa4 where
 R4:List (List Pln)
 e7:List Pln
noncomputable def Ia7:List (Nat×Sum):=[(104,dc5)]
theorem ub7:i9 prog G Ia7:=⟨Sc8,trivial⟩
structure L1 where
 R4:List (List Pln)
 is7:Int
structure o9 where
 is8:Int
 e7:List Pln
noncomputable def Ca1(p:L1)(s:o9):St:=⟨eL (tLs tP) p.R4::.fn 104 [.ptr 0 0 0 0]::ra 5 (i p.is7::i s.is8::ra 10 []),[⟨0,1,[[eL tP s.e7]],true,false,0⟩]⟩
noncomputable def G5{α:Type}(k:o9->α)(e:Nat->α)(z:α)(p:L1)(s:o9):α:=let t1:=(Wa9 ⟨rt tP (gL (tLs tP) p.R4 s.is8.toNat),rt tP s.e7⟩);(sl (decide (s.is8<p.is7)) (sl (inB s.is8 (List.length p.R4)) (sl ((cnE tP (gL (tLs tP) p.R4 s.is8.toNat))&&((cnE tP s.e7)&&true)) (sl (Nat.beq t1.alt 1) (sl t1.bs0 (e 1) (k ⟨W (s.is8+1),rt tP s.e7⟩)) z) z) z) (e 2))
noncomputable def I4(p:L1)(s:o9):Stp o9:=G5 .next .exit .fail p s
noncomputable def ja9:Lo L1 o9:=⟨En Ia7,1,bf8,[1,0,1,4,4],[0,1,7,8],.p,[⟨.s (.c 1 (nL (tLs tP)))::.fn 104 [.o (.ptr 0 0 0 0)]::ru2 5 (sIq::sIq::ru2 10 []),[⟨0,1,true,some [[.c 4 (nL tP)]]⟩],λa H=>(⟨rL (tLs tP) (slT a 0),aIq a 7⟩,⟨aIq a 8,hLq tP H 0 0 0⟩)⟩],I4,[(none,λp s=>⟨[i s.is8],[⟨0,1,[[eL tP (rt tP s.e7)]],true,false,0⟩]⟩),(some 0,λp s=>upq (Ca1 p s) [(9,b (decide (s.is8<p.is7)))])],Ca1⟩
theorem rb2:ja9.Ok:=Lo.ok [] (by kernel_rfl) .nil rfl (.cons (λa H=>by kernel_rfl) .nil) λp s=>(.of @G5 (λF _ _ _ _ _=>by unfold G5;(repeat' apply l6 (f:=F))<;>rfl) (by kernel_rfl))
structure aa5 where
 alt:Nat
 is0:Int
 e7:List Pln
noncomputable def G6{α:Type}(kk:aa5->α)(x:aa4):α:=let t1:=(lp (I4 (⟨rt (tLs tP) x.R4,(↑(List.length x.R4):Int)⟩:L1)) (⟨0,rt tP x.e7⟩:o9));(sl ((cnE (tLs tP) x.R4)&&((cnE tP x.e7)&&true)) (sl (Nat.beq t1.1 1) (kk ⟨1,t1.2.is8,rt tP t1.2.e7⟩) (sl (Nat.beq t1.1 2) (kk ⟨1,-1,t1.2.e7⟩) (kk ⟨0,0,[]⟩))) (kk ⟨0,0,[]⟩))
noncomputable def aa6(x:aa4):aa5:=G6 (λr=>r) x
noncomputable def na6(x:aa4)(r:aa5):DT (b7×List b8):=(.ite (Nat.beq r.alt 1) (.ret (i r.is0,[⟨0,1,[[eL tP r.e7]],true,false,0⟩])) .fail)
theorem Fb7{α β:Type}(F:α->β)(kk:aa5->α)(x:aa4):F (G6 kk x)=G6 (λr=>F (kk r)) x:=by unfold G6;(repeat' apply l6 (f:=F))<;>rfl
noncomputable def Ma8:Sum:=bb1 ⟨[.s (.c 1 (nL (tLs tP))),.fn 104 [.o (.ptr 0 0 0 0)]],[⟨0,1,true,some [[.c 4 (nL tP)]]⟩],λa H=>(⟨rL (tLs tP) (slT a 0),hLq tP H 0 0 0⟩,())⟩ (λx=>na6 x (aa6 x))
theorem yb0:g9 prog G 161 Ma8:=N9 (enc:=λx=>⟨[eL (tLs tP) x.R4,.fn 104 [.ptr 0 0 0 0]],[⟨0,1,[[eL tP x.e7]],true,false,0⟩]⟩) (λa H=>by kernel_rfl) (bd ag1 ub7) λx=>ta7 (.s .p (.s (.s .p (.b (.u ja9.ls))) .p)) [ja9.pr] (by kernel_rfl) (.cons rb2 .nil) (Eq.trans (b:=G6 (λr=>(na6 x r).run) x) (by kernel_rfl) (Fb7 (λr=>(na6 x r).run) (λr=>r) x).symm)
structure S5 where
 R4:List (List Pln)
 e7:List Pln
noncomputable def lb4:List (Nat×Sum):=[(161,Ma8)]
theorem ib0:i9 prog G lb4:=⟨yb0,trivial⟩
structure S6 where
 alt:Nat
 bs0:Bool
 e7:List Pln
noncomputable def B9{α:Type}(kk:S6->α)(x:S5):α:=let t1:=(aa6 ⟨rt (tLs tP) x.R4,rt tP x.e7⟩);(sl ((cnE (tLs tP) x.R4)&&((cnE tP x.e7)&&true)) (sl (Nat.beq t1.alt 1) (kk ⟨1,decide (t1.is0>=0),t1.e7⟩) (kk ⟨0,false,[]⟩)) (kk ⟨0,false,[]⟩))
noncomputable def ia3(x:S5):S6:=B9 (λr=>r) x
noncomputable def fa1(x:S5)(r:S6):DT (b7×List b8):=(.ite (Nat.beq r.alt 1) (.ret (b r.bs0,[⟨0,1,[[eL tP r.e7]],true,false,0⟩])) .fail)
theorem rb3{α β:Type}(F:α->β)(kk:S6->α)(x:S5):F (B9 kk x)=B9 (λr=>F (kk r)) x:=by unfold B9;(repeat' apply l6 (f:=F))<;>rfl
noncomputable def Ca2:Sum:=bb1 ⟨[.s (.c 1 (nL (tLs tP))),.fn 104 [.o (.ptr 0 0 0 0)]],[⟨0,1,true,some [[.c 4 (nL tP)]]⟩],λa H=>(⟨rL (tLs tP) (slT a 0),hLq tP H 0 0 0⟩,())⟩ (λx=>fa1 x (ia3 x))
theorem lb5:g9 prog G 103 Ca2:=N9 (enc:=λx=>⟨[eL (tLs tP) x.R4,.fn 104 [.ptr 0 0 0 0]],[⟨0,1,[[eL tP x.e7]],true,false,0⟩]⟩) (λa H=>by kernel_rfl) (bd Zf8 ib0) λx=>v7 (Eq.trans (b:=B9 (λr=>(fa1 x r).run) x) (by kernel_rfl) (rb3 (λr=>(fa1 x r).run) (λr=>r) x).symm)
noncomputable def td9:List (Nat×Sum):=[(103,Ca2)]
theorem bd9:i9 prog G td9:=⟨lb5,trivial⟩
noncomputable def Va3(x:List Pln)(y:List (List Pln)):Option (b7×List b8):=let t1:=(ia3 ⟨rt (tLs tP) y,rt tP x⟩);(sl ((cnE (tLs tP) y)&&((cnE tP x)&&true)) (sl (Nat.beq t1.alt 1) (some (b (!t1.bs0),[])) none) none)
noncomputable def nb5(x:List Pln)(y:List (List Pln)):Bool:=J8 (one r1B) (Va3 x y)
noncomputable def Va4(x:List Pln)(y:List (List Pln)):Bool:=okO (one r1B) (Va3 x y)
noncomputable def vc9:Sum:=oa5 (O3 tP) (O3 (tLs tP)) (λx y=>.guard (Va4 x y) (.ret ((one r1B).enc (nb5 x y),[])))
theorem ud0:g9 prog G 45 vc9:=hb8 (bd b45 bd9) (one r1B) (o:=Va3) λx y=>v7 (by kernel_rfl)
noncomputable def wc0:List (Nat×Sum):=[(49,nb3),(42,Fb5)]
theorem ud1:i9 prog G wc0:=⟨Fb3,dc4,trivial⟩
structure Ba2 where
 (Md7 Md8 Md9 Nd0:List (List Pln))
 dg3:Int
 hb7:List (List Pln)
 pf0:Int
 (vd2 Ya4:List (List Pln))
structure aa7 where
 bs9:Bool
 (na7 pc0:Int)
noncomputable def dc6(p:Ba2)(s:aa7):St:=⟨ra 9 (b s.bs9::i s.na7::.unk::.ptr 0 0 0 0::ra 20 (.agg [eL (tLs tP) p.Md7,eL (tLs tP) p.Md8,eL (tLs tP) p.Md9,eL (tLs tP) p.Nd0]::i p.dg3::ra 3 (eL (tLs tP) p.hb7::i p.pf0::i s.pc0::ra 16 []))),[⟨0,2,[[eL (tLs tP) p.vd2,eL (tLs tP) p.Ya4]],true,false,0⟩]⟩
noncomputable def Ba3{α:Type}(k:aa7->α)(e:Nat->α)(z:α)(p:Ba2)(s:aa7):α:=let t1:=(ia2 (rt (tLs tP) p.Ya4) (rt tP (gL (tLs tP) p.hb7 s.pc0.toNat)));(sl (decide (s.pc0<p.pf0)) (sl (inB s.pc0 (List.length p.hb7)) (sl (okE (tLs tP) p.Ya4) (sl (okE tP (gL (tLs tP) p.hb7 s.pc0.toNat)) (sl (Ma7 (rt (tLs tP) p.Ya4) (rt tP (gL (tLs tP) p.hb7 s.pc0.toNat))) (sl (!t1.1) (e 1) (k ⟨t1.1,t1.2,W (s.pc0+1)⟩)) z) z) z) z) (e 2))
noncomputable def ka0(p:Ba2)(s:aa7):Stp aa7:=Ba3 .next .exit .fail p s
noncomputable def Fb8:Lo Ba2 aa7:=⟨En wc0,0,Vf5,[1,1,1,1,0,1,4,4,1,1,0,4,1,1,4,4],[9,10,12,33,34,38,39,40],.p,[⟨ru2 9 (sBq::sIq::sUq::sPq 0::ru2 20 (.agg [.c 1 (nL (tLs tP)),.c 1 (nL (tLs tP)),.c 1 (nL (tLs tP)),.c 1 (nL (tLs tP))]::sIq::ru2 3 (.s (.c 1 (nL (tLs tP)))::sIq::sIq::ru2 16 []))),[⟨0,2,true,some [[.c 1 (nL (tLs tP)),.c 1 (nL (tLs tP))]]⟩],λa H=>(⟨rL (tLs tP) (slT (cellsOf (slT a 33)) 0),rL (tLs tP) (slT (cellsOf (slT a 33)) 1),rL (tLs tP) (slT (cellsOf (slT a 33)) 2),rL (tLs tP) (slT (cellsOf (slT a 33)) 3),aIq a 34,rL (tLs tP) (slT a 38),aIq a 39,rL (tLs tP) (slT (rwT (elT H 0) 0) 0),rL (tLs tP) (slT (rwT (elT H 0) 0) 1)⟩,⟨aBq a 9,aIq a 10,aIq a 40⟩)⟩],ka0,[(some 2,λp s=>let t1:=(ia2 (rt (tLs tP) p.Ya4) (rt tP (gL (tLs tP) p.hb7 s.pc0.toNat)));⟨ra 9 (b t1.1::i t1.2::.unk::.ptr 0 0 0 0::.unk::eL tP (gL (tLs tP) p.hb7 s.pc0.toNat)::ra 18 (.agg [eL (tLs tP) p.Md7,eL (tLs tP) p.Md8,eL (tLs tP) p.Md9,eL (tLs tP) p.Nd0]::i p.dg3::ra 3 (eL (tLs tP) p.hb7::i p.pf0::i s.pc0::b (decide (s.pc0<p.pf0))::.tptr [eL tP (gL (tLs tP) p.hb7 s.pc0.toNat)]::eL tP (gL (tLs tP) p.hb7 s.pc0.toNat)::.tup [b t1.1,i t1.2]::.ptr 0 0 1 0::eL (tLs tP) p.Ya4::eL tP (gL (tLs tP) p.hb7 s.pc0.toNat)::.tup [b t1.1,i t1.2]::b t1.1::i t1.2::b t1.1::b (!t1.1)::ra 4 []))),[⟨0,2,[[eL (tLs tP) p.vd2,eL (tLs tP) p.Ya4]],true,false,0⟩]⟩),(some 4,λp s=>upq (dc6 p s) [(41,b (decide (s.pc0<p.pf0)))])],dc6⟩
theorem cd0:Fb8.Ok:=Lo.ok [] (by kernel_rfl) .nil rfl (.cons (λa H=>by kernel_rfl) .nil) λp s=>(.of @Ba3 (λF _ _ _ _ _=>by unfold Ba3;(repeat' apply l6 (f:=F))<;>rfl) (by kernel_rfl))
noncomputable def fb5(x:List (List Pln))(y:List (List Pln)):Option (b7×List b8):=let t1:=(Y1 (rt (tLs tP) x));let t2:=(Y1 (rt (tLs tP) y));let t3:=(lp (ka0 (⟨rt (tLs tP) x,rt (tLs tP) y,rt (tLs tP) y,rt (tLs tP) x,0,rt (tLs tP) x,(↑(List.length x):Int),rt (tLs tP) x,rt (tLs tP) y⟩:Ba2)) (⟨true,0,0⟩:aa7));let t4:=(ia2 (rt (tLs tP) (rt (tLs tP) y)) (rt tP (gL (tLs tP) (rt (tLs tP) x) t3.2.pc0.toNat)));let t5:=(lp (ka0 (⟨rt (tLs tP) (rt (tLs tP) x),rt (tLs tP) (rt (tLs tP) y),rt (tLs tP) (rt (tLs tP) y),rt (tLs tP) (rt (tLs tP) x),1,rt (tLs tP) (rt (tLs tP) y),(↑(List.length (rt (tLs tP) y)):Int),rt (tLs tP) (rt (tLs tP) y),rt (tLs tP) (rt (tLs tP) x)⟩:Ba2)) (⟨t3.2.bs9,t3.2.na7,0⟩:aa7));let t6:=(ia2 (rt (tLs tP) (rt (tLs tP) (rt (tLs tP) x))) (rt tP (gL (tLs tP) (rt (tLs tP) (rt (tLs tP) y)) t5.2.pc0.toNat)));(sl (okE (tLs tP) x) (sl (Y2 (rt (tLs tP) x)) (sl (t1 != 0) (some (.tup [b false,i t1],[])) (sl (okE (tLs tP) y) (sl (Y2 (rt (tLs tP) y)) (sl (t2 != 0) (some (.tup [b false,i t2],[])) (sl ((cnE (tLs tP) x)&&((cnE (tLs tP) y)&&((cnE (tLs tP) y)&&((cnE (tLs tP) x)&&((cnE (tLs tP) x)&&((cnE (tLs tP) x)&&((cnE (tLs tP) y)&&true))))))) (sl (Nat.beq t3.1 1) (some (.tup [b t4.1,i t4.2],[])) (sl (Nat.beq t3.1 2) (sl ((cnE (tLs tP) (rt (tLs tP) x))&&((cnE (tLs tP) (rt (tLs tP) y))&&((cnE (tLs tP) (rt (tLs tP) y))&&((cnE (tLs tP) (rt (tLs tP) x))&&((cnE (tLs tP) (rt (tLs tP) y))&&((cnE (tLs tP) (rt (tLs tP) y))&&((cnE (tLs tP) (rt (tLs tP) x))&&true))))))) (sl (Nat.beq t5.1 1) (some (.tup [b t6.1,i t6.2],[])) (sl (Nat.beq t5.1 2) (some (.tup [b t5.2.bs9,i t5.2.na7],[])) none)) none) none)) none)) none) none)) none) none)
noncomputable def yb1(x:List (List Pln))(y:List (List Pln)):Bool×Int:=J8 (two r1B r1I) (fb5 x y)
noncomputable def yb2(x:List (List Pln))(y:List (List Pln)):Bool:=okO (two r1B r1I) (fb5 x y)
noncomputable def Lc5:Sum:=oa5 (O3 (tLs tP)) (O3 (tLs tP)) (λx y=>.guard (yb2 x y) (.ret ((two r1B r1I).enc (yb1 x y),[])))
theorem Dd0:g9 prog G 47 Lc5:=hb8 (bd b47 ud1) (two r1B r1I) (o:=fb5) λx y=>ta7 (.s .p (.s .p (.s .p (.s .p (.s (.s .p (.b (.l (.s .p (.s .p (.s (.b (.s .p (.s .p (.b (.u Fb8.ls))))) .p)))))) .p))))) [Fb8.pr] (by kernel_rfl) (.cons cd0 .nil) (by kernel_rfl)
noncomputable def ac0(c:List Pln)(s:List (List Pln)):Bool:=!s.any λq=>!apart c q
theorem Qe7{c q:List Pln}(hc:c.length<=1000000)(hq:q.length<=1000000):Wa9 ⟨q,c⟩=⟨1,!apart c q⟩:=by
 unfold Wa9 ta3;simp only[g8,o5,Fe0 (a:=c) (c:=q) (by omega) (by omega),Fe1 (a:=c) (c:=q) (by omega) (by omega),g7]
theorem Ld6(c:List Pln)(s:List (List Pln))(hc:c.length<=1000000)(hs:s.length<=1000000)(hl:∀q∈s,q.length<=1000000):Va3 c s=some (b (ac0 c s),[]):=by
 have h:=Va6 (step:=I4 ⟨s,(s.length:Int)⟩) (mk:=λj=>(⟨(j:Int),c⟩:o9)) (c:=λq=>!apart c q) (u:=1) (fin:=2) (tLs tP) s (by omega)
  (λj hj=>by
   have hq:=hl _ (ya6 (tLs tP) hj);simp only[I4,G5,Int.toNat_natCast,g8,i7,Qe7 hc hq,n8 hj (show s.length<=4611686018427387904 by omega),g7,Qlc]
   rw[btD (f9 hj),bt (e8 hj)]
   rfl)
  (by simp only[I4,G5];rw[bfD (l7 (Qlg _))]) 0 (Qle _)
 rw[Qlaa,Qlp] at h;have hI:aa6 ⟨s,c⟩=⟨1,if s.any (λq=>!apart c q) then ((s.findIdx (λq=>!apart c q):Nat):Int) else -1,c⟩:=by
  unfold aa6 G6;simp only[g8,i7];rw[show (⟨0,c⟩:o9)=⟨((0:Nat):Int),c⟩ from rfl,h]
  cases s.any (λq=>!apart c q)<;>rfl
 unfold Va3 ac0 ia3 B9;simp only[g8,i7,hI];cases hA:s.any (λq=>!apart c q) with
 |true =>
  simp only[if_true]
  have:decide (((s.findIdx (λq=>!apart c q):Nat):Int)>=0)=true:=decide_eq_true (by omega)
  rw[this];rfl
 |false=>rfl
theorem lf0{c:List Pln}{s:List (List Pln)}(hc:c.length<=1000000)(hs:s.length<=1000000)(hl:∀q∈s,q.length<=1000000):nb5 c s=ac0 c s:=by unfold nb5;rw[Ld6 c s hc hs hl];rfl
theorem lf1{c:List Pln}{s:List (List Pln)}(hc:c.length<=1000000)(hs:s.length<=1000000)(hl:∀q∈s,q.length<=1000000):Va4 c s=true:=by unfold Va4;rw[Ld6 c s hc hs hl];rfl
noncomputable def inR(s t:List (List Pln)):Bool×Int:=match s.find? λc=>!(B4 t c).1 with
 |some c=>B4 t c
 |none=>(true,0)
noncomputable def Tb7(x y:List (List Pln)):Bool×Int:=if schk x != 0 then (false,schk x) else if schk y != 0 then (false,schk y) else if (inR x y).1 then inR y x else inR x y
theorem Yd0{x:List (List Pln)}{y:List Pln}(h:(B4 x y).1=true):(B4 x y).2=0:=by
 unfold B4 at *
 rw[Qlv] at h;exact beq_iff_eq.1 h.1
theorem Ld7 (a0 a1 a2 a3 : List (List Pln)) (n34 : Int) (s t u : List (List Pln)) (hs : s.length ≤ 1000000) (hl : ∀ q ∈ s, q.length ≤ 1000000) (ht : t.length ≤ 1000000) (htl : ∀ q ∈ t, q.length ≤ 1000000) :
  lp (ka0 ⟨a0,a1,a2,a3,n34,s,(s.length:Int),u,t⟩) ⟨true,0,0⟩=if s.any (λc=>!(B4 t c).1) then (1,⟨true,0,((s.findIdx (λc=>!(B4 t c).1):Nat):Int)⟩) else (2,⟨true,0,(s.length:Int)⟩):=by
 have h:=Va6 (step:=ka0 ⟨a0,a1,a2,a3,n34,s,(s.length:Int),u,t⟩) (mk:=λj=>(⟨true,0,(j:Int)⟩:aa7)) (c:=λc=>!(B4 t c).1) (u:=1) (fin:=2) (tLs tP) s (by omega)
  (λj hj=>by
   have hq:=hl _ (ya6 (tLs tP) hj);simp only[ka0,Ba3,Int.toNat_natCast,g8,o5,Lc3 hq ht htl,oe8 hq ht htl,n8 hj (show s.length<=4611686018427387904 by omega),g7]
   rw[btD (f9 hj),bt (e8 hj)];cases hc:(B4 t (gL (tLs tP) s j)).1 with
   |false=>rfl
   |true=>rw[Yd0 hc])
  (by simp only[ka0,Ba3];rw[bfD (l7 (Qlg _))]) 0 (Qle _)
 rw[Qlaa,Qlp] at h;exact h
theorem He4{s t:List (List Pln)}(h:s.any (λc=>!(B4 t c).1)=true):inR s t=B4 t (gL (tLs tP) s (s.findIdx λc=>!(B4 t c).1))/\(inR s t).1=false/\gL (tLs tP) s (s.findIdx λc=>!(B4 t c).1)∈s:=by
 have hlt:s.findIdx (λc=>!(B4 t c).1)<s.length:=Qlt.2 (Qlaf.1 h)
 have e:inR s t=B4 t (gL (tLs tP) s (s.findIdx λc=>!(B4 t c).1)):=by unfold inR;rw[Xd7 (tLs tP) s _ h]
 have:=List.find?_some (Xd7 (tLs tP) s _ h)
 exact⟨e,by rw[e];simpa using this,ya6 (tLs tP) hlt⟩
theorem Lc6{s t:List (List Pln)}(h:s.any (λc=>!(B4 t c).1)=false):inR s t=(true,0):=by
 unfold inR;rw[Qlq.2 λc hc=>by have:=List.any_eq_false.1 h c hc;simpa using this]
theorem oe9(x y:List (List Pln))(hx:x.length<=1000000)(hxl:∀q∈x,q.length<=1000000)(hy:y.length<=1000000)(hyl:∀q∈y,q.length<=1000000):fb5 x y=some (.tup [b (Tb7 x y).1,i (Tb7 x y).2],[]):=by
 unfold fb5 Tb7;simp only[g8,o5,i7,oc0 hx hxl,oc1 hx hxl,oc0 hy hyl,oc1 hy hyl,g7,Qlc];rw[Ld7 x y y x 0 x y x hx hxl hy hyl];cases h1:schk x != 0 with
 |true=>rfl
 |false =>
  cases h2:schk y != 0 with
  |true=>rfl
  |false =>
   simp only[J7,Qlm,if_false];cases ha:x.any λc=>!(B4 y c).1 with
   |true =>
    obtain⟨e1,e2,e3⟩:=He4 ha;simp only[if_true,Int.toNat_natCast,Lc3 (hxl _ e3) hy hyl,e2,Qlm,if_false];rw[e1] at e2 ⊢;rw[e2];rfl
   |false =>
    have e:=Lc6 ha;simp only[Qlm,if_false,e,if_true];rw[Ld7 x y y x 1 y x y hy hyl hx hxl];cases hc:y.any λc=>!(B4 x c).1 with
    |true =>
     obtain⟨e1,e2,e3⟩:=He4 hc;simp only[if_true,Int.toNat_natCast,Lc3 (hyl _ e3) hx hxl];rw[e1];rfl
    |false =>
     rw[Lc6 hc];rfl
theorem Bf6{x y:List (List Pln)}(hx:x.length<=1000000)(hxl:∀q∈x,q.length<=1000000)(hy:y.length<=1000000)(hyl:∀q∈y,q.length<=1000000):yb1 x y=Tb7 x y:=by unfold yb1;rw[oe9 x y hx hxl hy hyl];rfl
theorem Bf7{x y:List (List Pln)}(hx:x.length<=1000000)(hxl:∀q∈x,q.length<=1000000)(hy:y.length<=1000000)(hyl:∀q∈y,q.length<=1000000):yb2 x y=true:=by unfold yb2;rw[oe9 x y hx hxl hy hyl];rfl
def Fv:V3:=⟨10000,100,1⟩
theorem Rf5{a c:V3}(ha:inV a=true)(hc:inV c=true)(h:dot Fv a=dot Fv c):a=c:=by
 obtain⟨⟨a1,a2⟩,⟨a3,a4⟩,a5,a6⟩:=(xb0 a).1 ha;obtain⟨⟨c1,c2⟩,⟨c3,c4⟩,c5,c6⟩:=(xb0 c).1 hc;simp only[dot,Fv] at h;exact V3.ext' (by omega) (by omega) (by omega)
structure Crs(l:List V3)(p:Pln)(v:V3):Prop where
 h:∃u w,u∈l/\w∈l/\dot p.n u=p.b/\dot p.n w=p.b/\dot Fv w<dot Fv v/\dot Fv v<dot Fv u/\N3 v u w≠⟨0,0,0⟩
 on:dot p.n v=p.b
theorem Bf8(u w x:V3):N3 u x w=neg (N3 u w x):=by simp only[N3,d9,Ra8,neg,V3.mk.injEq];refine⟨?_,?_,?_⟩<;>grind
theorem lf2(u w x:V3):N3 w x u=N3 u w x:=by simp only[N3,d9,Ra8,V3.mk.injEq];refine⟨?_,?_,?_⟩<;>grind
theorem cg7{d:V3}(h:neg d=⟨0,0,0⟩):d=⟨0,0,0⟩:=by
 simp only[neg,V3.mk.injEq] at h;exact V3.ext' (by show d.x=0;omega) (by show d.y=0;omega) (by show d.z=0;omega)
section
variable{l:List V3}(hl:l.all inV=true)
include hl
theorem lf3{p:Pln}(hp:Lc0 l p):∃v∈l,Crs l p v:=by
 obtain⟨u,w,x,hu,hw,hx,h3,t1,t2,t3⟩:=hp.on;have hi:=Qli.1 hl;obtain⟨n1,n3,n2⟩:=If7 h3;have ne:∀{a c:V3},a∈l->c∈l->a≠c->dot Fv a<dot Fv c\/dot Fv c<dot Fv a:=λ{a c} ha hc h=>by
  have:dot Fv a≠dot Fv c:=λe=>h (Rf5 (hi a ha) (hi c hc) e)
  omega
 have sw:∀{a c d:V3},N3 a c d≠⟨0,0,0⟩->N3 a d c≠⟨0,0,0⟩:=λ{a c d} h e=>h (by
  have e2:=Bf8 a c d;rw[e] at e2;exact cg7 e2.symm)
 have m:∀{a c d:V3},a∈l->c∈l->d∈l->N3 c d a≠⟨0,0,0⟩->dot p.n a=p.b->dot p.n c=p.b->dot p.n d=p.b->dot Fv a<dot Fv c->dot Fv c<dot Fv d->∃v∈l,Crs l p v :=
  λ{a c d} ha hc hd hn ta tc td h1 h2=>⟨c,hc,⟨⟨d,a,hd,ha,td,ta,h1,h2,hn⟩,tc⟩⟩
 have r1:N3 w x u≠⟨0,0,0⟩:=by rw[lf2];exact h3
 have r2:N3 x u w≠⟨0,0,0⟩:=by rw[lf2];exact r1
 rcases ne hu hw n1 with a|a<;>rcases ne hw hx n2 with c|c<;>rcases ne hu hx n3 with d|d
 ·exact m hu hw hx r1 t1 t2 t3 a c
 ·omega
 ·exact m hu hx hw (sw r2) t1 t3 t2 d c
 ·exact m hx hu hw (h3) t3 t1 t2 d a |>.elim λv h=>⟨v,h⟩
 ·exact m hw hu hx (sw h3) t2 t1 t3 a d
 ·exact m hw hx hu r2 t2 t3 t1 c d
 ·omega
 ·exact m hx hw hu (sw r1) t3 t2 t1 c a
theorem lf4(hs:Sol l){p q:Pln}(hp:Lc0 l p)(hq:Lc0 l q){u w x:V3}(hu:u∈l)(hw:w∈l)(hx:x∈l)(h3:N3 u w x≠⟨0,0,0⟩)(p1:dot p.n u=p.b)(p2:dot p.n w=p.b)(p3:dot p.n x=p.b)(q1:dot q.n u=q.b)(q2:dot q.n w=q.b)(q3:dot q.n x=q.b):p=q:=by
 have hi:=Qli.1 hl;have hT:=(Kb3 (oe1 (hi u hu) (hi w hw) (hi x hx) h3)).2;have fl:∀{p:Pln},Lc0 l p->Lc0 l (V8 p)->False:=λ{p} h h'=>by
  obtain⟨v,hv,hne⟩:=hs.off (sd1 h.ok) p.b;have a:=h.hd v hv;have c:=h'.hd v hv;rw[ne4] at c;have c:-dot p.n v<=-p.b:=c;omega
 rcases td4 hT hp.ok p1 p2 p3 with e|e<;>rcases td4 hT hq.ok q1 q2 q3 with e'|e'
 ·rw[e,e']
 ·rw[e',<- e] at hq;exact (fl hp hq).elim
 ·rw[e,<- e'] at hp;exact (fl hq hp).elim
 ·rw[e,e']
theorem Yd1(hs:Sol l){p:Pln}{v:V3}(hp:Lc0 l p)(hv:v∈l)(h:Crs l p v):∃d:V3,dot Fv d=0/\dot p.n d=0/\∀q,Lc0 l q->dot q.n v=q.b->q≠p->dot q.n d<0:=by
 obtain⟨⟨u,w,hu,hw,tu,tw,h1,h2,h3⟩,tv⟩:=h;generalize ha:dot Fv v-dot Fv w=a at *
 generalize hc:dot Fv u-dot Fv v=c at *
 have dd:∀n:V3,dot n ⟨c*(w.x-v.x)+a*(u.x-v.x),c*(w.y-v.y)+a*(u.y-v.y),c*(w.z-v.z)+a*(u.z-v.z)⟩=c*(dot n w-dot n v)+a*(dot n u-dot n v):=λn=>by simp only[dot];grind
 refine⟨⟨c*(w.x-v.x)+a*(u.x-v.x),c*(w.y-v.y)+a*(u.y-v.y),c*(w.z-v.z)+a*(u.z-v.z)⟩,?_,?_,λq hq tq hne=>?_⟩
 ·rw[dd,<- ha,<- hc];grind
 ·rw[dd,tu,tw,tv];simp
 ·rw[dd,tq];have g1:=hq.hd w hw;have g2:=hq.hd u hu;have e1:c*(dot q.n w-q.b)<=0:=Qls (by omega) (by omega)
  have e2:a*(dot q.n u-q.b)<=0:=Qls (by omega) (by omega)
  apply Qlad;intro hno;have z1:=(Qlai.1 (show c*(dot q.n w-q.b)=0 by omega)).resolve_left (by omega)
  have z2:=(Qlai.1 (show a*(dot q.n u-q.b)=0 by omega)).resolve_left (by omega)
  exact hne (lf4 hl hs hq hp hv hu hw h3 tq (by omega) (by omega) tv tu tw)
end
theorem opp{x y A B:Int}(hA:A<0)(hB:B<0)(h:x*A+y*B=0):(0<x->y<0)/\(x<0->0<y)/\(x=0->y=0):=by
 refine⟨λhx=>?_,λhx=>?_,λhx=>?_⟩
 ·have:=Qlae hx hA
  have h2:0<y*B:=by omega
  rcases Int.lt_trichotomy y 0 with h3|h3|h3
  ·exact h3
  ·rw[h3] at h2;simp at h2
  ·have:=Qlae h3 hB;omega
 ·have:=Qln hx hA
  have h2:y*B<0:=by omega
  rcases Int.lt_trichotomy y 0 with h3|h3|h3
  ·have:=Qln h3 hB;omega
  ·rw[h3] at h2;simp at h2
  ·exact h3
 ·rw[hx] at h;exact (Qlai.1 (show y*B=0 by omega)).resolve_right (by omega)
theorem Bf9{l:List V3}(hl:l.all inV=true)(hs:Sol l){p q r:Pln}{v:V3}(hv:v∈l)(hp:Lc0 l p)(hq:Lc0 l q)(hr:Lc0 l r)(cp:Crs l p v)(cq:Crs l q v)(cr:Crs l r v):p=q\/q=r\/p=r:=by
 apply Qlad;intro hno;have n1:p≠q:=λe=>hno (.inl e)
 have n2:q≠r:=λe=>hno (.inr (.inl e))
 have n3:p≠r:=λe=>hno (.inr (.inr e))
 obtain⟨a,fa,pa,ha⟩:=Yd1 hl hs hp hv cp;obtain⟨c,fc,qc,hc⟩:=Yd1 hl hs hq hv cq;obtain⟨d,fd,rd,hd⟩:=Yd1 hl hs hr hv cr;have pc:=hc p hp cp.on n1;have pd:=hd p hp cp.on n3;have qa:=ha q hq cq.on (Ne.symm n1);have qd:=hd q hq cq.on n2;have ra:=ha r hr cr.on (Ne.symm n3);have rc:=hc r hr cr.on (Ne.symm n2)
 -- the Uf2 directions lie in a plane
 have hdet:dot a (d9 c d)=0:=by
  have e:dot Fv Fv*dot a (d9 c d)=dot Fv a*dot Fv (d9 c d)+dot Fv c*dot Fv (d9 d a)+dot Fv d*dot Fv (d9 a c):=by simp only[dot,d9,Fv];grind
  rw[fa,fc,fd] at e;have hF:dot Fv Fv=100010001:=by decide
  rw[hF] at e;omega
 have lin:∀n:V3,dot Fv (d9 c d)*dot n a+dot Fv (d9 d a)*dot n c+dot Fv (d9 a c)*dot n d=0:=λn=>by
  have e:dot Fv (d9 c d)*dot n a+dot Fv (d9 d a)*dot n c+dot Fv (d9 a c)*dot n d=dot a (d9 c d)*dot n Fv:=by simp only[dot,d9];grind
  rw[e,hdet,Int.zero_mul]
 have lp:=lin p.n;have lq:=lin q.n;have lr:=lin r.n;rw[pa] at lp;rw[qc] at lq;rw[rd] at lr;obtain⟨i1,i2,i3⟩:=opp pc pd (by omega:dot Fv (d9 d a)*dot p.n c+dot Fv (d9 a c)*dot p.n d=0)
 obtain⟨j1,j2,j3⟩:=opp qa qd (by omega:dot Fv (d9 c d)*dot q.n a+dot Fv (d9 a c)*dot q.n d=0)
 obtain⟨k1,k2,k3⟩:=opp ra rc (by omega:dot Fv (d9 c d)*dot r.n a+dot Fv (d9 d a)*dot r.n c=0)
 have z:dot Fv (d9 a c)=0:=by omega
 -- so two of them are alike
 have cr0:d9 a c=⟨0,0,0⟩:=by
  have e1:dot Fv Fv*(d9 a c).x=Fv.x*dot Fv (d9 a c)+dot Fv a*(d9 Fv c).x-dot Fv c*(d9 Fv a).x:=by simp only[dot,d9,Fv];grind
  have e2:dot Fv Fv*(d9 a c).y=Fv.y*dot Fv (d9 a c)+dot Fv a*(d9 Fv c).y-dot Fv c*(d9 Fv a).y:=by simp only[dot,d9,Fv];grind
  have e3:dot Fv Fv*(d9 a c).z=Fv.z*dot Fv (d9 a c)+dot Fv a*(d9 Fv c).z-dot Fv c*(d9 Fv a).z:=by simp only[dot,d9,Fv];grind
  rw[z,fa,fc] at e1 e2 e3;have hF:dot Fv Fv=100010001:=by decide
  rw[hF] at e1 e2 e3;exact V3.ext' (by show (d9 a c).x=0;omega) (by show (d9 a c).y=0;omega) (by show (d9 a c).z=0;omega)
 have k:∀n:V3,dot p.n c*dot n a=dot p.n a*dot n c+dot n (d9 p.n (d9 a c)):=λn=>by simp only[dot,d9];grind
 have hk:=k q.n;rw[cr0,pa,qc] at hk;have e0:dot q.n (d9 p.n ⟨0,0,0⟩)=0:=by simp[dot,d9]
 rw[e0] at hk
 have:=Qln pc qa
 omega
theorem Rf6{α:Type}{l:List α}(hn:l.Nodup)(h:∀x∈l,∀y∈l,∀z∈l,x=y\/y=z\/x=z):l.length<=2:=by
 match l with
 |[]=>simp
 |[_]=>simp
 |[_,_]=>simp
 |x::y::z::l =>
  exfalso;simp only[List.nodup_cons,Qlu,not_or] at hn
  rcases h x (by simp) y (by simp) z (by simp) with e|e|e
  ·exact hn.1.1 e
  ·exact hn.2.1.1 e
  ·exact hn.1.2.1 e
theorem Ld8{α β:Type}{R:α->β->Prop}:∀(B:List β) (A:List α),A.Nodup->(∀x∈A,∃v∈B,R x v)->(∀v∈B,∀x∈A,∀y∈A,∀z∈A,R x v->R y v->R z v->x=y\/y=z\/x=z)->A.length<=2*B.length
 |[],A,_,h1,_=>by
  cases A with
  |nil=>simp
  |cons a A=>obtain⟨v,hv,_⟩:=h1 a (by simp);cases hv
 |b::B,A,hn,h1,h2=>by
  classical
  have hs:A.length=(A.filter λx=>decide (R x b)).length+(A.filter λx=>!decide (R x b)).length:=by
   rw[<- Qlk,<- Qlk]
   have:=Qlw (λx=>decide (R x b)) (l:=A)
   rw[this];congr 1;apply List.countP_congr;intro x _;simp
  have a1:(A.filter λx=>decide (R x b)).length<=2:=Rf6 (hn.filter _) λx hx y hy z hz=>by
   obtain⟨x1,x2⟩:=Qlh.1 hx;obtain⟨y1,y2⟩:=Qlh.1 hy;obtain⟨z1,z2⟩:=Qlh.1 hz;exact h2 b (by simp) x x1 y y1 z z1 (of_decide_eq_true x2) (of_decide_eq_true y2) (of_decide_eq_true z2)
  have a2:=Ld8 (R:=R) B (A.filter λx=>!decide (R x b)) (hn.filter _) (λx hx=>by
   obtain⟨x1,x2⟩:=Qlh.1 hx;have x2:¬ R x b:=by simpa using x2
   obtain⟨v,hv,hr⟩:=h1 x x1
   rcases Qlu.1 hv with rfl|hv
   ·exact absurd hr x2
   ·exact⟨v,hv,hr⟩) (λv hv x hx y hy z hz=>h2 v (by simp[hv]) x (Qlh.1 hx).1 y (Qlh.1 hy).1 z (Qlh.1 hz).1)
  simp only[List.length_cons];omega
theorem lf5{α:Type}(f:α->Int):∀l:List α,l≠[]->∃m∈l,∀x∈l,f m<=f x
 |[],h=>absurd rfl h
 |[a],_=>⟨a,by simp,λx hx=>by rw[Qlj.1 hx];exact Int.le_refl _⟩
 |a::c::l,_=>by
  obtain⟨m,hm,h⟩:=lf5 f (c::l) (by simp)
  by_cases hle:f a<=f m
  ·refine⟨a,by simp,λx hx=>?_⟩
   rcases Qlu.1 hx with rfl|hx
   ·exact Int.le_refl _
   ·have:=h x hx;omega
  ·refine⟨m,List.mem_cons_of_mem _ hm,λx hx=>?_⟩
   rcases Qlu.1 hx with rfl|hx
   ·omega
   ·exact h x hx
theorem Rf7{l:List V3}(hl:l.all inV=true)(hf:nf0 l=true):(F0 l).length<=2*(l.length-2):=by
 classical
 have hs:=Rf4 hf;have hF:∀p∈F0 l,Lc0 l p:=λp hp=>(Af6 hl p).1 hp
 obtain⟨v0,hv0⟩:=hs.ne;have hne:l≠[]:=λe=>by rw[e] at hv0;cases hv0
 obtain⟨m,hm,hmin⟩:=lf5 (dot Fv) l hne;obtain⟨M,hM,hmax⟩:=lf5 (λv=>-dot Fv v) l hne
 by_cases h0:F0 l=[]
 ·rw[h0];simp
 obtain⟨p0,hp0⟩:=List.exists_mem_of_ne_nil _ h0;obtain⟨v1,hv1,c1⟩:=lf3 hl (hF p0 hp0);obtain⟨u1,w1,hu1,hw1,_,_,q1,q2,_⟩:=c1.h;have hmM:m≠M:=λe=>by
  have a1:=hmin w1 hw1;have a2:=hmax u1 hu1;subst e;omega
 have hB:(l.filter λv=>decide (v≠m)&&decide (v≠M)).length+2<=l.length:=by
  have e:=Qlw (λv=>decide (v≠m)&&decide (v≠M)) (l:=l)
  rw[Qlk] at e;rw[Qlk] at e
  have:([m,M]:List V3).length<=(l.filter λa=>decide (¬ (decide (a≠m)&&decide (a≠M))=true)).length :=
   List.Nodup.length_le_of_subset (by simp[hmM]) (λx hx=>by
    simp only[Qlu,List.not_mem_nil,or_false] at hx;rw[Qlh]
    rcases hx with rfl|rfl
    ·exact⟨hm,by simp⟩
    ·exact⟨hM,by simp⟩)
  simp only[List.length_cons,List.length_nil] at this;omega
 have:=Ld8 (R:=λp v=>Crs l p v) (l.filter λv=>decide (v≠m)&&decide (v≠M)) (F0 l) (Pe3 (Qf9 l))
  (λp hp=>by
   obtain⟨v,hv,c⟩:=lf3 hl (hF p hp);refine⟨v,Qlh.2 ⟨hv,?_⟩,c⟩;obtain⟨u,w,hu,hw,_,_,g1,g2,_⟩:=c.h;have a1:=hmin w hw;have a2:=hmax u hu;have k1:v≠m:=λe=>by subst e;omega
   have k2:v≠M:=λe=>by subst e;omega
   simp[k1,k2])
  (λv hv p hp q hq r hr=>Bf9 hl hs (Qlh.1 hv).1 (hF p hp) (hF q hq) (hF r hr))
 omega
structure lf6 where
 c9:List Pln
 (is2 f0 b9 f7:Int)
structure lf7 where
 ph:Nat
 is9:Int
 ns8:Nat
 eh1:List (List b7)
structure qf7 where
 i5:List V3
 (f0 b9 f7:Int)
structure qf8 where
 is5:Int
structure If9 where
 i5:List V3
 (f0 b9 f7:Int)
structure Jf0 where
 is5:Int
structure lf8 where
 c9:List Pln
 (f0 b9 f7:Int)
structure lf9 where
 ph:Nat
 is6:Int
 ns5:Nat
 eh1:List (List b7)
structure mf0 where
 ns5:Nat
 (is7 is8:Int)
 eh0:List (List b7)
structure mf1 where
 ph:Nat
 is9:Int
structure mf2 where
 is7:Int
structure mf3 where
 (ph ns5:Nat)
 is8:Int
 eh0:List (List b7)
structure mf4 where
structure mf5 where
 ph:Nat
 is7:Int
 ns5:Nat
 eh0:List (List b7)
structure Te8 where
 i5:List V3
 aa8:List Pln
structure Te9 where
 ph:Nat
 is7:Int
 pg5:List V3
structure Jf1 where
 (i5 Lb2:List V3)
 is7:Int
structure Jf2 where
 ph:Nat
 is8:Int
 ns6:Nat
 eh0:List (List b7)
structure Jf3 where
structure Jf4 where
 ph:Nat
 (i5 Lb2:List V3)
 is7:Int
 ns6:Nat
 eh0:List (List b7)
structure Ue0 where
 i5:List V3
 (f0 b9 f7:Int)
structure Ue1 where
 (is6 is7:Int)
structure Qe8 where
 (i5 Lb2:List V3)
structure Qe9 where
 is5:Int
structure qf9 where
 i5:List V3
 (f0 b9 f7:Int)
structure rf0 where
 ph:Nat
 is6:Int
 ns5:Nat
 eh1:List (List b7)
structure Ue2 where
 (f0 b9 f7:Int)
structure Ue3 where
 ph:Nat
 is4:Int
 ns3:Nat
 eh1:List (List b7)
structure rf1 where
 R4:List (List Pln)
structure rf2 where
 is3:Int
structure rf3 where
 ea4:List Pln
structure rf4 where
 ph:Nat
 Md6:List Pln
 is8:Int
 ns6:Nat
 eh0:List (List b7)
structure Ue4 where
 R4:List (List Pln)
 ea4:List Pln
structure Ue5 where
 ph:Nat
 is7:Int
 ns6:Nat
 eh0:List (List b7)
structure rf5 where
 Ae1:List (List Pln)
 e7:List Pln
structure rf6 where
 ph:Nat
 is8:Int
 Bc7:List (List Pln)
structure rf7 where
 c9:List Pln
 Ae1:List (List Pln)
structure rf8 where
 is5:Int
structure mf6 where
 (R4 Ae1:List (List Pln))
structure mf7 where
 is6:Int
structure Re0 where
 (R4 Ae1:List (List Pln))
structure Re1 where
 is5:Int
end Go.Ev.Ce
namespace Go.Ev
open Go Go.ChangeShapes Go.RowKit
structure ud2(w w':World):Prop where
 os:w'.os=w.os
 output:w'.output=w.output
 size:w.heap.size<=w'.heap.size
 block:∀k,k<w.heap.size->w'.heap[k]?=w.heap[k]?
theorem ud2.kept{w w':World}(h:ud2 w w')(may:MemPlace->Prop):w.keptBut w' may:=by
 refine⟨h.os,h.output,λi hi=>?_⟩
 rw[h.block i hi];cases w.heap[i]? with
 |none=>rfl
 |some o=>cases o<;>first | exact⟨rfl,rfl,rfl,λ_ _=>rfl⟩ | exact .inr ⟨rfl,rfl⟩ | rfl
theorem ud2.frozen{w w':World}(h:ud2 w w')(b off:Nat)(hb:b<w.heap.size):w'.frozen? ⟨b,off,none⟩=w.frozen? ⟨b,off,none⟩:=by
 simp only[World.frozen?,h.block b hb]
theorem ud2.cell{w w':World}(h:ud2 w w')(b off:Nat)(hb:b<w.heap.size):w'.cell? ⟨b,off,none⟩=w.cell? ⟨b,off,none⟩:=by
 simp only[World.cell?,h.block b hb]
theorem ud2.same{w w':World}(h:ud2 w w')(p:MemPlace)(hp:p.block<w.heap.size):w.sameAt w' p:=by
 cases p with
 |cell b off=>exact h.cell b off hp
 |map b=>exact h.block b hp
theorem Tb8{α β:Type}{f:α->Option β}:∀{l:List α} {r:List β},l.mapM f=some r->r.length=l.length/\∀(j:Nat) y,r[j]?=some y->∃x,l[j]?=some x/\f x=some y
 |[],r,h=>by
  have:r=[]:=by simpa using h.symm
  subst this;simp
 |x::l,r,h=>by
  rw[List.mapM_cons] at h;obtain⟨y,h1,h2⟩:=Qll.1 h;obtain⟨r',h3,h4⟩:=Qll.1 h2
  have:r=y::r':=by simpa using h4.symm
  subst this;obtain⟨g1,g2⟩:=Tb8 h3;refine⟨by simp[g1],λj z hz=>?_⟩
  cases j with
  |zero=>simp at hz;subst hz;exact⟨x,rfl,h1⟩
  |succ j=>simpa using g2 j z (by simpa using hz)
section
variable{D:Type}{enc:TypeId×Value->D}{P:Program}
theorem wc1 {T : TypeId → Prop} (K : Kids P T) (hsz : ∀ {t e : TypeId}, T t → P.underlying t = some (.slice e) → 0 < P.cellsOf e) {w w' : World} {sp : Nat → Bool} (hs : ud2 w w') :
  ∀{ts:List TypeId} {vs:List Value} {ds:List (DataW D)} {ps:List MemPlace},(∀t∈ts,T t)->DataW.TrodAll enc P w 0 (λ_=>true) true ts vs ds ps->(∀p∈ps,p.block<w.heap.size)->(∀p∈ps,sp p.block=true)->DataW.TrodAll enc P w' 0 sp true ts vs ds ps
 |[],[],[],_,_,h,_,_=>h
 |t::ts,v::vs,d::ds,ps,ht,h,hlt,hsp=>by
  obtain⟨p,q,⟨fuel,h1⟩,h2,rfl⟩:=h;refine⟨p,q,⟨fuel,?_⟩,wc1 K hsz hs (λt h=>ht t (by simp[h])) h2 (λx hx=>hlt x (by simp[hx])) (λx hx=>hsp x (by simp[hx])),rfl⟩
  exact DataW.trod_stays K hsz (λh=>by cases h) (ht t (by simp)) h1 (λx hx=>hs.same x (hlt x (by simp at hx ⊢;exact .inl hx))) (λx hx=>hsp x (by simp at hx ⊢;exact .inl hx))
 |[],_::_,_,_,_,h,_,_=>h.elim
 |[],[],_::_,_,_,h,_,_=>h.elim
 |_::_,[],_,_,_,h,_,_=>h.elim
 |_::_,_::_,[],_,_,h,_,_=>h.elim
theorem mf8 {T : TypeId → Prop} (K : Kids P T) (hsz : ∀ {t e : TypeId}, T t → P.underlying t = some (.slice e) → 0 < P.cellsOf e) {f : Func} {s : ChangeSpec} {apart fresh handsOn again : Bool} {W W' : World} {args : Array Value} {ds gs : List (DataW D)} {before : List MemPlace} {tb : TypeId}
  (hT:∀t∈f.params.toList,T t) (hW:DataW.Whole enc P f.params.toList s.vars apart W args.toList ds gs before) (hv:s.vars=[]) (hr:f.resultTypes=#[tb]) (hb:P.underlying tb=some .bool)
  (h1:(s.fn D ds).results=[.lit (.bool true)]) (h2:(s.fn D ds).args=ds) (h3:(s.fn D ds).vars=[]) (hs:ud2 W W') :
  s.post enc P f apart fresh handsOn again W args (.bool true) W':=by
 have hlt:=hW.lt;obtain⟨pa,pv,hA,hV,hps,hz,hn⟩:=id hW;rw[hv] at hV;have hpv:gs=[]/\pv=[]:=by
  cases gs with
  |nil=>exact⟨rfl,hV⟩
  |cons=>exact hV.elim
 obtain⟨rfl,rfl⟩:=hpv;rw[<- Qlah ds] at h1 h3;have h2:(s.fn D (ds++[])).args=ds:=by rw[Qlah];exact h2
 have hpa:before=pa:=by rw[hps];simp
 subst hpa;have hagain:∀sp:Nat->Bool,(∀p∈before,sp p.block=true)->DataW.TrodAll enc P W' 0 sp true f.params.toList args.toList ds before:=λsp h=>wc1 K hsz hs hT hA hlt h
 have hres:∀(b:Nat) (sp:Nat->Bool) (hd:Bool),DataW.TrodAll enc P W' b sp hd f.resultTypes.toList ((Value.bool true).resultList f.resultTypes.size) [.lit (.bool true)] []:=λb sp hd=>by
  rw[hr];exact⟨[],[],⟨1,by simp[DataW.trod,hb,Value.cells,Value.resultList]⟩,rfl,rfl⟩
 have hvars:∀sp:Nat->Bool,DataW.TrodVars enc P W' sp s.vars ([]:List (DataW D)) []:=λsp=>by rw[hv];exact rfl
 have hok:∀(j:Nat) (t:TypeId) (r:Value),f.resultTypes[j]?=some t->((Value.bool true).resultList f.resultTypes.size)[j]?=some r->Value.okWide P W' .any 0 t r:=by
  rw[hr];intro j t r h4 h5;cases j with
  |zero =>
   simp at h4
   subst h4
   have:r=.bool true:=by simpa [Value.resultList] using h5.symm
   subst this;exact okWide_bool_mk hb _
  |succ j=>simp at h4
 have hag:DataW.TrodAll enc P W' 0 (λ_=>true) true (f.resultTypes.toList++f.params.toList) ((Value.bool true).resultList f.resultTypes.size++args.toList) (.lit (.bool true)::ds) before:=by
  have:=hagain (λ_=>true) (λ_ _=>rfl)
  rw[hr];exact⟨[],before,⟨1,by simp[DataW.trod,hb,Value.cells,Value.resultList]⟩,this,rfl⟩
 refine⟨ds,[],before,[],before,[],hW,?_,?_,?_,hs.kept _,λ_=>?_⟩
 ·rw[h1];exact hres _ _ _
 ·rw[h2];exact hagain _ λp hp=>by simpa using hlt p hp
 ·rw[h3];exact hvars _
 ·refine⟨hok,.lit (.bool true)::ds,[],before,⟨before,[],hag,hvars _,by simp,?_,?_⟩,?_⟩
  ·intro b off hp;rw[hs.frozen b off (hlt _ hp)];exact hz b off (by simpa using hp)
  ·intro ha;simpa using hn ha
  ·intro p hp _;exact hp
variable{w:World}{base:Nat}{spare:Nat->Bool}{held:Bool}
def Sc9(w:World):Fz:=λb o=>(w.cell? ⟨b,o,none⟩).isSome
theorem Rf8 {fuel : Nat} {t : TypeId} {k : IntKind} {cs : List Value} {x : DataW D × List MemPlace} (ht : P.underlying t = some (.int k)) (h : DataW.trod enc P w base spare held fuel t cs = some x) :
  ∃n,cs=[.int k n]/\(Lit.int k n).wf=true/\x.1=.lit (.int k n):=by
 cases fuel with
 |zero=>cases h
 |succ fuel =>
  match cs,h with
  |[],h=>simp[DataW.trod,ht] at h
  |[v],h =>
   cases v with
   |int k' n =>
    simp only[DataW.trod,ht] at h
    split at h
    ·rename_i hk;obtain⟨rfl,hw⟩:=hk;injection h with h;subst h
     exact⟨n,rfl,hw,rfl⟩
    ·cases h
   |_=>simp[DataW.trod,ht] at h
  |a::b::r,h=>simp[DataW.trod,ht] at h
theorem Cf0 {fuel : Nat} {t : TypeId} {cs : List Value} {x : DataW D × List MemPlace} (ht : P.underlying t = some .bool) (h : DataW.trod enc P w base spare held fuel t cs = some x) :
  ∃n,cs=[.bool n]/\x.1=.lit (.bool n):=by
 cases fuel with
 |zero=>cases h
 |succ fuel =>
  match cs,h with
  |[],h=>simp[DataW.trod,ht] at h
  |[v],h =>
   cases v with
   |bool n =>
    simp only[DataW.trod,ht] at h;injection h with h;subst h
    exact⟨n,rfl,rfl⟩
   |_=>simp[DataW.trod,ht] at h
  |a::b::r,h=>simp[DataW.trod,ht] at h
theorem mf9 {fuel : Nat} {t e : TypeId} {n : Nat} {cs : List Value} {x : DataW D × List MemPlace} (ht : P.underlying t = some (.array n e)) (h : DataW.trod enc P w base spare held fuel t cs = some x) :
  cs.length=P.cellsOf t/\∃(fuel':Nat) (xs:List (DataW D×List MemPlace)),xs.length=n/\x.1=.agg (xs.map (·.1))/\∀(j:Nat) y,xs[j]?=some y->DataW.trod enc P w base spare held fuel' e ((cs.drop (j*P.cellsOf e)).take (P.cellsOf e))=some y:=by
 cases fuel with
 |zero=>cases h
 |succ fuel =>
  unfold DataW.trod at h;rw[ht] at h
  simp only at h
  split at h
  ·rename_i hl;obtain⟨xs,h1,h2⟩:=Qlaj.1 h;have hx:=Tb8 h1;exact⟨hl,fuel,xs,by simpa using hx.1,by rw[<- h2],λj y hy=>by
    obtain⟨a,ha,hb⟩:=hx.2 j y hy
    have:j<n:=by
     have:=(List.getElem?_eq_some_iff.1 hy).1
     rw[hx.1] at this;simpa using this
    rw[Qly this] at ha;injection ha with ha;subst ha;exact hb⟩
  ·cases h
theorem Re2 {fuel : Nat} {t : TypeId} {fs : Array Field} {cs : List Value} {x : DataW D × List MemPlace} (ht : P.underlying t = some (.struct fs)) (h : DataW.trod enc P w base spare held fuel t cs = some x) :
  cs.length=P.cellsOf t/\∃(fuel':Nat) (xs:List (DataW D×List MemPlace)),xs.length=fs.size/\x.1=.agg (xs.map (·.1))/\∀(j:Nat) f,fs[j]?=some f->∃y,xs[j]?=some y/\DataW.trod enc P w base spare held fuel' f.type ((cs.drop f.offset).take (P.cellsOf f.type))=some y:=by
 cases fuel with
 |zero=>cases h
 |succ fuel =>
  unfold DataW.trod at h;rw[ht] at h
  simp only at h
  split at h
  ·rename_i hl;obtain⟨xs,h1,h2⟩:=Qlaj.1 h;have hx:=Tb8 h1;refine⟨hl,fuel,xs,by simpa using hx.1,by rw[<- h2],λj f hf=>?_⟩
   have hj:j<xs.length:=by
    rw[hx.1];simpa using (Array.getElem?_eq_some_iff.1 hf).1
   obtain⟨a,ha,hb⟩:=hx.2 j _ (Qlb hj)
   have:a=f:=by
    have:fs.toList[j]?=some f:=by simpa using hf
    exact Option.some.inj (ha.symm.trans this)
   subst this;exact⟨_,Qlb hj,hb⟩
  ·cases h
theorem pe0 {fuel : Nat} {t e : TypeId} {cs : List Value} {x : DataW D × List MemPlace} (ht : P.underlying t = some (.slice e)) (h : DataW.trod enc P w base spare held fuel t cs = some x) :
  cs=[.slice none 0 0]\/∃(a:Addr) (n cap fuel':Nat),cs=[.slice (some a) n cap]/\n<=cap/\cap<=maxLen/\∀j,j<n->∃row y,w.cells? base (a.add (j*P.cellsOf e)) (P.cellsOf e)=some row/\DataW.trod enc P w base spare held fuel' e row=some y:=by
 cases fuel with
 |zero=>cases h
 |succ fuel =>
  match cs,h with
  |[],h=>simp[DataW.trod,ht] at h
  |[v],h =>
   cases v with
   |slice a len cap =>
    cases a with
    |none =>
     simp only[DataW.trod,ht] at h
     split at h<;>first | (rename_i e1;cases e1;done) | skip
     all_goals first | exact .inl rfl | (simp_all;done) | skip
    |some a =>
     refine .inr ?_;simp only[DataW.trod,ht] at h
     split at h
     ·rename_i hc;obtain⟨elems,h1,h2⟩:=Qll.1 h;have hx:=Tb8 h1;refine⟨a,len,cap,fuel,rfl,hc.2.1,hc.2.2,λj hj=>?_⟩
      have hj':j<elems.length:=by rw[hx.1];simpa using hj
      obtain⟨i,hi,hb⟩:=hx.2 j _ (Qlb hj');rw[Qly hj] at hi;injection hi with hi;subst hi;obtain⟨row,r1,r2⟩:=Qll.1 hb;exact⟨row,_,r1,r2⟩
     ·cases h
   |_=>simp[DataW.trod,ht] at h
  |a::b::r,h=>simp[DataW.trod,ht] at h
theorem He5:∀(d:Nat) (t:TypeId) (l:List (Nat×CK)),ga6 P d t=some l->∀(fuel:Nat) (cs:List Value) (x:DataW D×List MemPlace),DataW.trod enc P w base spare held fuel t cs=some x->∀p∈l,Na9 cs.toArray p
 |0,_,_,h,_,_,_,_=>by cases h
 |d+1,t,l,h,fuel,cs,x,hx=>by
  have hpart:∀{off n:Nat} {e:TypeId} {l':List (Nat×CK)} {fuel':Nat} {y:DataW D×List MemPlace},fc8 off n (ga6 P d e)=some l'->DataW.trod enc P w base spare held fuel' e ((cs.drop off).take n)=some y->∀p∈l',Na9 cs.toArray p:=λ{off n e l' fuel' y} h1 h2 p hp=>by
   obtain⟨l2,g1,g2,rfl⟩:=Ya5 h1;obtain⟨q,hq,rfl⟩:=List.mem_map.1 hp
   have:=He5 d e l2 g1 fuel' _ y h2 q hq
   have hlt:=g2 q hq;unfold Na9 at this ⊢;simp only[List.getElem?_toArray,List.getElem?_take,hlt,if_true,List.getElem?_drop] at this ⊢;exact this
  have hcat:∀{α:Type} (f:α->Option (List (Nat×CK))) (xs:List α) (l:List (Nat×CK)),wa3 (xs.map f)=some l->∀p∈l,∃a∈xs,∃l',f a=some l'/\p∈l':=λ{α} f xs=>by
   induction xs with
   |nil=>intro l h;simp only[List.map_nil,wa3] at h;injection h with h;subst h;simp
   |cons a xs ih =>
    intro l h p hp;simp only[List.map_cons,wa3] at h;cases h1:f a with
    |none=>simp[h1] at h
    |some l1 =>
    cases h2:wa3 (xs.map f) with
    |none=>simp[h1,h2] at h
    |some l2 =>
    simp only[h1,h2] at h;injection h with h;subst h
    rcases Qlx.1 hp with hp|hp
    ·exact⟨a,by simp,l1,h1,hp⟩
    ·obtain⟨b,hb,r⟩:=ih l2 h2 p hp;exact⟨b,by simp[hb],r⟩
  unfold ga6 at h;cases hu:P.underlying t with
  |none=>simp[hu] at h
  |some u =>
  cases u with
  |int k =>
   simp only[hu] at h;injection h with h;subst h
   obtain⟨n,rfl,_,_⟩:=Rf8 hu hx;intro p hp;simp at hp;subst hp;exact⟨n,rfl⟩
  |bool =>
   simp only[hu] at h;injection h with h;subst h
   obtain⟨n,rfl,_⟩:=Cf0 hu hx;intro p hp;simp at hp;subst hp;exact⟨n,rfl⟩
  |struct fs =>
   simp only[hu] at h
   split at h
   ·cases h
   obtain⟨_,fuel',xs,_,_,hxs⟩:=Re2 hu hx;intro p hp;obtain⟨f,hf,l',h1,h2⟩:=hcat _ _ _ h p hp
   split at h1
   ·cases h1
   obtain⟨j,hj⟩:=List.getElem?_of_mem hf;obtain⟨y,_,hy⟩:=hxs j f (by simpa using hj)
   have hc:P.cellsOf f.type=szT P f.type:=by
    unfold Program.cellsOf szT;cases P.info? f.type<;>rfl
   rw[hc] at hy;exact hpart h1 hy p h2
  |array n e =>
   simp only[hu] at h
   split at h
   case isFalse=>cases h
   obtain⟨_,fuel',xs,hn,_,hxs⟩:=mf9 hu hx;intro p hp;obtain⟨j,hj,l',h1,h2⟩:=hcat _ _ _ h p hp;have hj':j<xs.length:=by rw[hn];simpa using hj
   have hy:=hxs j _ (Qlb hj');have hc:P.cellsOf e=szT P e:=by
    unfold Program.cellsOf szT;cases P.info? e<;>rfl
   rw[hc] at hy;exact hpart h1 hy p h2
  |_=>simp[hu] at h
def lb6(k:IntKind)(es:Nat)(g:Nat->Int):List b7:=(List.range es).map λc=>.v (.int k (g c))
def Ja7(k:IntKind)(es:Nat):List (Nat×CK):=(List.range es).map λc=>(c,.int k)
theorem Cf1 {d : Nat} {t : TypeId} {k : IntKind} {es : Nat} (hf : ga6 P d t = some (Ja7 k es)) {fuel : Nat} {cs : List Value} {x : DataW D × List MemPlace} (hx : DataW.trod enc P w base spare held fuel t cs = some x) (hl : cs.length = es) :
  ∃g:Nat->Int,∀c,c<es->cs[c]?=some (.int k (g c)):=by
 have h:=He5 d t _ hf fuel cs x hx;have h':∀c,∃n:Int,c<es->cs[c]?=some (.int k n):=λc=>by
  by_cases hc:c<es
  ·have:=h (c,.int k) (List.mem_map.2 ⟨c,by simpa using hc,rfl⟩)
   obtain⟨n,hn⟩:=this;exact⟨n,λ_=>by simpa using hn⟩
  ·exact⟨0,λh=>absurd h hc⟩
 exact⟨λc=>Classical.choose (h' c),λc hc=>Classical.choose_spec (h' c) hc⟩
theorem nf3{F:Fz}{w:World}(k:IntKind)(n:Int):ea6 F w (.v (.int k n)) (.int k n):=.v _ rfl
theorem ze3{k:IntKind}{es:Nat}{g:Nat->Int}{c:Nat}{x:b7}(h:(lb6 k es g)[c]?=some x):c<es/\x=.v (.int k (g c)):=by
 unfold lb6 at h;obtain⟨h1,h2⟩:=ab7 h;exact⟨h1,h2.symm⟩
theorem wc2 {t e : TypeId} {k : IntKind} {es d : Nat} (ht : P.underlying t = some (.slice e)) (hf : ga6 P d e = some (Ja7 k es)) (hes : P.cellsOf e = es) (h0 : 0 < es) {fuel : Nat} {cs : List Value} {x : DataW D × List MemPlace} (hx : DataW.trod enc P w 0 spare held fuel t cs = some x) :
  ∃(v:Value) (n:Nat) (g:Nat->Nat->Int),cs=[v]/\n<=maxLen/\ea6 (Sc9 w) w (.tree es n λj=>lb6 k es (g j)) v:=by
 rcases pe0 ht hx with rfl|⟨a,n,cap,fuel',rfl,hn,hc,hel⟩
 ·exact⟨_,0,λ_ _=>0,rfl,Qle _,.nil _ _⟩
 ·rw[hes] at hel;have hcell:∀j,j<n->∃g:Nat->Int,∀c,c<es->w.cell? ((a.add (j*es)).add c)=some (.int k (g c)):=λj hj=>by
   obtain⟨row,y,h1,h2⟩:=hel j hj;unfold World.cells? at h1
   split at h1
   ·obtain⟨l1,l2⟩:=Tb8 h1;have hl:row.length=es:=by simpa using l1
    obtain⟨g,hg⟩:=Cf1 hf h2 hl;refine⟨g,λc hc=>?_⟩
    obtain⟨i,hi,hi2⟩:=l2 c _ (hg c hc);rw[Qly hc] at hi;injection hi with hi;subst hi;exact hi2
   ·cases h1
  have hg:∀j,∃g:Nat->Int,j<n->∀c,c<es->w.cell? ((a.add (j*es)).add c)=some (.int k (g c)):=λj=>by
   by_cases hj:j<n
   ·obtain⟨g,hg⟩:=hcell j hj;exact⟨g,λ_=>hg⟩
   ·exact⟨λ_=>0,λh=>absurd h hj⟩
  obtain⟨g,hg⟩:=Classical.axiomOfChoice hg;have hspot:0<n->a.spot=none:=λhn=>by
   have:=hg 0 hn 0 h0
   simpa [Addr.add] using World.cell?_spot this
  have hw:∀j c,j<n->c<es->w.cell? ⟨a.block,a.off+(j*es+c),none⟩=some (.int k (g j c)):=λj c hj hc=>by
   have:=hg j hj c hc
   rw[Y3 (hspot (by omega)),Y3 rfl] at this
   simpa [Nat.add_assoc] using this
  refine⟨_,n,g,rfl,Qld hn hc,.tree es n _ a cap (λj c=>.int k (g j c)) hspot hn (λi hi=>by simp[lb6]) (λi c hi hc=>?_) hw λi c hi hc=>?_⟩
  ·unfold Sc9;rw[hw i c hi hc];rfl
  ·have:=(ze3 (Qlb hc)).2
   rw[this];exact nf3 _ _
theorem Re3(w:World):C6 (λk=>w.heap.size<=k) (λ_=>⟨0,0,0⟩) [] (Sc9 w) w :=
 ⟨λid b h=>by simp at h,λid id' b b' h=>by simp at h,λ_ _ h=>h,λ_ h=>h⟩
theorem Re4 {G : Nat → List Value} {f : FuncId} {S : Sum} (hS : g9 P G f S) {aargs : List b7} {args : List Value} (hrun : ∃ out, (S aargs []).run = some (b true, out)) (hl : aargs.length = args.length)
  (ha:∀(i:Nat) x x',aargs[i]?=some x->args[i]?=some x'->la1 (λ_=>⟨0,0,0⟩) [] (Sc9 w) w x x') (hG:∀g (c:Nat) x,(G g)[c]?=some x->x.oneCell'=true/\w.cell? ⟨g,c,none⟩=some x) :
  Calls P f args.toArray w λe w'=>e=.returned (.bool true)/\ud2 w w':=by
 obtain⟨out,hrun⟩:=hrun;obtain⟨_,hc⟩:=hS aargs [] (b true) out hrun (λk=>w.heap.size<=k) (λ_=>⟨0,0,0⟩) (Sc9 w) w args (Re3 w) hl (λi x x' h1 h2=>.val (ha i x x' h1 h2)) (λg c x hx=>by
  obtain⟨h1,h2⟩:=hG g c x hx;exact⟨h1,by unfold Sc9;rw[h2];rfl,h2⟩)
 refine hc.mono λe w' ⟨r',he,ρ',F',hA,hH,hW⟩=>?_
 have:=ka2 hW
 subst this;exact⟨he,hA.ext.os,hA.ext.output,hA.ext.size,λk hk=>hA.ext.block k hk (by omega)⟩
theorem Ld9 {ρ : Rho} {H : List b8} {t e : TypeId} {k : IntKind} {es d : Nat} {v : Value} {dd : DataW D} {pp : List MemPlace} {bs : Nat} {r : Reach} (ht : P.underlying t = some (.slice e)) (hf : ga6 P d e = some (Ja7 k es)) (hes : P.cellsOf e = es) (h0 : 0 < es)
  (hok:Value.okWide P w r bs t v) (h:DataW.Trod enc P w 0 spare held t v dd pp):∃(n:Nat) (g:Nat->Nat->Int),n<=maxLen/\la1 ρ H (Sc9 w) w (.tree es n λj=>lb6 k es (g j)) v:=by
 obtain⟨fuel,hx⟩:=h;obtain⟨v',n,g,h1,h2,h3⟩:=wc2 ht hf hes h0 hx;have hv:v.cells=#[v]:=by
  unfold Value.okWide at hok;rw[ht] at hok;cases v with
  |agg cs=>exfalso;simp[Cell.okWide,Cell.ok,ht] at hok
  |_=>rfl
 rw[hv] at h1
 have:v=v':=by simpa using h1
 subst this;exact⟨n,g,h2,.cell (.mem h3)⟩
end
end Go.Ev
namespace Go.Ev.L
open Go Go.Ev
theorem nf4 {α : Type} (t : Ty α) (n : Nat) (g : Nat → Nat → Int) (f : (Nat → Int) → α) (h : ∀ j, lb6 .i64 t.es (g j) = t.row (f (g j))) :
  ∃l,(O3 t).dec (.tree t.es n λj=>lb6 .i64 t.es (g j))=some l/\(O3 t).grd (.tree t.es n λj=>lb6 .i64 t.es (g j))=true:=by
 refine⟨lsL t n λj=>lb6 .i64 t.es (g j),?_,jb2 t (f:=λk=>f (g k)) λk _=>h k⟩
 show Bool.rec (motive:=λ_=>Option (List α)) none (some (lsL t n λj=>lb6 .i64 t.es (g j))) (Nat.beq t.es t.es)=_
 rw[Qlo]
def Rdg{α:Type}(c:Cod α)(x:b7)(a:α):Prop:=c.dec x=some a/\c.grd x=true
theorem nf5{α:Type}(t:Ty α)(n:Nat)(g:Nat->Nat->Int)(f:(Nat->Int)->α)(h:∀j,lb6 .i64 t.es (g j)=t.row (f (g j))):∃l,Rdg (O3 t) (.tree t.es n λj=>lb6 .i64 t.es (g j)) l:=nf4 t n g f h
theorem pe1(n:Nat)(g:Nat->Nat->Int):∃l,Rdg (O3 tI) (.tree 1 n λj=>lb6 .i64 1 (g j)) l:=nf5 tI n g (λg=>g 0) λ_=>rfl
section
variable{α β γ δ ε:Type}{c:Cod α}{d:Cod β}{e:Cod γ}{f:Cod δ}{c5:Cod ε}{x y z w v:b7}{a:α}{b':β}{g:γ}{j:δ}{m:ε}{r:b7×List b8}
theorem og9{k:α->β->γ->DT (b7×List b8)}(h1:Rdg c x a)(h2:Rdg d y b')(h3:Rdg e z g)(h:(k a b' g).run=some r):(yc1 c d e k [x,y,z] []).run=some r:=by
 unfold yc1;simp only[h1.1,h1.2,h2.1,h2.2,h3.1,h3.2];exact h
end
theorem Rf9{g p:Bool}(hg:g=true)(hp:p=true):(DT.guard g (.ret ((one r1B).enc p,([]:List b8)))).run=some (b true,([]:List b8)):=by subst hg;subst hp;rfl
end Go.Ev.L
namespace Go.Ev.Ce
open Go Go.Ev Go.Ev.L Go.Proofs
structure B3 where
 b0:Int
 b1:Int
 b2:Int
structure B2 where
 d0:Int
 d1:Int
structure LL where
 u:List Int
 v:List Int
end Go.Ev.Ce
namespace Go.Ev.L
open Go Go.Ev
section
variable{α β γ δ ε ζ:Type}{P:Program}{G:Nat->List Value}{f:FuncId}{R0:Sum}{c:Cod α}{d:Cod β}{e:Cod γ}{c4:Cod δ}{c5:Cod ε}{c6:Cod ζ}{ρ:Type}
theorem pg0(hb:g9 P G f R0)(R:RR ρ){o:α->β->γ->δ->ε->ζ->Option (b7×List b8)}(h:∀a b g j m n r,o a b g j m n=some r->(R0 [c.enc a,d.enc b,e.enc g,c4.enc j,c5.enc m,c6.enc n] []).run=some r):g9 P G f (Le2 c d e c4 c5 c6 λa b g j m n=>rdO R (o a b g j m n)) :=
 (tf9 hb (k:=λa b g j m n=>DT.ofOption (o a b g j m n)) λa b g j m n r hr=>h a b g j m n r (by rw[mb4] at hr;exact hr)).conv λargs blks y out hr=>by
  unfold Le2 at hr
  split at hr
  ·obtain⟨a,h1,hr⟩:=H5 hr;obtain⟨b,h2,hr⟩:=H5 hr;obtain⟨g,h3,hr⟩:=H5 hr;obtain⟨j,h4,hr⟩:=H5 hr;obtain⟨m,h5,hr⟩:=H5 hr;obtain⟨n,h6,hr⟩:=H5 hr;obtain⟨g1,hr⟩:=DT.run_guard_some hr;obtain⟨g2,hr⟩:=DT.run_guard_some hr;obtain⟨g3,hr⟩:=DT.run_guard_some hr;obtain⟨g4,hr⟩:=DT.run_guard_some hr;obtain⟨g5,hr⟩:=DT.run_guard_some hr;obtain⟨g6,hr⟩:=DT.run_guard_some hr;obtain⟨e1,x,o',e2,e3⟩:=jd6 hr;refine⟨rfl,e1,x,o',?_,e3⟩;simp only[Le2,h1,h2,h3,h4,h5,h6,onO,g1,g2,g3,g4,g5,g6];show (DT.ofOption (o a b g j m n)).run=_;rw[mb4,e2]
  ·cases hr
end
end Go.Ev.L
namespace Go.Ev.Ce
open Go Go.Ev Go.Ev.L Go.Proofs
structure B6 where
 c0:Int
 c1:Int
 c2:Int
 c3:Int
 c4:Int
 c5:Int
set_option maxRecDepth 100000
noncomputable def Xc2:List (Nat×Sum):=[(16,Ac3)]
theorem Yd2:i9 prog G Xc2:=⟨Wc3,trivial⟩
structure va8 where
 s6:List (List Int)
 is1:Int
structure Q5 where
 ph:Nat
 is6:Int
 ns5:Nat
 eh0:List (List b7)
noncomputable def Fb9(p:va8)(s:Q5):St:=⟨eL (tLs tI) p.s6::i p.is1::ra 3 (.v (.slice none 0 0)::i s.is6::ra 20 []),[]⟩
noncomputable def Gb0(p:va8)(s:Q5):St:=⟨eL (tLs tI) p.s6::i p.is1::ra 3 (.sl 0 0 s.ns5 0::i s.is6::ra 20 []),[⟨24,1,s.eh0,true,false,0⟩]⟩
noncomputable def Dd1(p:va8)(s:Q5):St:=(sel (Nat.beq s.ph 1) (Gb0 p s) (Fb9 p s))
noncomputable def O8{α:Type}(k:Q5->α)(e:Nat->α)(z:α)(p:va8)(s:Q5):α:=let t1:=(qa1 (rt tI (gL (tLs tI) p.s6 s.is6.toNat)));(sl (decide (s.is6<(↑(List.length p.s6):Int))) (sl (decide (s.is6<p.is1)) (sl (inB s.is6 (List.length p.s6)) (sl (okE tI (gL (tLs tI) p.s6 s.is6.toNat)) (sl (Db5 (rt tI (gL (tLs tI) p.s6 s.is6.toNat))) (k ⟨1,W (s.is6+1),1,[[eL tP t1]]⟩) z) z) z) (e 1)) (e 2))
noncomputable def O9{α:Type}(k:Q5->α)(e:Nat->α)(z:α)(p:va8)(s:Q5):α:=let t1:=(qa1 (rt tI (gL (tLs tI) p.s6 s.is6.toNat)));(sl (decide (s.is6<(↑(List.length p.s6):Int))) (sl (decide (s.is6<p.is1)) (sl (inB s.is6 (List.length p.s6)) (sl (okE tI (gL (tLs tI) p.s6 s.is6.toNat)) (sl (Db5 (rt tI (gL (tLs tI) p.s6 s.is6.toNat))) (sl (Nat.beq s.ns5 (len s.eh0)&&Nat.ble ((s.ns5+1)*24) room) (k ⟨1,W (s.is6+1),s.ns5+1,app s.eh0 [[eL tP t1]]⟩) z) z) z) z) (e 3)) (e 4))
noncomputable def oa4(p:va8)(s:Q5):Stp Q5:=(sel (Nat.beq s.ph 1) (O9 .next .exit .fail p s) (O8 .next .exit .fail p s))
noncomputable def ac4:Lo va8 Q5:=⟨En Xc2,0,Vf9,[1,1,0,1,4,4],[0,1,5,6],.p,[⟨.s (.c 1 (nL (tLs tI)))::sIq::ru2 3 (.s (.o .nil)::sIq::ru2 20 []),[],λa H=>(⟨rL (tLs tI) (slT a 0),aIq a 1⟩,⟨0,aIq a 6,0,[]⟩)⟩,⟨.s (.c 1 (nL (tLs tI)))::sIq::ru2 3 (.s (.o (.sl 0 0 (some 0) none))::sIq::ru2 20 []),[⟨24,1,true,none⟩],λa H=>(⟨rL (tLs tI) (slT a 0),aIq a 1⟩,⟨1,aIq a 6,slN (slT a 5),elT H 0⟩)⟩],oa4,[(some 0,λp s=>upq (Fb9 p s) [(7,i s.is6),(8,eL (tLs tI) p.s6),(9,i (↑(List.length p.s6):Int)),(10,b (decide (s.is6<(↑(List.length p.s6):Int)))),(11,b true),(12,i s.is6),(13,i p.is1),(14,b (decide (s.is6<p.is1))),(15,b (decide (s.is6<p.is1)))]),(some 0,λp s=>upq (Fb9 p s) [(7,i s.is6),(8,eL (tLs tI) p.s6),(9,i (↑(List.length p.s6):Int)),(10,b (decide (s.is6<(↑(List.length p.s6):Int)))),(11,b false),(12,u),(13,u),(14,u),(15,b false)]),(some 0,λp s=>upq (Gb0 p s) [(7,i s.is6),(8,eL (tLs tI) p.s6),(9,i (↑(List.length p.s6):Int)),(10,b (decide (s.is6<(↑(List.length p.s6):Int)))),(11,b true),(12,i s.is6),(13,i p.is1),(14,b (decide (s.is6<p.is1))),(15,b (decide (s.is6<p.is1)))]),(some 0,λp s=>upq (Gb0 p s) [(7,i s.is6),(8,eL (tLs tI) p.s6),(9,i (↑(List.length p.s6):Int)),(10,b (decide (s.is6<(↑(List.length p.s6):Int)))),(11,b false),(12,u),(13,u),(14,u),(15,b false)])],Dd1⟩
theorem Dd2:ac4.Ok:=Lo.ok [] (by kernel_rfl) .nil rfl (.cons (λa H=>by kernel_rfl) (.cons (λa H=>by kernel_rfl) .nil)) λp s=>(.sel (Nat.beq s.ph 1) (.of @O9 (λF _ _ _ _ _=>by unfold O9;(repeat' apply l6 (f:=F))<;>rfl) (by kernel_rfl)) (.of @O8 (λF _ _ _ _ _=>by unfold O8;(repeat' apply l6 (f:=F))<;>rfl) (by kernel_rfl)))
noncomputable def Gb1(x:List (List Int))(y:Int):Option (b7×List b8):=let t1:=(lp (oa4 (⟨rt (tLs tI) x,y⟩:va8)) (⟨0,0,0,[]⟩:Q5));(sl ((cnE (tLs tI) x)&&true) (sl (Nat.beq t1.1 1) (some (.v (.slice none 0 0),[])) (sl (Nat.beq t1.1 2) (some (.v (.slice none 0 0),[])) (sl (Nat.beq t1.1 3) (some (.sl 0 0 t1.2.ns5 0,[⟨24,1,t1.2.eh0,true,false,0⟩])) (sl (Nat.beq t1.1 4) (some (.sl 0 0 t1.2.ns5 0,[⟨24,1,t1.2.eh0,true,false,0⟩])) none)))) none)
noncomputable def ud3(x:List (List Int))(y:Int):List (List Pln):=J8 (one (r1L (tLs tP))) (Gb1 x y)
noncomputable def Bc5(x:List (List Int))(y:Int):Bool:=okO (one (r1L (tLs tP))) (Gb1 x y)
noncomputable def ud4:Sum:=oa5 (O3 (tLs tI)) cI (λx y=>.guard (Bc5 x y) (.ret ((one (r1L (tLs tP))).enc (ud3 x y),[])))
theorem pe2:g9 prog G 95 ud4:=hb8 (bd b95 Yd2) (one (r1L (tLs tP))) (o:=Gb1) λx y=>ta7 (.s .p (.s .p (.s (.s .p (.b (.u ac4.ls))) .p))) [ac4.pr] (by kernel_rfl) (.cons Dd2 .nil) (by kernel_rfl)
noncomputable def Yd3:List (Nat×Sum):=[(63,qd6)]
theorem Dd3:i9 prog G Yd3:=⟨le2,trivial⟩
noncomputable def oc2(x:Int)(y:Int)(z:Int)(w:Int)(v:Int)(q:Int):Option (b7×List b8):=let t1:=(qd5 (⟨x,y,z⟩:V3) (⟨w,v,q⟩:V3));(some (.sl 0 0 6 0,[⟨73,4,[[i 1,i 0,i 0,i t1.j6],[i (-1),i 0,i 0,i t1.Ie2],[i 0,i 1,i 0,i t1.Ie3],[i 0,i (-1),i 0,i t1.Ie4],[i 0,i 0,i 1,i t1.Ie5],[i 0,i 0,i (-1),i t1.Ie6]],true,false,0⟩]))
noncomputable def P0(x:Int)(y:Int)(z:Int)(w:Int)(v:Int)(q:Int):List Pln:=J8 (one (r1L tP)) (oc2 x y z w v q)
noncomputable def M2(x:Int)(y:Int)(z:Int)(w:Int)(v:Int)(q:Int):Bool:=okO (one (r1L tP)) (oc2 x y z w v q)
noncomputable def Xc3:Sum:=Le2 cI cI cI cI cI cI (λx y z w v q=>.guard (M2 x y z w v q) (.ret ((one (r1L tP)).enc (P0 x y z w v q),[])))
theorem Yd4:g9 prog G 93 Xc3:=pg0 (bd b93 Dd3) (one (r1L tP)) (o:=oc2) λx y z w v q=>v7 (by kernel_rfl)
noncomputable def oc3:List (Nat×Sum):=[]
theorem cd1:i9 prog G oc3:=trivial
structure ba5 where
 s6:List (List Int)
 is1:Int
structure E1 where
 ph:Nat
 is6:Int
 ns5:Nat
 eh0:List (List b7)
noncomputable def fb6(p:ba5)(s:E1):St:=⟨eL (tLs tI) p.s6::i p.is1::ra 3 (.v (.slice none 0 0)::i s.is6::ra 26 []),[]⟩
noncomputable def fb7(p:ba5)(s:E1):St:=⟨eL (tLs tI) p.s6::i p.is1::ra 3 (.sl 0 0 s.ns5 0::i s.is6::ra 26 []),[⟨22,1,s.eh0,true,false,0⟩]⟩
noncomputable def Tc0(p:ba5)(s:E1):St:=(sel (Nat.beq s.ph 1) (fb7 p s) (fb6 p s))
noncomputable def E4{α:Type}(k:E1->α)(e:Nat->α)(z:α)(p:ba5)(s:E1):α:=(sl (decide (s.is6<(↑(List.length p.s6):Int))) (sl (decide (s.is6<p.is1)) (sl (inB s.is6 (List.length p.s6)) (sl (inB s.is6 (List.length p.s6)) (sl (inB (if 40<(↑(List.length (gL (tLs tI) p.s6 s.is6.toNat)):Int) then 40 else (↑(List.length (gL (tLs tI) p.s6 s.is6.toNat)):Int)) ((List.length (gL (tLs tI) p.s6 s.is6.toNat))+1)) (k ⟨1,W (s.is6+1),1,[[(.tree 1 ((if 40<(↑(List.length (gL (tLs tI) p.s6 s.is6.toNat)):Int) then 40 else (↑(List.length (gL (tLs tI) p.s6 s.is6.toNat)):Int)).toNat-0) (λk=>(λk=>(tI).row (gL tI (gL (tLs tI) p.s6 s.is6.toNat) k)) (0+k)))]]⟩) z) z) z) (e 1)) (e 2))
noncomputable def E5{α:Type}(k:E1->α)(e:Nat->α)(z:α)(p:ba5)(s:E1):α:=(sl (decide (s.is6<(↑(List.length p.s6):Int))) (sl (decide (s.is6<p.is1)) (sl (inB s.is6 (List.length p.s6)) (sl (inB s.is6 (List.length p.s6)) (sl (inB (if 40<(↑(List.length (gL (tLs tI) p.s6 s.is6.toNat)):Int) then 40 else (↑(List.length (gL (tLs tI) p.s6 s.is6.toNat)):Int)) ((List.length (gL (tLs tI) p.s6 s.is6.toNat))+1)) (sl (Nat.beq s.ns5 (len s.eh0)&&Nat.ble ((s.ns5+1)*24) room) (k ⟨1,W (s.is6+1),s.ns5+1,(app s.eh0 [[(.tree 1 ((if 40<(↑(List.length (gL (tLs tI) p.s6 s.is6.toNat)):Int) then 40 else (↑(List.length (gL (tLs tI) p.s6 s.is6.toNat)):Int)).toNat-0) (λk=>(λk=>(tI).row (gL tI (gL (tLs tI) p.s6 s.is6.toNat) k)) (0+k)))]])⟩) z) z) z) z) (e 3)) (e 4))
noncomputable def V9(p:ba5)(s:E1):Stp E1:=(sel (Nat.beq s.ph 1) (E5 .next .exit .fail p s) (E4 .next .exit .fail p s))
noncomputable def ub8:Lo ba5 E1:=⟨En oc3,0,Wf0,[1,1,0,1,4,4],[0,1,5,6],.p,[⟨.s (.c 1 (nL (tLs tI)))::sIq::ru2 3 (.s (.o .nil)::sIq::ru2 26 []),[],λa H=>(⟨rL (tLs tI) (slT a 0),aIq a 1⟩,⟨0,aIq a 6,0,[]⟩)⟩,⟨.s (.c 1 (nL (tLs tI)))::sIq::ru2 3 (.s (.o (.sl 0 0 (some 0) none))::sIq::ru2 26 []),[⟨22,1,true,none⟩],λa H=>(⟨rL (tLs tI) (slT a 0),aIq a 1⟩,⟨1,aIq a 6,slN (slT a 5),elT H 0⟩)⟩],V9,[(some 0,λp s=>upq (fb6 p s) [(7,i s.is6),(8,eL (tLs tI) p.s6),(9,i (↑(List.length p.s6):Int)),(10,b (decide (s.is6<(↑(List.length p.s6):Int)))),(11,b true),(12,i s.is6),(13,i p.is1),(14,b (decide (s.is6<p.is1))),(15,b (decide (s.is6<p.is1)))]),(some 0,λp s=>upq (fb6 p s) [(7,i s.is6),(8,eL (tLs tI) p.s6),(9,i (↑(List.length p.s6):Int)),(10,b (decide (s.is6<(↑(List.length p.s6):Int)))),(11,b false),(12,u),(13,u),(14,u),(15,b false)]),(some 0,λp s=>upq (fb7 p s) [(7,i s.is6),(8,eL (tLs tI) p.s6),(9,i (↑(List.length p.s6):Int)),(10,b (decide (s.is6<(↑(List.length p.s6):Int)))),(11,b true),(12,i s.is6),(13,i p.is1),(14,b (decide (s.is6<p.is1))),(15,b (decide (s.is6<p.is1)))]),(some 0,λp s=>upq (fb7 p s) [(7,i s.is6),(8,eL (tLs tI) p.s6),(9,i (↑(List.length p.s6):Int)),(10,b (decide (s.is6<(↑(List.length p.s6):Int)))),(11,b false),(12,u),(13,u),(14,u),(15,b false)])],Tc0⟩
theorem Tc1:ub8.Ok:=Lo.ok [] (by kernel_rfl) .nil rfl (.cons (λa H=>by kernel_rfl) (.cons (λa H=>by kernel_rfl) .nil)) λp s=>(.sel (Nat.beq s.ph 1) (.of @E5 (λF _ _ _ _ _=>by unfold E5;(repeat' apply l6 (f:=F))<;>rfl) (by kernel_rfl)) (.of @E4 (λF _ _ _ _ _=>by unfold E4;(repeat' apply l6 (f:=F))<;>rfl) (by kernel_rfl)))
noncomputable def Va5(x:List (List Int))(y:Int):Option (b7×List b8):=let t1:=(lp (V9 (⟨rt (tLs tI) x,y⟩:ba5)) (⟨0,0,0,[]⟩:E1));(sl ((cnE (tLs tI) x)&&true) (sl (Nat.beq t1.1 1) (some (.v (.slice none 0 0),[])) (sl (Nat.beq t1.1 2) (some (.v (.slice none 0 0),[])) (sl (Nat.beq t1.1 3) (some (.sl 0 0 t1.2.ns5 0,[⟨22,1,t1.2.eh0,true,false,0⟩])) (sl (Nat.beq t1.1 4) (some (.sl 0 0 t1.2.ns5 0,[⟨22,1,t1.2.eh0,true,false,0⟩])) none)))) none)
noncomputable def nb6(x:List (List Int))(y:Int):List (List Int):=J8 (one (r1L (tLs tI))) (Va5 x y)
noncomputable def Pb3(x:List (List Int))(y:Int):Bool:=okO (one (r1L (tLs tI))) (Va5 x y)
noncomputable def wc3:Sum:=oa5 (O3 (tLs tI)) cI (λx y=>.guard (Pb3 x y) (.ret ((one (r1L (tLs tI))).enc (nb6 x y),[])))
theorem ud5:g9 prog G 96 wc3:=hb8 (bd b96 cd1) (one (r1L (tLs tI))) (o:=Va5) λx y=>ta7 (.s .p (.s .p (.s (.s .p (.b (.u ub8.ls))) .p))) [ub8.pr] (by kernel_rfl) (.cons Tc1 .nil) (by kernel_rfl)
noncomputable def Dd4:List (Nat×Sum):=[(96,wc3),(95,ud4)]
theorem ud6:i9 prog G Dd4:=⟨ud5,pe2,trivial⟩
noncomputable def fb8(x:List (List Int))(y:Int):Option (b7×List b8):=let t1:=(nb6 (rt (tLs tI) x) y);let t2:=(ud3 (rt (tLs tI) t1) y);(sl (okE (tLs tI) x) (sl (Pb3 (rt (tLs tI) x) y) (sl (okE (tLs tI) t1) (sl (Bc5 (rt (tLs tI) t1) y) (some (eL (tLs tP) t2,[])) none) none) none) none)
noncomputable def Da3(x:List (List Int))(y:Int):List (List Pln):=J8 (one (r1L (tLs tP))) (fb8 x y)
noncomputable def yb3(x:List (List Int))(y:Int):Bool:=okO (one (r1L (tLs tP))) (fb8 x y)
noncomputable def Lc7:Sum:=oa5 (O3 (tLs tI)) cI (λx y=>.guard (yb3 x y) (.ret ((one (r1L (tLs tP))).enc (Da3 x y),[])))
theorem Dd5:g9 prog G 39 Lc7:=hb8 (bd b39 ud6) (one (r1L (tLs tP))) (o:=fb8) λx y=>v7 (by kernel_rfl)
noncomputable def Yd5:List (Nat×Sum):=[(16,Ac3)]
theorem Dd6:i9 prog G Yd5:=⟨Wc3,trivial⟩
noncomputable def rb4(x:List Int):Option (b7×List b8):=let t1:=(qa1 (lsL tI ((if 40<(↑(List.length x):Int) then 40 else (↑(List.length x):Int)).toNat-0) (λk=>(λk=>(tI).row (gL tI x k)) (0+k))));(sl (inB (if 40<(↑(List.length x):Int) then 40 else (↑(List.length x):Int)) ((List.length x)+1)) (sl (okL tI ((if 40<(↑(List.length x):Int) then 40 else (↑(List.length x):Int)).toNat-0) (λk=>(λk=>(tI).row (gL tI x k)) (0+k))) (sl (Db5 (lsL tI ((if 40<(↑(List.length x):Int) then 40 else (↑(List.length x):Int)).toNat-0) (λk=>(λk=>(tI).row (gL tI x k)) (0+k)))) (some (eL tP t1,[])) none) none) none)
noncomputable def Ma9(x:List Int):List Pln:=J8 (one (r1L tP)) (rb4 x)
noncomputable def Kb7(x:List Int):Bool:=okO (one (r1L tP)) (rb4 x)
noncomputable def Xc4:Sum:=X6 (O3 tI) (λx=>.guard (Kb7 x) (.ret ((one (r1L tP)).enc (Ma9 x),[])))
theorem Yd6:g9 prog G 38 Xc4:=Ia9 (bd b38 Dd6) (one (r1L tP)) (o:=rb4) λx=>v7 (by kernel_rfl)
noncomputable def dc7:List (Nat×Sum):=[(40,nb4),(101,rd5),(23,pd9)]
theorem Tc2:i9 prog G dc7:=⟨Fb4,le9,ke3,trivial⟩
structure Ba4 where
 (vd3 Bc7:List (List Pln))
 Ed0:Int
structure Q6 where
 Sa1:Int
noncomputable def Kb8(p:Ba4)(s:Q6):St:=⟨.unk::.unk::eL (tLs tP) p.vd3::ra 4 (eL (tLs tP) p.Bc7::ra 18 (i p.Ed0::i s.Sa1::ra 14 [])),[]⟩
noncomputable def ra0{α:Type}(k:Q6->α)(e:Nat->α)(z:α)(p:Ba4)(s:Q6):α:=let t1:=(Ac9 (rt tP (gL (tLs tP) p.vd3 s.Sa1.toNat)));let t2:=(Yb4 (rt tP (gL (tLs tP) p.Bc7 s.Sa1.toNat)) (rt tP t1));(sl (decide (s.Sa1<p.Ed0)) (sl (inB s.Sa1 (List.length p.Bc7)) (sl (inB s.Sa1 (List.length p.vd3)) (sl (okE tP (gL (tLs tP) p.vd3 s.Sa1.toNat)) (sl (Bc0 (rt tP (gL (tLs tP) p.vd3 s.Sa1.toNat))) (sl (okE tP (gL (tLs tP) p.Bc7 s.Sa1.toNat)) (sl (okE tP t1) (sl (Yb5 (rt tP (gL (tLs tP) p.Bc7 s.Sa1.toNat)) (rt tP t1)) (sl (!t2) (e 1) (k ⟨W (s.Sa1+1)⟩)) z) z) z) z) z) z) z) (e 2))
noncomputable def va9(p:Ba4)(s:Q6):Stp Q6:=ra0 .next .exit .fail p s
noncomputable def lb7:Lo Ba4 Q6:=⟨En dc7,0,Vf8,[1,1,1,0,1,4,4],[2,7,26,27],.p,[⟨sUq::sUq::.s (.c 1 (nL (tLs tP)))::ru2 4 (.s (.c 1 (nL (tLs tP)))::ru2 18 (sIq::sIq::ru2 14 [])),[],λa H=>(⟨rL (tLs tP) (slT a 2),rL (tLs tP) (slT a 7),aIq a 26⟩,⟨aIq a 27⟩)⟩],va9,[(none,λp s=>⟨[b false],[]⟩),(some 0,λp s=>upq (Kb8 p s) [(28,b (decide (s.Sa1<p.Ed0)))])],Kb8⟩
theorem Lc8:lb7.Ok:=Lo.ok [] (by kernel_rfl) .nil rfl (.cons (λa H=>by kernel_rfl) .nil) λp s=>(.of @ra0 (λF _ _ _ _ _=>by unfold ra0;(repeat' apply l6 (f:=F))<;>rfl) (by kernel_rfl))
noncomputable def Na0(x:List Pln)(y:List (List Pln))(z:List (List Pln)):Option (b7×List b8):=let t1:=(Va1 (rt tP x) (rt (tLs tP) y));let t2:=(lp (va9 (⟨rt (tLs tP) z,rt (tLs tP) t1.1,(↑(List.length z):Int)⟩:Ba4)) (⟨0⟩:Q6));(sl (okE tP x) (sl (okE (tLs tP) y) (sl (Va2 (rt tP x) (rt (tLs tP) y)) (sl (t1.2 != 0) (some (b false,[])) (sl ((↑(List.length t1.1):Int) != (↑(List.length z):Int)) (some (b false,[])) (sl ((cnE (tLs tP) z)&&((cnE (tLs tP) t1.1)&&true)) (sl (Nat.beq t2.1 1) (some (b false,[])) (sl (Nat.beq t2.1 2) (some (b true,[])) none)) none))) none) none) none)
noncomputable def ra1(x:List Pln)(y:List (List Pln))(z:List (List Pln)):Bool:=J8 (one r1B) (Na0 x y z)
noncomputable def ra2(x:List Pln)(y:List (List Pln))(z:List (List Pln)):Bool:=okO (one r1B) (Na0 x y z)
noncomputable def oc4:Sum:=yc1 (O3 tP) (O3 (tLs tP)) (O3 (tLs tP)) (λx y z=>.guard (ra2 x y z) (.ret ((one r1B).enc (ra1 x y z),[])))
theorem cd2:g9 prog G 94 oc4:=Le8 (bd b94 Tc2) (one r1B) (o:=Na0) λx y z=>ta7 (.s .p (.s .p (.s .p (.s (.s .p (.b (.u lb7.ls))) .p)))) [lb7.pr] (by kernel_rfl) (.cons Lc8 .nil) (by kernel_rfl)
noncomputable def cd3:List (Nat×Sum):=[(42,Fb5)]
theorem Tc3:i9 prog G cd3:=⟨dc4,trivial⟩
noncomputable def Na1(x:List (List Pln))(y:List Pln)(z:Bool):Option (b7×List b8):=let t1:=(ia2 (rt (tLs tP) x) (rt tP y));(sl (okE (tLs tP) x) (sl (okE tP y) (sl (Ma7 (rt (tLs tP) x) (rt tP y)) (sl (t1.2==0) (some (b (t1.1==z),[])) (some (b false,[]))) none) none) none)
noncomputable def Na2(x:List (List Pln))(y:List Pln)(z:Bool):Bool:=J8 (one r1B) (Na1 x y z)
noncomputable def ra3(x:List (List Pln))(y:List Pln)(z:Bool):Bool:=okO (one r1B) (Na1 x y z)
noncomputable def oc5:Sum:=yc1 (O3 (tLs tP)) (O3 tP) cB (λx y z=>.guard (ra3 x y z) (.ret ((one r1B).enc (Na2 x y z),[])))
theorem cd4:g9 prog G 54 oc5:=Le8 (bd b54 Tc3) (one r1B) (o:=Na1) λx y z=>v7 (by kernel_rfl)
noncomputable def Dd7:List (Nat×Sum):=[(47,Lc5)]
theorem ud7:i9 prog G Dd7:=⟨Dd0,trivial⟩
noncomputable def fb9(x:List (List Pln))(y:List (List Pln))(z:Bool):Option (b7×List b8):=let t1:=(yb1 (rt (tLs tP) x) (rt (tLs tP) y));(sl (okE (tLs tP) x) (sl (okE (tLs tP) y) (sl (yb2 (rt (tLs tP) x) (rt (tLs tP) y)) (sl (t1.2==0) (some (b (t1.1==z),[])) (some (b false,[]))) none) none) none)
noncomputable def gb0(x:List (List Pln))(y:List (List Pln))(z:Bool):Bool:=J8 (one r1B) (fb9 x y z)
noncomputable def Q7(x:List (List Pln))(y:List (List Pln))(z:Bool):Bool:=okO (one r1B) (fb9 x y z)
noncomputable def Lc9:Sum:=yc1 (O3 (tLs tP)) (O3 (tLs tP)) cB (λx y z=>.guard (Q7 x y z) (.ret ((one r1B).enc (gb0 x y z),[])))
theorem Dd8:g9 prog G 53 Lc9:=Le8 (bd b53 ud7) (one r1B) (o:=fb9) λx y z=>v7 (by kernel_rfl)
noncomputable def cd5:List (Nat×Sum):=[(93,Xc3),(94,oc4),(54,oc5),(45,vc9),(53,Lc9),(49,nb3)]
theorem Tc4:i9 prog G cd5:=⟨Yd4,cd2,cd4,ud0,Dd8,Fb3,trivial⟩
noncomputable def Na3  : Option (b7×List b8):=let t1:=(P0 0 0 0 1 1 1);let t2:=(P0 1 0 0 2 1 1);let t3:=(P0 0 0 0 2 1 1);let t4:=(P0 1 0 0 3 1 1);let t5:=(ra1 (rt tP t3) [rt tP t4] [rt tP t1]);let t6:=(P0 0 0 0 3 1 1);let t7:=(P0 2 0 0 3 1 1);let t8:=(ra1 (rt tP t6) [rt tP t2] [rt tP t1,rt tP t7]);let t9:=(ra1 (rt tP t1) [] [rt tP t1]);let t10:=(ra1 (rt tP t1) [rt tP t2] [rt tP t1]);let t11:=(Na2 [rt tP t1,rt tP t2] (rt tP t3) true);let t12:=(Na2 [rt tP t1] (rt tP t3) false);let t13:=(P0 0 1 0 1 2 1);let t14:=(nb5 (rt tP t1) [rt tP t2,rt tP t13]);let t15:=(gb0 [rt tP t3] [rt tP t1,rt tP t2] true);let t16:=(gb0 [rt tP t3] [rt tP t2] false);let t17:=(Y1 [[],[],[],[],[],[],[],[],[],[],[],[],[],[],[],[],[]]);let t18:=(Y1 [[(⟨(⟨2,0,0⟩:V3),1⟩:Pln)]]);let a0:=((okE tP t1)&&((okE tP t2)&&true));let a1:=((okE tP t2)&&((okE tP t13)&&true));let w0:Option (b7×List b8):=(sl a0 (sl (okE tP t3) (sl (ra3 [rt tP t1,rt tP t2] (rt tP t3) true) (sl t11 (sl ((okE tP t1)&&true) (sl (okE tP t3) (sl (ra3 [rt tP t1] (rt tP t3) false) (sl t12 (sl (M2 0 1 0 1 2 1) (sl (okE tP t1) (sl a1 (sl (Va4 (rt tP t1) [rt tP t2,rt tP t13]) (sl ((okE tP t3)&&true) (sl a0 (sl (Q7 [rt tP t3] [rt tP t1,rt tP t2] true) (sl t15 (sl ((okE tP t3)&&true) (sl ((okE tP t2)&&true) (sl (Q7 [rt tP t3] [rt tP t2] false) (some (b false,[])) none) none) none) (some (b false,[]))) none) none) none) none) none) none) none) (sl ((okE tP t3)&&true) (sl a0 (sl (Q7 [rt tP t3] [rt tP t1,rt tP t2] true) (sl t15 (sl ((okE tP t3)&&true) (sl ((okE tP t2)&&true) (sl (Q7 [rt tP t3] [rt tP t2] false) (some (b false,[])) none) none) none) (some (b false,[]))) none) none) none)) none) none) none) (sl ((okE tP t3)&&true) (sl a0 (sl (Q7 [rt tP t3] [rt tP t1,rt tP t2] true) (sl t15 (sl ((okE tP t3)&&true) (sl ((okE tP t2)&&true) (sl (Q7 [rt tP t3] [rt tP t2] false) (some (b false,[])) none) none) none) (some (b false,[]))) none) none) none)) none) none) none);let w1:Option (b7×List b8):=(sl ((okE tP t3)&&true) (sl a0 (sl (Q7 [rt tP t3] [rt tP t1,rt tP t2] true) (sl t15 (sl ((okE tP t3)&&true) (sl ((okE tP t2)&&true) (sl (Q7 [rt tP t3] [rt tP t2] false) (sl t10 (some (b false,[])) (some (b false,[]))) none) none) none) (sl t10 (some (b false,[])) (some (b false,[])))) none) none) none);(sl (M2 0 0 0 1 1 1) (sl (M2 1 0 0 2 1 1) (sl (M2 0 0 0 2 1 1) (sl (M2 1 0 0 3 1 1) (sl (okE tP t3) (sl ((okE tP t4)&&true) (sl ((okE tP t1)&&true) (sl (ra2 (rt tP t3) [rt tP t4] [rt tP t1]) (sl t5 (sl (M2 0 0 0 3 1 1) (sl (M2 2 0 0 3 1 1) (sl (okE tP t6) (sl ((okE tP t2)&&true) (sl ((okE tP t1)&&((okE tP t7)&&true)) (sl (ra2 (rt tP t6) [rt tP t2] [rt tP t1,rt tP t7]) (sl t8 (sl (okE tP t1) (sl ((okE tP t1)&&true) (sl (ra2 (rt tP t1) [] [rt tP t1]) (sl t9 (sl (okE tP t1) (sl ((okE tP t2)&&true) (sl ((okE tP t1)&&true) (sl (ra2 (rt tP t1) [rt tP t2] [rt tP t1]) (sl a0 (sl (okE tP t3) (sl (ra3 [rt tP t1,rt tP t2] (rt tP t3) true) (sl t11 (sl ((okE tP t1)&&true) (sl (okE tP t3) (sl (ra3 [rt tP t1] (rt tP t3) false) (sl t12 (sl (M2 0 1 0 1 2 1) (sl (okE tP t1) (sl a1 (sl (Va4 (rt tP t1) [rt tP t2,rt tP t13]) (sl ((okE tP t3)&&true) (sl a0 (sl (Q7 [rt tP t3] [rt tP t1,rt tP t2] true) (sl t15 (sl ((okE tP t3)&&true) (sl ((okE tP t2)&&true) (sl (Q7 [rt tP t3] [rt tP t2] false) (sl t10 (sl t14 (sl t16 (sl (Y2 [[],[],[],[],[],[],[],[],[],[],[],[],[],[],[],[],[]]) (sl (t17==2) (sl (Y2 [[(⟨(⟨2,0,0⟩:V3),1⟩:Pln)]]) (some (b (t18==12),[])) none) (some (b false,[]))) none) (some (b false,[]))) (some (b false,[]))) (some (b false,[]))) none) none) none) (sl t10 (sl t14 (some (b false,[])) (some (b false,[]))) (some (b false,[])))) none) none) none) none) none) none) none) w1) none) none) none) w1) none) none) none) none) none) none) none) w0) none) none) none) w0) none) none) none) none) none) none) w0) none) none) none) none) none) none) none) none)
noncomputable def gb1  : Bool:=J8 (one r1B) Na3
noncomputable def gb2  : Bool:=okO (one r1B) Na3
noncomputable def oc6:Sum:=te5  (.guard gb2 (.ret ((one r1B).enc gb1,[])))
theorem cd6:g9 prog G 37 oc6:=dg9 (bd b37 Tc4) (one r1B) (o:=Na3) (v7 (by kernel_rfl))
noncomputable def dc8:List (Nat×Sum):=[(88,Kc9)]
theorem Tc5:i9 prog G dc8:=⟨Cd9,trivial⟩
structure Ba5 where
 Md6:List Pln
 (is8 f0 b9 f7:Int)
structure Q8 where
 is9:Int
noncomputable def Kb9(p:Ba5)(s:Q8):St:=⟨ra 3 (.ptr 0 0 0 0::ra 3 (eL tP p.Md6::i p.is8::i s.is9::ra 8 [])),[⟨0,3,[[i p.f0,i p.b9,i p.f7]],true,false,0⟩]⟩
noncomputable def ra4{α:Type}(k:Q8->α)(e:Nat->α)(z:α)(p:Ba5)(s:Q8):α:=let t1:=(xb8 (gL tP p.Md6 s.is9.toNat) (⟨p.f0,p.b9,p.f7⟩:V3));(sl (decide (s.is9<p.is8)) (sl (inB s.is9 (List.length p.Md6)) (sl (xb9 (gL tP p.Md6 s.is9.toNat) (⟨p.f0,p.b9,p.f7⟩:V3)) (sl (decide (t1>=0)) (e 1) (k ⟨W (s.is9+1)⟩)) z) z) (e 2))
noncomputable def wa0(p:Ba5)(s:Q8):Stp Q8:=ra4 .next .exit .fail p s
noncomputable def lb8:Lo Ba5 Q8:=⟨En dc8,0,Vf7,[1,0,1,4,4],[3,7,8,9],.p,[⟨ru2 3 (sPq 0::ru2 3 (sLq tP::sIq::sIq::ru2 8 [])),[⟨0,3,true,some [kLq 3]⟩],λa H=>(⟨aLq tP a 7,aIq a 8,hIq H 0 0 0,hIq H 0 0 1,hIq H 0 0 2⟩,⟨aIq a 9⟩)⟩],wa0,[(none,λp s=>⟨[b false],[]⟩),(some 0,λp s=>upq (Kb9 p s) [(10,b (decide (s.is9<p.is8)))])],Kb9⟩
theorem Mc0:lb8.Ok:=Lo.ok [] (by kernel_rfl) .nil rfl (.cons (λa H=>by kernel_rfl) .nil) λp s=>(.of @ra4 (λF _ _ _ _ _=>by unfold ra4;(repeat' apply l6 (f:=F))<;>rfl) (by kernel_rfl))
noncomputable def Na4(x:List Pln)(y:V3):Option (b7×List b8):=let t1:=(lp (wa0 (⟨rt tP x,(↑(List.length x):Int),y.x,y.y,y.z⟩:Ba5)) (⟨0⟩:Q8));(sl ((cnE tP x)&&true) (sl (Nat.beq t1.1 1) (some (b false,[])) (sl (Nat.beq t1.1 2) (some (b true,[])) none)) none)
noncomputable def Na5(x:List Pln)(y:V3):Bool:=J8 (one r1B) (Na4 x y)
noncomputable def Na6(x:List Pln)(y:V3):Bool:=okO (one r1B) (Na4 x y)
noncomputable def oc7:Sum:=oa5 (O3 tP) (ba6 tV) (λx y=>.guard (Na6 x y) (.ret ((one r1B).enc (Na5 x y),[])))
theorem cd7:g9 prog G 59 oc7:=hb8 (bd b59 Tc5) (one r1B) (o:=Na4) λx y=>ta7 (.s .p (.s (.s .p (.b (.u lb8.ls))) .p)) [lb8.pr] (by kernel_rfl) (.cons Mc0 .nil) (by kernel_rfl)
structure Mc(c:List Pln):Prop where
 g:sd2 c
 l:c.length<=12
theorem Cf2{l:List V3}(h:Rc8 l=0)(h8:l.length<=8):Mc (F0 l):=by
 obtain⟨h1,h2⟩:=Pe4 h
 have:=Rf7 h1 h2
 have k:2*(l.length-2)<=12:=by omega
 exact⟨⟨by omega,λp hp=>(jf4 hp).ok,zf9 h1 h2⟩,by omega⟩
theorem He6(x:List Int):Rd (one (r1L tP)) (Db4 x) Mc:=by
 obtain⟨v1,j1,e1,a1,b1,c1,d1⟩:=va1 4 x 0 (by omega) (by omega) (by omega) (by omega)
 obtain⟨w1,w2,w3,j2,e2,p1,p2,p3,c2,d2⟩:=mc2 6 x j1 (by omega) (by omega) (by omega) (by omega)
 obtain⟨v3,j3,e3,a3,b3,c3,d3⟩:=va1 6 x j2 (by omega) (by omega) (by omega) (by omega)
 obtain⟨v4,j4,e4,a4,b4,c4,d4⟩:=va1 6 x j3 (by omega) (by omega) (by omega) (by omega)
 obtain⟨v5,j5,e5,a5,b5,c5,d5⟩:=va1 6 x j4 (by omega) (by omega) (by omega) (by omega)
 have hin:inB (if 7<(x.length:Int) then 7 else (x.length:Int)) (x.length+1)=true:=by
  rw[Qd5];apply decide_eq_true
  split<;>omega
 have hok:∀n m,okL tI n (λk=>(λk=>tI.row (gL tI x k)) (m+k))=true:=λn m=>jb2 tI (f:=λk=>gL tI x (m+k)) λ_ _=>rfl
 unfold Db4;simp only[g8,i7,o5,e1,e2,e3,e4,e5,Hf4,Hf5,hin,hok,Qb0,xf9,ff0,Qlo,Bool.and_true,g7];generalize hL:lsL tI _ _=L;have hg:sd2 (Ad3 ⟨w1,w2,w3⟩ ⟨W (W (w1+1)+v3),W (W (w2+1)+v4),W (W (w3+1)+v5)⟩):=by
  obtain⟨q1,q2⟩:=p1;obtain⟨q3,q4⟩:=p2;obtain⟨q5,q6⟩:=p3;have i1:W (W (w1+1)+v3)=w1+1+v3:=by rw[ka3 (n:=w1+1) (by omega) (by omega),ka3 (by omega) (by omega)]
  have i2:W (W (w2+1)+v4)=w2+1+v4:=by rw[ka3 (n:=w2+1) (by omega) (by omega),ka3 (by omega) (by omega)]
  have i3:W (W (w3+1)+v5)=w3+1+v5:=by rw[ka3 (n:=w3+1) (by omega) (by omega),ka3 (by omega) (by omega)]
  rw[i1,i2,i3];refine jf6 ⟨⟨?_,?_⟩,⟨?_,?_⟩,?_,?_⟩ ⟨⟨?_,?_⟩,⟨?_,?_⟩,?_,?_⟩ ⟨?_,?_,?_⟩<;>simp only<;>omega
 have hB6:(Ad3 ⟨w1,w2,w3⟩ ⟨W (W (w1+1)+v3),W (W (w2+1)+v4),W (W (w3+1)+v5)⟩).length=6:=rfl;generalize hB:Ad3 _ _=B at *
 have hl6:len (bL tP B)=6:=by rw[U9,hB6]
 have ea:app [] (bL tP B)=bL tP B:=rfl;have es:∀q:Pln,slR tP (bL tP (B++[q])) 0 (0+6+1)=B++[q]:=λq=>by
  have:=hc9 tP (B++[q])
  rw[Qla,hB6] at this;exact this
 have eo:∀q:Pln,okS tP (bL tP (B++[q])) 0 (0+6+1)=true:=λq=>by
  have:=ic0 tP (B++[q])
  rw[Qla,hB6] at this;exact this
 have hlen:∀q:Pln,(B++[q]).length<=1000000000:=λq=>by rw[Qla,hB6];exact (by decide:6+1<=1000000000)
 have gF:∀q:Pln,Xa8 (B++[q])=true:=λq=>Ee2 (hlen q)
 have pF:∀q:Pln,Xa7 (B++[q])=ful (B++[q]):=λq=>Ee1 (hlen q)
 have q1:Nat.ble ((0+6)*32) room=true:=fa4 (by omega)
 have q2:Nat.ble (((0+6)+1)*32) room=true:=fa4 (by omega)
 have q3:Nat.beq (0+6) 6=true:=rfl;have hp:=ff1 L;have gf:Jb9 (ma5 L)=true:=yf4 _ (by omega)
 simp only[hl6,ea,Ic9,es,eo,gF,pF,q1,q2,q3,Qlc,gf,jf0 (ma5 L) (by omega),g7,show Nat.beq 6 0=false from rfl,J7]
 have box:Rd (one (r1L tP)) (some (eL tP B,[])) Mc:=ff2 ⟨hg,by rw[hB6];decide⟩
 have fcs:(Sc0 (ma5 L)).2==0->Rd (one (r1L tP)) (some (eL tP (Sc0 (ma5 L)).1,[])) Mc:=λh=>ff2 (by
  unfold Sc0 at h ⊢;by_cases h0:Rc8 (ma5 L)=0
  ·rw[if_pos h0];exact Cf2 h0 hp.2
  ·rw[if_neg h0] at h;exact absurd (by simpa using h) h0)
 have hcut:ful (B++[Db2 L])=true->Mc (B++[Db2 L]):=λhf=>⟨
  ⟨by rw[Qla,hB6];exact (by decide:6+1<=47),λp h=>by
   rcases Qlx.1 h with h|h
   ·exact hg.v p h
   ·rw[Qlj.1 h];exact Af0 L,(rd9 hf).2.2⟩,by rw[Qla,hB6];exact (by decide:6+1<=12)⟩
 exact Rd.sl (λ_=>Rd.sl (λhf=>Ud7 (by rw[Qla,hB6];rfl) rfl (hcut hf)) λ_=>Rd.sl (λ_=>Rd.sl (λh=>fcs h) λ_=>box) λ_=>box) λ_=>Rd.sl (λ_=>Rd.sl (λh=>fcs h) λ_=>box) λ_=>box
theorem Md0(x:List Int):Mc (qa1 x):=(He6 x).p
theorem Md1(x:List Int):Db5 x=true:=(He6 x).g
theorem Sf0(x:List Int):inB (if 40<(x.length:Int) then 40 else (x.length:Int)) (x.length+1)=true:=by
 rw[Qd5];apply decide_eq_true
 split<;>omega
theorem nf6(x:List Int):∃L,rb4 x=some (eL tP (qa1 L),[]):=by
 unfold rb4;rw[Sf0 x,jb2 tI (f:=λk=>gL tI x (0+k)) λ_ _=>rfl]
 simp only[g8,Md1,g7];exact⟨_,rfl⟩
theorem cg8(x:List Int):Mc (Ma9 x):=by
 obtain⟨L,h⟩:=nf6 x;unfold Ma9;rw[h,Ga6 (one (r1L tP)) (uc8 tP (qa1 L))];exact Md0 L
theorem cg9(x:List Int):Kb7 x=true:=by
 obtain⟨L,h⟩:=nf6 x;unfold Kb7;rw[h];exact Ta9 _ (uc8 tP (qa1 L))
def phA(R:List (List b7)):Nat:=match R with
 |[]=>0
 |_::_=>1
theorem Cf3(R:List (List b7))(r:List b7):phA (R++[r])=1:=by cases R<;>rfl
theorem dg0(R:List (List b7))(h:R.length<=1000000):(Nat.beq R.length (len R)&&Nat.ble ((R.length+1)*24) room)=true:=by
 rw[o0,Qlo,Qlal];exact Qlak (by unfold room;omega)
structure RI(y:Nat)(t:Nat)(s:E1):Prop where
 t:t=phA s.eh0*2+1\/t=phA s.eh0*2+2
 n:s.ns5=s.eh0.length
 y:s.eh0.length<=y
 r:∀r∈s.eh0,(tLs tI).ok r=true
theorem ze4(x:List (List Int))(y:Nat)(hy:y<=1000000):∃t s,lp (V9 ⟨x,(y:Int)⟩) ⟨0,0,0,[]⟩=(t,s)/\RI y t s:=by
 refine S3 (step:=V9 ⟨x,(y:Int)⟩) (mk:=λj (R:List (List b7))=>(⟨phA R,(j:Int),R.length,R⟩:E1)) y
  (λj R=>j<=y/\R.length=j/\∀r∈R,(tLs tI).ok r=true) (RI y) (by omega) (λj R hj hi=>?_) (λj R hj hi=>?_) 0 [] ⟨Qle _,rfl,λr hr=>by cases hr⟩
 ·obtain⟨_,hl,hr⟩:=hi;have hn:W ((j:Int)+1)=((j+1:Nat):Int):=n8 hj (by omega)
  by_cases hx:j<x.length
  ·have h40:=Sf0 (gL (tLs tI) x j);have hok:(tLs tI).ok [(.tree 1 ((if 40<((gL (tLs tI) x j).length:Int) then 40 else ((gL (tLs tI) x j).length:Int)).toNat-0) (λk=>(λk=>tI.row (gL tI (gL (tLs tI) x j) k)) (0+k)))]=true:=by
    show Bool.and (Nat.beq 1 tI.es) (okL tI _ _)=true;rw[jb2 tI (f:=λk=>gL tI (gL (tLs tI) x j) (0+k)) λ_ _=>rfl]
    rfl
   cases R with
   |nil =>
    have e:V9 ⟨x,(y:Int)⟩ ⟨phA [],(j:Int),([]:List (List b7)).length,[]⟩=.next ⟨1,((j+1:Nat):Int),1,[[(.tree 1 ((if 40<((gL (tLs tI) x j).length:Int) then 40 else ((gL (tLs tI) x j).length:Int)).toNat-0) (λk=>(λk=>tI.row (gL tI (gL (tLs tI) x j) k)) (0+k)))]]⟩:=by
     show E4 Stp.next Stp.exit Stp.fail _ _=_;simp only[E4,Int.toNat_natCast,h40,hn,g7];rw[btD (f9 hx),btD (f9 hj),bt (e8 hx),bt (e8 hx)]
    rw[e];exact .nx ⟨[[_]],rfl,hj,by have:0=j:=hl;subst this;rfl,λr hr=>by rw[Qlj.1 hr];exact hok⟩
   |cons o os =>
    have e:V9 ⟨x,(y:Int)⟩ ⟨phA (o::os),(j:Int),(o::os).length,o::os⟩=.next ⟨1,((j+1:Nat):Int),(o::os).length+1,o::os++[[(.tree 1 ((if 40<((gL (tLs tI) x j).length:Int) then 40 else ((gL (tLs tI) x j).length:Int)).toNat-0) (λk=>(λk=>tI.row (gL tI (gL (tLs tI) x j) k)) (0+k)))]]⟩:=by
     show E5 Stp.next Stp.exit Stp.fail _ _=_;simp only[E5,Int.toNat_natCast,h40,hn,dg0 (o::os) (by omega),g7]
     rw[btD (f9 hx),btD (f9 hj),bt (e8 hx),bt (e8 hx),G9]
    rw[e];exact .nx ⟨_,by rw[Cf3,Qla];rfl,hj,by rw[Qla,hl];rfl,λr hr'=>by
     rcases Qlx.1 hr' with h|h
     ·exact hr r h
     ·rw[Qlj.1 h];exact hok⟩
  ·cases R with
   |nil =>
    have e:V9 ⟨x,(y:Int)⟩ ⟨phA [],(j:Int),([]:List (List b7)).length,[]⟩=.exit 2:=by
     show E4 Stp.next Stp.exit Stp.fail _ _=_;simp only[E4];rw[bfD (l7 hx)]
    rw[e];exact .ex ⟨.inr rfl,rfl,Qle _,hr⟩
   |cons o os =>
    have e:V9 ⟨x,(y:Int)⟩ ⟨phA (o::os),(j:Int),(o::os).length,o::os⟩=.exit 4:=by
     show E5 Stp.next Stp.exit Stp.fail _ _=_;simp only[E5];rw[bfD (l7 hx)]
    rw[e];exact .ex ⟨.inr rfl,rfl,by simp only;omega,hr⟩
 ·obtain⟨h1,hl,hr⟩:=hi;have hje:j=y:=by omega
  subst hje;by_cases hx:j<x.length
  ·cases R with
   |nil =>
    refine⟨1,?_,.inl rfl,rfl,Qle _,hr⟩;show E4 Stp.next Stp.exit Stp.fail _ _=_;simp only[E4];rw[btD (f9 hx),bfD (l7 (Qlg _))]
   |cons o os =>
    refine⟨3,?_,.inl rfl,rfl,by simp only;omega,hr⟩
    show E5 Stp.next Stp.exit Stp.fail _ _=_;simp only[E5];rw[btD (f9 hx),bfD (l7 (Qlg _))]
  ·cases R with
   |nil =>
    refine⟨2,?_,.inr rfl,rfl,Qle _,hr⟩;show E4 Stp.next Stp.exit Stp.fail _ _=_;simp only[E4];rw[bfD (l7 hx)]
   |cons o os =>
    refine⟨4,?_,.inr rfl,rfl,by simp only;omega,hr⟩
    show E5 Stp.next Stp.exit Stp.fail _ _=_;simp only[E5];rw[bfD (l7 hx)]
theorem nf7(x:List (List Int))(y:Nat)(hy:y<=1000000):Rd (one (r1L (tLs tI))) (Va5 x (y:Int)) (λr=>r.length<=y):=by
 obtain⟨t,s,h,hR⟩:=ze4 x y hy;unfold Va5;simp only[g8,i7,h,Qlc,g7];obtain⟨ht,hn,hl,hr⟩:=hR;cases hs:s.eh0 with
 |nil =>
  rw[hs] at ht
  rcases ht with rfl|rfl<;>exact⟨_,[],rfl,rfl,Qle _⟩
 |cons o os =>
  have hrd:(one (r1L (tLs tI))).rd (.sl 0 0 s.ns5 0,[⟨22,1,o::os,true,false,0⟩])=some (slR (tLs tI) (o::os) 0 s.ns5):=by
   show Bool.rec (motive:=λ_=>Option (List (List Int))) none (some (slR (tLs tI) (o::os) 0 s.ns5)) (Bool.and (Nat.beq 1 1) (okS (tLs tI) (o::os) 0 s.ns5))=_
   have:okS (tLs tI) (o::os) 0 s.ns5=true:=by
    unfold okS okL;rw[Qli];intro k hk;have hk:=Qlr.1 hk;rw[hn,hs] at hk;simp only[Qlp];have e:l9 (o::os) k=(o::os)[k]:=by unfold l9;rw[C5,Qlb hk]
    rw[e];exact hr _ (by rw[hs];exact List.getElem_mem hk)
   rw[this];rfl
  have hlen:(slR (tLs tI) (o::os) 0 s.ns5).length<=y:=by unfold slR;rw[Qd0,hn];exact hl
  rw[hs] at ht
  rcases ht with rfl|rfl<;>exact⟨_,_,rfl,hrd,hlen⟩
structure Ms(y:Nat)(s:List (List Pln)):Prop where
 n:s.length<=y
 c:∀c∈s,Mc c
structure RM(y:Nat)(t:Nat)(s:Q5):Prop where
 h:∃O,(t=phL O*2+1\/t=phL O*2+2)/\s.eh0=bL (tLs tP) O/\s.ns5=O.length/\Ms y O
theorem pe3(x:List (List Int))(y:Nat)(hy:y<=1000000):∃t s,lp (oa4 ⟨x,(y:Int)⟩) ⟨0,0,0,[]⟩=(t,s)/\RM y t s:=by
 refine S3 (step:=oa4 ⟨x,(y:Int)⟩) (mk:=λj (O:List (List Pln))=>(⟨phL O,(j:Int),O.length,bL (tLs tP) O⟩:Q5)) y
  (λj O=>j<=y/\O.length=j/\∀c∈O,Mc c) (RM y) (by omega) (λj O hj hi=>?_) (λj O hj hi=>?_) 0 [] ⟨Qle _,rfl,λr hr=>by cases hr⟩
 ·obtain⟨_,hl,hr⟩:=hi;have hn:W ((j:Int)+1)=((j+1:Nat):Int):=n8 hj (by omega)
  by_cases hx:j<x.length
  ·have hM:=Md0 (gL (tLs tI) x j);have gM:=Md1 (gL (tLs tI) x j);have hnew:∀c∈O++[qa1 (gL (tLs tI) x j)],Mc c:=λc hc=>by
    rcases Qlx.1 hc with h|h
    ·exact hr c h
    ·rw[Qlj.1 h];exact hM
   cases O with
   |nil =>
    have e:oa4 ⟨x,(y:Int)⟩ ⟨phL [],(j:Int),([]:List (List Pln)).length,bL (tLs tP) []⟩=.next ⟨1,((j+1:Nat):Int),1,[[eL tP (qa1 (gL (tLs tI) x j))]]⟩:=by
     show O8 Stp.next Stp.exit Stp.fail _ _=_;simp only[O8,Int.toNat_natCast,g8,o5,gM,hn,g7];rw[btD (f9 hx),btD (f9 hj),bt (e8 hx)]
    rw[e];exact .nx ⟨[_],rfl,hj,by have:0=j:=hl;subst this;rfl,hnew⟩
   |cons o os =>
    have e:oa4 ⟨x,(y:Int)⟩ ⟨phL (o::os),(j:Int),(o::os).length,bL (tLs tP) (o::os)⟩=.next ⟨1,((j+1:Nat):Int),(o::os).length+1,bL (tLs tP) (o::os++[qa1 (gL (tLs tI) x j)])⟩:=by
     show O9 Stp.next Stp.exit Stp.fail _ _=_;simp only[O9,Int.toNat_natCast,g8,o5,gM,hn,ze0 (o::os) (by omega),kf7,g7]
     rw[btD (f9 hx),btD (f9 hj),bt (e8 hx)]
    rw[e];exact .nx ⟨_,by rw[Xd6,Qla];rfl,hj,by rw[Qla,hl];rfl,hnew⟩
  ·cases O with
   |nil =>
    have e:oa4 ⟨x,(y:Int)⟩ ⟨phL [],(j:Int),([]:List (List Pln)).length,bL (tLs tP) []⟩=.exit 2:=by
     show O8 Stp.next Stp.exit Stp.fail _ _=_;simp only[O8];rw[bfD (l7 hx)]
    rw[e];exact .ex ⟨[],.inr rfl,rfl,rfl,Qle _,hr⟩
   |cons o os =>
    have e:oa4 ⟨x,(y:Int)⟩ ⟨phL (o::os),(j:Int),(o::os).length,bL (tLs tP) (o::os)⟩=.exit 4:=by
     show O9 Stp.next Stp.exit Stp.fail _ _=_;simp only[O9];rw[bfD (l7 hx)]
    rw[e];exact .ex ⟨o::os,.inr rfl,rfl,rfl,by omega,hr⟩
 ·obtain⟨h1,hl,hr⟩:=hi;have hje:j=y:=by omega
  subst hje;by_cases hx:j<x.length
  ·cases O with
   |nil =>
    refine⟨1,?_,[],.inl rfl,rfl,rfl,Qle _,hr⟩;show O8 Stp.next Stp.exit Stp.fail _ _=_;simp only[O8];rw[btD (f9 hx),bfD (l7 (Qlg _))]
   |cons o os =>
    refine⟨3,?_,o::os,.inl rfl,rfl,rfl,by omega,hr⟩
    show O9 Stp.next Stp.exit Stp.fail _ _=_;simp only[O9];rw[btD (f9 hx),bfD (l7 (Qlg _))]
  ·cases O with
   |nil =>
    refine⟨2,?_,[],.inr rfl,rfl,rfl,Qle _,hr⟩;show O8 Stp.next Stp.exit Stp.fail _ _=_;simp only[O8];rw[bfD (l7 hx)]
   |cons o os =>
    refine⟨4,?_,o::os,.inr rfl,rfl,rfl,by omega,hr⟩
    show O9 Stp.next Stp.exit Stp.fail _ _=_;simp only[O9];rw[bfD (l7 hx)]
theorem Re5(x:List (List Int))(y:Nat)(hy:y<=1000000):Rd (one (r1L (tLs tP))) (Gb1 x (y:Int)) (Ms y):=by
 obtain⟨t,s,h,O,ht,he,hn,hM⟩:=pe3 x y hy;unfold Gb1;simp only[g8,i7,h,he,hn,Qlc,g7];cases O with
 |nil=>rcases ht with rfl | rfl<;>exact⟨_,[],rfl,rfl,hM⟩
 |cons o os=>rcases ht with rfl | rfl<;>exact⟨_,o::os,rfl,xe3 (tLs tP) 24 (o::os),hM⟩
theorem pe4(x:List (List Int))(y:Nat)(hy:y<=1000000):Rd (one (r1L (tLs tP))) (fb8 x (y:Int)) (Ms y):=by
 have h1:=nf7 x y hy;have h2:=Re5 (nb6 x (y:Int)) y hy;unfold fb8;simp only[g8,o5,show Pb3 x (y:Int)=true from h1.g,show Bc5 (nb6 x (y:Int)) (y:Int)=true from h2.g,g7]
 exact⟨_,_,rfl,uc8 (tLs tP) _,h2.p⟩
theorem Cf4(x:List (List Int))(y:Nat)(hy:y<=1000000):Ms y (Da3 x (y:Int)):=(pe4 x y hy).p
theorem Cf5(x:List (List Int))(y:Nat)(hy:y<=1000000):yb3 x (y:Int)=true:=(pe4 x y hy).g
theorem Md2{x:List (List Pln)}{y:List Pln}{z:Bool}(hy:y.length<=1000000)(hn:x.length<=1000000)(hx:∀q∈x,q.length<=1000000):Na2 x y z=((B4 x y).2==0&&(B4 x y).1==z)/\ra3 x y z=true:=by
 have e:Na1 x y z=some (b ((B4 x y).2==0&&(B4 x y).1==z),[]):=by
  unfold Na1;simp only[g8,o5,Lc3 hy hn hx,oe8 hy hn hx,g7];cases (B4 x y).2==0<;>rfl
 unfold Na2 ra3;rw[e];exact⟨rfl,rfl⟩
theorem He7{x y:List (List Pln)}{z:Bool}(hx:x.length<=1000000)(hxl:∀q∈x,q.length<=1000000)(hy:y.length<=1000000)(hyl:∀q∈y,q.length<=1000000):gb0 x y z=((Tb7 x y).2==0&&(Tb7 x y).1==z)/\Q7 x y z=true:=by
 have e:fb9 x y z=some (b ((Tb7 x y).2==0&&(Tb7 x y).1==z),[]):=by
  unfold fb9;simp only[g8,o5,Bf6 hx hxl hy hyl,Bf7 hx hxl hy hyl,g7];cases (Tb7 x y).2==0<;>rfl
 unfold gb0 Q7;rw[e];exact⟨rfl,rfl⟩
theorem Tc6(x fs:List Pln):∀j,(B1 x fs j).length<=x.length+j
 |0=>by simp[B1]
 |j+1=>by
  have h1:=Tc6 x fs j;have h2:=eb8 (B1 x fs j++[gL tP fs j]);rw[Qla] at h2;simp only[List.length_singleton] at h2;show (lean (B1 x fs j++[gL tP fs j])).length<=_;omega
theorem Cf6{x fs:List Pln}(h:x.length+fs.length<=48):Ha6 x fs=true:=Qli.2 λj hj=>decide_eq_true (by
 have:=Qlr.1 hj
 have:=Tc6 x fs j
 omega)
theorem Cf7(x fs:List Pln)(j:Nat):(Pa2 x fs j).length<=x.length+j+1:=by
 have h1:=Tc6 x fs j;have h2:=eb8 (B1 x fs j++[V8 (gL tP fs j)]);rw[Qla] at h2;simp only[List.length_singleton] at h2;unfold Pa2;omega
structure Bnd(n m:Nat)(ps:List (List Pln)):Prop where
 n:ps.length<=n
 m:∀x∈ps,x.length<=m
theorem He8{q x:List Pln}{k m:Nat}(h1:1<=k)(hq:(lean q).length<=k)(hx:x.length<=m):(Ha7 q x).length<=k/\∀y∈Ha7 q x,y.length<=m+k:=by
 unfold Ha7;split
 ·exact⟨by simpa using h1,λy hy=>by rw[Qlj.1 hy];omega⟩
 ·refine⟨Qld (td6 _ _ _) hq,λy hy=>?_⟩
  obtain⟨j,hj,rfl,_⟩:=Tb5.1 hy
  have:=Cf7 x (lean q) j
  omega
theorem He9{q:List Pln}{k m:Nat}(h1:1<=k)(hq:(lean q).length<=k):∀ps:List (List Pln),(∀x∈ps,x.length<=m)->(ps.flatMap (Ha7 q)).length<=k*ps.length
 |[],_=>by simp
 |x::ps,h=>by
  have a:=He9 h1 hq ps λx hx=>h x (List.mem_cons_of_mem _ hx)
  have c:=(He8 (x:=x) h1 hq (h x (by simp))).1
  simp only[List.flatMap_cons,Qla,List.length_cons];rw[Nat.mul_add];omega
theorem oc8{ps:List (List Pln)}{q:List Pln}{n m k:Nat}(h:Bnd n m ps)(h1:1<=k)(hq:q.length<=k)(hk:m+k<=48)(hn:k*n<=200):∃r,F6 ps q=some r/\Bnd (k*n) (m+k) r:=by
 have hl:(lean q).length<=k:=Qld (eb8 q) hq;have hnn:n<=k*n:=Nat.le_mul_of_pos_left n h1;unfold F6;split
 ·have hf:=He9 h1 hl ps h.m;have hf2:k*ps.length<=k*n:=Nat.mul_le_mul_left k h.n;have hc:(ps.all (Za7 q)&&decide ((ps.flatMap (Ha7 q)).length<=200))=true:=by
   rw[Qlv];refine⟨Qli.2 λx hx=>?_,decide_eq_true (by omega)⟩
   unfold Za7;rw[Cf6 (by have:=h.m x hx;omega),Bool.or_true]
  rw[if_pos hc];refine⟨_,rfl,by omega,λy hy=>?_⟩
  obtain⟨x,hx,hy⟩:=List.mem_flatMap.1 hy;exact (He8 h1 hl (h.m x hx)).2 y hy
 ·exact⟨ps,rfl,Qld h.n hnn,λx hx=>by have:=h.m x hx;omega⟩
theorem Re6(c:List Pln):Bnd 1 c.length (if ful c then [lean c] else []):=by
 split
 ·exact⟨by simp,λx hx=>by rw[Qlj.1 hx];exact eb8 c⟩
 ·exact⟨by simp,λx hx=>by cases hx⟩
theorem Re7{c:List Pln}{s:List (List Pln)}(hc:c.length<=13)(hn:s.length<=2)(hs:∀q∈s,q.length<=12):∃r,qa9 c s=some r/\Bnd 144 37 r:=by
 have h0:Bnd 1 13 (if ful c then [lean c] else []):=by
  have:=Re6 c
  exact⟨this.n,λx hx=>Qld (this.m x hx) hc⟩
 unfold qa9
 match s,hn,hs with
 |[],_,_=>exact⟨_,rfl,Qld h0.n (by omega),λx hx=>Qld (h0.m x hx) (by omega)⟩
 |[a],_,hs =>
  obtain⟨r,e,h⟩:=oc8 (q:=a) h0 (k:=12) (by omega) (hs a (by simp)) (by omega) (by omega)
  exact⟨r,e,Qld h.n (by omega),λx hx=>Qld (h.m x hx) (by omega)⟩
 |[a,d],_,hs =>
  obtain⟨r,e,h⟩:=oc8 (q:=a) h0 (k:=12) (by omega) (hs a (by simp)) (by omega) (by omega)
  obtain⟨r2,e2,h2⟩:=oc8 (q:=d) h (k:=12) (by omega) (hs d (by simp)) (by omega) (by omega)
  refine⟨r2,?_,Qld h2.n (by omega),λx hx=>Qld (h2.m x hx) (by omega)⟩
  show (F6 _ a).bind (λps=>F6 ps d)=some r2
  rw[e];exact e2
 |_::_::_::_,hn,_=>simp at hn
def Cov(s:List (List Pln))(c:List Pln):Prop:=ful c=true->∀z,Inr (c++ws) z->∃q∈s,ful q=true/\Inr (q++ws) z
theorem Cov.mono{s t:List (List Pln)}{c:List Pln}(h:Cov s c)(hs:∀q∈s,q∈t):Cov t c:=λhf z hz=>by
 obtain⟨q,hq,h2⟩:=h hf z hz;exact⟨q,hs q hq,h2⟩
theorem fd3{s:List (List Pln)}(hn:s.length<=16)(hs:∀q∈s,(chk q==0)=true):schk s=0:=by
 unfold schk;rw[if_neg (by omega),Qlq.2 λq hq=>by have:=hs q hq;rw[beq_iff_eq] at this;simp[this]]
open Classical in
theorem ze5{s:List (List Pln)}{c:List Pln}{r:List (List Pln)}(hc:(chk c==0)=true)(hs:schk s=0)(hm:qa9 c s=some r):B4 s c=(decide (Cov s c),0)/\Ra9 c s=(r,0):=by
 have e:Ra9 c s=(r,0):=by
  unfold Ra9;rw[beq_iff_eq] at hc;rw[hc,hs,hm];rfl
 refine⟨?_,e⟩;unfold B4;rw[e];have k:(((r.length:Nat):Int)==0)=decide (Cov s c):=by
  rw[Bool.eq_iff_iff,beq_iff_eq,decide_eq_true_eq];cases hf:ful c with
  |true =>
   have:=Pe8 hf hm
   constructor
   ·intro h0 _;exact this.1 (Qlag.1 (by omega))
   ·intro h;rw[this.2 (h hf)];rfl
  |false =>
   rw[Ld4 hf] at hm;injection hm with hm;subst hm;exact⟨λ_ h=>(by rw[hf] at h;cases h),λ_=>rfl⟩
 rw[k];rfl
theorem Mc.chk{c:List Pln}(h:Mc c):(chk c==0)=true:=h.g.chk
theorem Mc.ful{c:List Pln}(h:Mc c):ful c=true:=h.g.ful
theorem Ms.schk{y:Nat}{s:List (List Pln)}(h:Ms y s)(hy:y<=16):schk s=0:=fd3 (Qld h.n hy) λq hq=>(h.c q hq).chk
structure Und(c U:List Pln)(n:Nat)(ps:List (List Pln)):Prop where
 n:ps.length<=n
 d:∀x∈ps,x.Nodup/\(∀p∈x,p∈U)/\ful x=true/\∀z,Inr (x++ws) z->Inr (c++ws) z
noncomputable def nf8(c:List Pln):List Pln:=if ful c then c.foldl (Ra4 (pts c)) [] else []
theorem Bc6:lean=nf8:=by
 funext c;unfold lean nf8;rw[me9]
section
variable(L:List Pln->List Pln)
noncomputable def pe5(x fs:List Pln):Nat->List Pln
 |0=>x
 |j+1=>L (pe5 x fs j++[gL tP fs j])
noncomputable def Sf1(x fs:List Pln)(j:Nat):List Pln:=L (pe5 L x fs j++[V8 (gL tP fs j)])
noncomputable def Sf2(x fs:List Pln)(j:Nat):List (List Pln):=((List.range j).map (Sf1 L x fs)).filter λc=>decide (0<c.length)
noncomputable def nf9(x fs:List Pln):Bool:=(List.range fs.length).all λj=>decide ((pe5 L x fs j).length<48)
noncomputable def Cf8(q x:List Pln):List (List Pln):=if apart x q then [x] else Sf2 L x (L q) (L q).length
noncomputable def ud8(ps:List (List Pln))(q:List Pln):Option (List (List Pln)) :=
 if ful q then (if ps.all (λx=>apart x q||nf9 L x (L q))&&decide ((ps.flatMap (Cf8 L q)).length<=200) then some (ps.flatMap (Cf8 L q)) else none) else some ps
noncomputable def of0(c:List Pln)(s:List (List Pln)):Option (List (List Pln)) :=
 s.foldl (λst q=>st.bind λps=>ud8 L ps q) (some (if ful c then [L c] else []))
end
theorem ud9(x fs:List Pln):∀j,pe5 lean x fs j=B1 x fs j
 |0=>rfl
 |j+1=>by
  show lean (pe5 lean x fs j++_)=lean (B1 x fs j++_);rw[ud9 x fs j]
theorem Cf9:Sf1 lean=Pa2:=by funext x fs j;unfold Sf1 Pa2;rw[ud9]
theorem Df0:Sf2 lean=Pa3:=by funext x fs j;unfold Sf2 Pa3;rw[Cf9]
theorem of1:nf9 lean=Ha6:=by funext x fs;unfold nf9 Ha6;simp only[ud9]
theorem Df1:Cf8 lean=Ha7:=by funext q x;unfold Cf8 Ha7;rw[Df0]
theorem pe6:ud8 lean=F6:=by
 funext ps q;unfold ud8 F6;rw[Df1,of1];rfl
theorem Pa4:qa9=of0 nf8:=by
 funext c s;rw[<- Bc6];unfold qa9 of0;rw[pe6]
noncomputable def bx(x y z u v w:Int):List Pln:=[⟨⟨1,0,0⟩,u⟩,⟨⟨-1,0,0⟩,-x⟩,⟨⟨0,1,0⟩,v⟩,⟨⟨0,-1,0⟩,-y⟩,⟨⟨0,0,1⟩,w⟩,⟨⟨0,0,-1⟩,-z⟩]
theorem ex1:qa9 (bx 0 0 0 2 1 1) [bx 1 0 0 3 1 1]=some [lean (bx 0 0 0 1 1 1)]:=by rw[Pa4,Bc6];kernel_rfl
theorem ex2:qa9 (bx 0 0 0 3 1 1) [bx 1 0 0 2 1 1]=some [lean (bx 0 0 0 1 1 1),lean (bx 2 0 0 3 1 1)]:=by rw[Pa4,Bc6];kernel_rfl
theorem ex3:qa9 (bx 0 0 0 1 1 1) []=some [lean (bx 0 0 0 1 1 1)]:=by rw[Pa4,Bc6];kernel_rfl
theorem ex4:qa9 (bx 0 0 0 1 1 1) [bx 1 0 0 2 1 1]=some [lean (bx 0 0 0 1 1 1)]:=by rw[Pa4,Bc6];kernel_rfl
theorem ex5:qa9 (bx 0 0 0 2 1 1) [bx 0 0 0 1 1 1,bx 1 0 0 2 1 1]=some []:=by rw[Pa4];kernel_rfl
theorem ex6:qa9 (bx 0 0 0 2 1 1) [bx 0 0 0 1 1 1]=some [lean (bx 1 0 0 2 1 1)]:=by rw[Pa4,Bc6];kernel_rfl
theorem ex7:qa9 (bx 0 0 0 1 1 1) [bx 0 0 0 2 1 1]=some []:=by rw[Pa4];kernel_rfl
theorem ex8:qa9 (bx 1 0 0 2 1 1) [bx 0 0 0 2 1 1]=some []:=by rw[Pa4];kernel_rfl
theorem ex9:qa9 (bx 0 0 0 2 1 1) [bx 1 0 0 2 1 1]=some [lean (bx 0 0 0 1 1 1)]:=by rw[Pa4,Bc6];kernel_rfl
theorem exA:ac0 (bx 0 0 0 1 1 1) [bx 1 0 0 2 1 1,bx 0 1 0 1 2 1]=true:=by kernel_rfl
theorem exC:chk (bx 0 0 0 1 1 1)=0/\chk (bx 1 0 0 2 1 1)=0/\chk (bx 0 0 0 2 1 1)=0/\chk (bx 0 0 0 3 1 1)=0/\chk (bx 1 0 0 3 1 1)=0:=by refine⟨?_,?_,?_,?_,?_⟩<;>kernel_rfl
theorem bx1:(P0 0 0 0 1 1 1=bx 0 0 0 1 1 1/\M2 0 0 0 1 1 1=true)/\(P0 1 0 0 2 1 1=bx 1 0 0 2 1 1/\M2 1 0 0 2 1 1=true)/\(P0 0 0 0 2 1 1=bx 0 0 0 2 1 1/\M2 0 0 0 2 1 1=true):=by refine⟨⟨?_,?_⟩,⟨?_,?_⟩,?_,?_⟩<;>kernel_rfl
theorem bx2:(P0 1 0 0 3 1 1=bx 1 0 0 3 1 1/\M2 1 0 0 3 1 1=true)/\(P0 0 0 0 3 1 1=bx 0 0 0 3 1 1/\M2 0 0 0 3 1 1=true)/\(P0 2 0 0 3 1 1=bx 2 0 0 3 1 1/\M2 2 0 0 3 1 1=true)/\P0 0 1 0 1 2 1=bx 0 1 0 1 2 1/\M2 0 1 0 1 2 1=true:=by refine⟨⟨?_,?_⟩,⟨?_,?_⟩,⟨?_,?_⟩,?_,?_⟩<;>kernel_rfl
theorem Sa0(x y z u v w:Int):(bx x y z u v w).length=6:=rfl
theorem Lb0{x:List Pln}{y z:List (List Pln)}(hx:chk x=0)(hy:schk y=0)(hm:qa9 x y=some (z.map lean))(hz:∀c∈z,c.length<=1000)(hzn:z.length<=1000):ra1 x y z=true/\ra2 x y z=true:=by
 have hy':=Ld3 hy;have hyl:∀q∈y,q.length<=1000000:=λq hq=>by have:=ze1 (hy'.2 q hq);omega
 have hxl:=ze1 hx;have e:Ra9 x y=(z.map lean,0):=by unfold Ra9;rw[hx,hy,hm];rfl
 have h:=Xa3 (step:=va9 ⟨z,z.map lean,(z.length:Int)⟩) (mk:=λj=>(⟨(j:Int)⟩:Q6)) (c:=λ_=>false) (u:=1) (fin:=2) (tLs tP) z (by omega)
  (λj hj=>by
   have hc:=hz _ (ya6 (tLs tP) hj);have hll:=eb8 (gL (tLs tP) z j);have hg:gL (tLs tP) (z.map lean) j=lean (gL (tLs tP) z j):=by simp[gL,Qlf,Qlb hj]
   have hj2:j<(z.map lean).length:=by rw[List.length_map];exact hj
   have s1:=Of7 (lean (gL (tLs tP) z j)) (by omega);have s2:=Of8 (lean (gL (tLs tP) z j)) (by omega)
   have r1:=zf2 (gL (tLs tP) z j) (by omega);have r2:=zf3 (gL (tLs tP) z j) (by omega)
   simp only[va9,ra0,Int.toNat_natCast,g8,o5,hg,r1,r2,s1,s2,n8 hj (show z.length<=4611686018427387904 by omega),g7,J7,Qlam]
   rw[btD (f9 hj),bt (e8 hj2),bt (e8 hj)])
  (by simp only[va9,ra0];rw[bfD (l7 (Qlg _))]) 0 (Qle _)
 rw[Qlaa,show (z.any λ_=>false)=false by simp] at h
 have eo:Na0 x y z=some (b true,[]):=by
  unfold Na0;simp only[g8,o5,i7,Xd8 (x:=x) (y:=y) (by omega) (by omega) hyl,Xd9 (x:=x) (y:=y) (by omega) (by omega) hyl,e,g7,Qlc]
  rw[show (⟨0⟩:Q6)=⟨((0:Nat):Int)⟩ from rfl,h]
  rw[show ((((z.map lean).length:Nat):Int) != (z.length:Int))=false by rw[List.length_map];simp]
  simp only[Qlm,if_false,J7,oe3,oe4,g7,show ((0:Int) != 0)=false from rfl]
 unfold ra1 ra2;rw[eo];exact⟨rfl,rfl⟩
theorem of2{s:List (List Pln)}{c:List Pln}{r:List (List Pln)}(hc:chk c=0)(hs:schk s=0)(hm:qa9 c s=some r):B4 s c=(((r.length:Nat):Int)==0,0):=by
 have e:Ra9 c s=(r,0):=by unfold Ra9;rw[hc,hs,hm];rfl
 unfold B4;rw[e];rfl
theorem Xc5:Na3=some (b true,[]):=by
 obtain⟨⟨a1,a2⟩,⟨a3,a4⟩,a5,a6⟩:=bx1;obtain⟨⟨c1,c2⟩,⟨c3,c4⟩,⟨c5,c6⟩,c7,c8⟩:=bx2;obtain⟨k1,k2,k3,k4,k5⟩:=exC;have s1:∀{a:List Pln},chk a=0->schk [a]=0:=λh=>fd3 (by simp) (by simpa using h)
 have s2:∀{a c:List Pln},chk a=0->chk c=0->schk [a,c]=0:=λh h'=>fd3 (by simp) (by simpa using ⟨h,h'⟩)
 have l1:=Lb0 (z:=[bx 0 0 0 1 1 1]) k3 (s1 k5) ex1 (by simp[Sa0]) (by simp)
 have l2:=Lb0 (z:=[bx 0 0 0 1 1 1,bx 2 0 0 3 1 1]) k4 (s1 k2) ex2 (by simp[Sa0]) (by simp)
 have l3:=Lb0 (z:=[bx 0 0 0 1 1 1]) k1 (fd3 (s:=[]) (by simp) (by simp)) ex3 (by simp[Sa0]) (by simp)
 have l4:=Lb0 (z:=[bx 0 0 0 1 1 1]) k1 (s1 k2) ex4 (by simp[Sa0]) (by simp)
 have m1:=Md2 (x:=[bx 0 0 0 1 1 1,bx 1 0 0 2 1 1]) (y:=bx 0 0 0 2 1 1) (z:=true) (by simp[Sa0]) (by simp) (by simp[Sa0])
 have m2:=Md2 (x:=[bx 0 0 0 1 1 1]) (y:=bx 0 0 0 2 1 1) (z:=false) (by simp[Sa0]) (by simp) (by simp[Sa0])
 have m3:=He7 (x:=[bx 0 0 0 2 1 1]) (y:=[bx 0 0 0 1 1 1,bx 1 0 0 2 1 1]) (z:=true) (by simp) (by simp[Sa0]) (by simp) (by simp[Sa0])
 have m4:=He7 (x:=[bx 0 0 0 2 1 1]) (y:=[bx 1 0 0 2 1 1]) (z:=false) (by simp) (by simp[Sa0]) (by simp) (by simp[Sa0])
 have q1:=of2 k3 (s2 k1 k2) ex5;have q2:=of2 k3 (s1 k1) ex6;have q3:=of2 k1 (s1 k3) ex7;have q4:=of2 k2 (s1 k3) ex8;have q5:=of2 k3 (s1 k2) ex9;have i1:inR [bx 0 0 0 2 1 1] [bx 0 0 0 1 1 1,bx 1 0 0 2 1 1]=(true,0):=Lc6 (by simp[q1])
 have i2:inR [bx 0 0 0 1 1 1,bx 1 0 0 2 1 1] [bx 0 0 0 2 1 1]=(true,0):=Lc6 (by simp[q3,q4])
 have i3:inR [bx 0 0 0 2 1 1] [bx 1 0 0 2 1 1]=(false,0):=by
  have q5':B4 [bx 1 0 0 2 1 1] (bx 0 0 0 2 1 1)=(false,0):=q5;unfold inR;rw[List.find?_cons_of_pos (by rw[q5'];rfl)]
  exact q5'
 have e1:Tb7 [bx 0 0 0 2 1 1] [bx 0 0 0 1 1 1,bx 1 0 0 2 1 1]=(true,0):=by unfold Tb7;rw[s1 k3,s2 k1 k2,i1,i2];rfl
 have e2:Tb7 [bx 0 0 0 2 1 1] [bx 1 0 0 2 1 1]=(false,0):=by unfold Tb7;rw[s1 k3,s1 k2,i3];rfl
 rw[q1] at m1;rw[q2] at m2;rw[e1] at m3;rw[e2] at m4;have z1:Y1 [[],[],[],[],[],[],[],[],[],[],[],[],[],[],[],[],[]]=2:=(oc0 (by simp) (by simp)).trans (by kernel_rfl)
 have z2:Y2 [[],[],[],[],[],[],[],[],[],[],[],[],[],[],[],[],[]]=true:=oc1 (by simp) (by simp)
 have z3:Y1 [[(⟨(⟨2,0,0⟩:V3),1⟩:Pln)]]=12:=(oc0 (by simp) (by simp)).trans (by kernel_rfl)
 have z4:Y2 [[(⟨(⟨2,0,0⟩:V3),1⟩:Pln)]]=true:=oc1 (by simp) (by simp)
 have t1:=lf0 (c:=bx 0 0 0 1 1 1) (s:=[bx 1 0 0 2 1 1,bx 0 1 0 1 2 1]) (by simp[Sa0]) (by simp) (by simp[Sa0])
 have t2:=lf1 (c:=bx 0 0 0 1 1 1) (s:=[bx 1 0 0 2 1 1,bx 0 1 0 1 2 1]) (by simp[Sa0]) (by simp) (by simp[Sa0])
 rw[exA] at t1;unfold Na3;simp only[a1,a2,a3,a4,a5,a6,c1,c2,c3,c4,c5,c6,c7,c8,g8,o5,Qlc,g7,l1.1,l1.2,l2.1,l2.2,l3.1,l3.2,l4.1,l4.2,m1.1,m1.2,m2.1,m2.2,m3.1,m3.2,m4.1,m4.2,z1,z2,z3,z4,t1,t2];rfl
theorem ze6:gb1=true:=by unfold gb1;rw[Xc5];rfl
theorem ze7:gb2=true:=by unfold gb2;rw[Xc5];rfl
structure pe7 where
 bs5:Bool
 L2:List Pln
 (Bc7 hb6 Pa6:List (List Pln))
 Ae0:Int
structure pe8 where
 Gb4:Int
structure pg8(own:List Pln)(s r:List (List Pln)):Prop where
 m:Ra9 own s=(r,0)
 n:r.length<=144
 l:∀x∈r,x.length<=37
 full:∀x∈r,ful x=true
 lies:∀x∈r,Ce.lies x own=true
 off:∀x∈r,ac0 x s=true
 dis:∀j,j<r.length->ac0 (gL (tLs tP) r j) (r.take j)=true
 all:(s++r).length<=16->B4 (s++r) own=(true,0)
 self:r.length<=16->(B4 r own).2=9\/((B4 r own).2=0/\(B4 r own).1=ac0 own s)
end Go.Ev.Ce
