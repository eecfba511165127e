/- Own work. -/
import Derived.Test.YtekgjjgbdcgldaaGreatEvOV1
import Derived.ChangeStays
import Derived.ChangeSame
import Derived.OpenShut
import Derived.RowKit
set_option linter.all false
def Qla:=@List.length_append
def Qlb:=@List.getElem?_eq_getElem
def Qlc:=@Bool.and_self
def Qld:=@Nat.le_trans
def Qle:=@Nat.zero_le
def Qlf:=@List.getD_eq_getElem?_getD
def Qlg:=@Nat.lt_irrefl
def Qlh:=@List.mem_singleton
def Qli:=@List.all_eq_true
def Qlj:=@List.mem_filter
def Qlk:=@List.countP_eq_length_filter
def Qll:=@Option.bind_eq_some_iff
def Qlm:=@Bool.false_eq_true
def Qln:=@List.mem_range
def Qlo:=@Classical.byContradiction
def Qlp:=@Int.mul_pos_of_neg_of_neg
def Qlq:=@List.mem_append
def Qlr:=@Nat.beq_refl
def Qls:=@Nat.zero_add
def Qlt:=@List.find?_eq_none
def Qlu:=@Int.mul_nonpos_of_nonneg_of_nonpos
def Qlv:=@List.findIdx_lt_length
def Qlw:=@List.mem_cons
def Qlx:=@Bool.and_eq_true
def Qly:=@List.length_eq_countP_add_countP
def Qlz:=@List.getElem?_range
def Qlaa:=@Bool.not_false
def Qlab:=@List.drop_zero
def Qlac:=@List.exists_cons_of_ne_nil
def Qlad:=@List.take_add_one
def Qlae:=@List.any_eq_false
def Qlaf:=@Int.mul_neg_of_pos_of_neg
def Qlag:=@List.any_eq_true
def Qlah:=@List.length_eq_zero_iff
def Qlai:=@List.append_nil
def Qlaj:=@Int.mul_eq_zero
def Qlak:=@Option.map_eq_some_iff
def Qlal:=@Nat.ble_eq_true_of_le
def Qlam:=@Bool.true_and
def Qlan:=@Bool.not_true
namespace Go.Ev.Ce
open Go Go.Ev Go.Ev.L Go.Proofs
theorem Ke8(ls:List (List Pln))(hn:ls.length<=1000000000)(hl:ls.flatten.length<=1000000000):u8 ls=if ls.flatten=[] then ⟨1,0,[]⟩ else ⟨2,ls.flatten.length,bL tP ls.flatten⟩:=by
 unfold u8 M1;simp only[i5,i8];obtain⟨m,hm⟩:=ee7 ls hn hl;rw[hm];by_cases h0:ls.flatten=[]
 ·obtain⟨s,hs⟩:=ye9 ls hn h0;rw[if_pos h0,hs];rw[show (⟨(ls.flatten.length:Int),m⟩:s9)=⟨0,m⟩ by rw[h0];rfl]
  rfl
 ·obtain⟨m',hm'⟩:=ee8 ls hn;rw[if_neg h0];simp only[Int.toNat_natCast];rw[hm'];have h1:0<ls.flatten.length:=List.length_pos_iff.2 h0;have e1:((ls.flatten.length:Int)==0)=false:=by rw[beq_eq_false_iff_ne];omega
  have e2:Bool.and (decide ((0:Int)<(ls.flatten.length:Int))) (Nat.ble (ls.flatten.length*32) room)=true:=by
   rw[fa0 (by omega),decide_eq_true (by omega)]
   rfl
  rw[e1,e2];rfl
theorem Ce1(r:List Pln)(p:Pln)(hr:r.length<=1000000):u8 [r,[p]]=⟨2,(r++[p]).length,bL tP (r++[p])⟩:=by
 have e:[r,[p]].flatten=r++[p]:=by simp
 rw[Ke8 [r,[p]] (by simp) (by rw[e,Qla];simp only[List.length_singleton];omega),e,if_neg (by simp)]
theorem xf4(r:List Pln)(p:Pln):slR tP (bL tP (r++[p])) 0 (r++[p]).length=r++[p]:=fc2 tP _
theorem xf5(r:List Pln)(p:Pln):okS tP (bL tP (r++[p])) 0 (r++[p]).length=true:=fc3 tP _
theorem dd2{p:Pln}(h:Bd p):eb2 p=V9 p:=by
 unfold eb2 lc3 V9
 simp only
 have:=h.x1;have:=h.x2;have:=h.y1;have:=h.y2;have:=h.z1;have:=h.z2;have:=h.b1;have:=h.b2
 rw[ka2 (by omega) (by omega),ka2 (by omega) (by omega),ka2 (by omega) (by omega),ka2 (by omega) (by omega)]
 simp only[Int.zero_sub]
def phL(O:List (List Pln)):Nat:=match O with
 |[]=>0
 |_::_=>1
theorem Td9(O:List (List Pln))(c:List Pln):phL (O++[c])=1:=by cases O<;>rfl
theorem ff8(O:List (List Pln))(c:List Pln):app (bL (tLs tP) O) [[eL tP c]]=bL (tLs tP) (O++[c]):=Ra1 (tLs tP) O [c]
theorem ue2(O:List (List Pln))(h:O.length<=1000000):(Nat.beq O.length (len (bL (tLs tP) O))&&Nat.ble ((O.length+1)*24) room)=true:=by
 rw[S6,Qlr,Qlam];exact Qlal (by unfold room;omega)
theorem Ke9(x fs:List Pln)(j:Nat):Ia6 x fs (j+1)=Ia6 x fs j++(if 0<(Ma5 x fs j).length then [Ma5 x fs j] else []):=by
 unfold Ia6;rw[List.range_succ,List.map_append,List.filter_append];congr 1;by_cases h:0<(Ma5 x fs j).length
 ·rw[if_pos h];simp[h]
 ·rw[if_neg h];simp[h]
theorem rd3(x fs:List Pln)(j:Nat):(Ia6 x fs j).length<=j:=by
 unfold Ia6
 have:=List.length_filter_le (λc:List Pln=>decide (0<c.length)) ((List.range j).map (Ma5 x fs))
 simpa using this
theorem ue3:Nat.beq 2 1=false:=rfl
theorem ue4:Nat.beq 2 2=true:=rfl
theorem xf6 (x fs q : List Pln) (xs : List (List Pln)) (a c : Int) (O : List (List Pln)) (hf : ∀ p ∈ fs, okp p = true) (hfl : fs.length ≤ 1000) (hO : O.length ≤ 900000) :
  ∃t s,lp (m9 ⟨fs,(fs.length:Int),q,fs,xs,a,c⟩) ⟨phL O,x,0,O.length,bL (tLs tP) O⟩=(t,s) /\
   ((xa5 x fs=true->t=phL (O++Ia6 x fs fs.length)*2+2/\s.B5=(O++Ia6 x fs fs.length).length/\s.eh3=bL (tLs tP) (O++Ia6 x fs fs.length))/\(xa5 x fs=false->t=1\/t=3)):=by
 refine Z6 (step:=m9 ⟨fs,(fs.length:Int),q,fs,xs,a,c⟩) (mk:=λj (O':List (List Pln))=>(⟨phL O',A3 x fs j,(j:Int),O'.length,bL (tLs tP) O'⟩:j8)) fs.length
  (λj O'=>j<=fs.length/\O'=O++Ia6 x fs j/\∀i,i<j->(A3 x fs i).length<48)
  (λt s=>(xa5 x fs=true->t=phL (O++Ia6 x fs fs.length)*2+2/\s.B5=(O++Ia6 x fs fs.length).length/\s.eh3=bL (tLs tP) (O++Ia6 x fs fs.length))/\(xa5 x fs=false->t=1\/t=3)) (by omega)
  (λj O' hj hi=>?_) (λj O' hj hi=>?_) 0 O ⟨Qle _,by simp[Ia6],λi hi=>absurd hi (Nat.not_lt_zero i)⟩
 ·obtain⟨_,hO',hr⟩:=hi;have hn:W ((j:Int)+1)=((j+1:Nat):Int):=n8 hj (by omega)
  have hp:=hf _ (va9 tP hj);have hb:=jc3 hp;have hOl:O'.length<=1000000:=by
   rw[hO',Qla]
   have:=rd3 x fs j
   omega
  have hroom:=ue2 O' hOl;by_cases h48:(A3 x fs j).length<48
  ·have e1:decide (((A3 x fs j).length:Int)>=48)=false:=decide_eq_false (by omega)
   have c1:=Ce1 (A3 x fs j) (V9 (gL tP fs j)) (by omega)
   have c2:=Ce1 (A3 x fs j) (gL tP fs j) (by omega)
   have l1:r7 (A3 x fs j++[V9 (gL tP fs j)])=true:=decide_eq_true (by rw[Qla];simp only[List.length_singleton];omega)
   have l2:r7 (A3 x fs j++[gL tP fs j])=true:=decide_eq_true (by rw[Qla];simp only[List.length_singleton];omega)
   have m1:Q3 (A3 x fs j++[V9 (gL tP fs j)])=Ma5 x fs j:=rfl;have m2:Q3 (A3 x fs j++[gL tP fs j])=A3 x fs (j+1):=rfl;have hnew:O++Ia6 x fs (j+1)=O'++(if 0<(Ma5 x fs j).length then [Ma5 x fs j] else []):=by rw[Ke9,<- List.append_assoc,<- hO']
   have hnx : ∀ {s : j8}, s = ⟨phL (O ++ Ia6 x fs (j + 1)), A3 x fs (j + 1), ((j + 1 : Nat) : Int), (O ++ Ia6 x fs (j + 1)).length, bL (tLs tP) (O ++ Ia6 x fs (j + 1))⟩ →
     Nx (.next s) (λt=>(xa5 x fs=true->t=phL (O++Ia6 x fs fs.length)*2+2/\(⟨phL O',A3 x fs j,(j:Int),O'.length,bL (tLs tP) O'⟩:j8).B5=(O++Ia6 x fs fs.length).length/\(⟨phL O',A3 x fs j,(j:Int),O'.length,bL (tLs tP) O'⟩:j8).eh3=bL (tLs tP) (O++Ia6 x fs fs.length))/\(xa5 x fs=false->t=1\/t=3))
      (λs=>∃O'',s=(⟨phL O'',A3 x fs (j+1),((j+1:Nat):Int),O''.length,bL (tLs tP) O''⟩:j8)/\(j+1<=fs.length/\O''=O++Ia6 x fs (j+1)/\∀i,i<j+1->(A3 x fs i).length<48)) :=
    λ{s} hs=>.nx ⟨_,hs,hj,rfl,λi hi=>by
     by_cases e:i=j
     ·subst e;exact h48
     ·exact hr i (by omega)⟩
   by_cases hc:0<(Ma5 x fs j).length
   ·have e2:decide (((Ma5 x fs j).length:Int)>0)=true:=decide_eq_true (by omega)
    have e3:Nat.beq (Ma5 x fs j).length 0=false:=by
     cases h:(Ma5 x fs j).length with
     |zero=>omega
     |succ n=>rfl
    rw[if_pos hc] at hnew;cases O' with
    |nil =>
     have e:m9 ⟨fs,(fs.length:Int),q,fs,xs,a,c⟩ ⟨phL [],A3 x fs j,(j:Int),([]:List (List Pln)).length,bL (tLs tP) []⟩=.next ⟨1,A3 x fs (j+1),((j+1:Nat):Int),1,[[eL tP (Ma5 x fs j)]]⟩:=by
      show A1 Stp.next Stp.exit Stp.fail _ _=_;simp only[A1,Int.toNat_natCast,i5,o5,dd2 hb,c1,c2,hn,xf4,xf5,l1,l2,m1,m2,ue3,ue4,e1,e2,e3,f9,G0,Qlc,Qlaa];rw[btD (g7 hj),bt (f0 hj)]
     rw[e];exact hnx (by rw[hnew];rfl)
    |cons o os =>
     have e:m9 ⟨fs,(fs.length:Int),q,fs,xs,a,c⟩ ⟨phL (o::os),A3 x fs j,(j:Int),(o::os).length,bL (tLs tP) (o::os)⟩=.next ⟨1,A3 x fs (j+1),((j+1:Nat):Int),(o::os).length+1,bL (tLs tP) (o::os++[Ma5 x fs j])⟩:=by
      show A2 Stp.next Stp.exit Stp.fail _ _=_;simp only[A2,Int.toNat_natCast,i5,o5,dd2 hb,c1,c2,hn,xf4,xf5,l1,l2,m1,m2,ue3,ue4,e1,e2,e3,hroom,ff8,f9,G0,Qlc,Qlaa];rw[btD (g7 hj),bt (f0 hj)]
     rw[e];exact hnx (by rw[hnew,Td9,Qla];rfl)
   ·have e2:decide (((Ma5 x fs j).length:Int)>0)=false:=decide_eq_false (by omega)
    rw[if_neg hc,Qlai] at hnew;cases O' with
    |nil =>
     have e:m9 ⟨fs,(fs.length:Int),q,fs,xs,a,c⟩ ⟨phL [],A3 x fs j,(j:Int),([]:List (List Pln)).length,bL (tLs tP) []⟩=.next ⟨0,A3 x fs (j+1),((j+1:Nat):Int),0,[]⟩:=by
      show A1 Stp.next Stp.exit Stp.fail _ _=_;simp only[A1,Int.toNat_natCast,i5,o5,dd2 hb,c1,c2,hn,xf4,xf5,l1,l2,m1,m2,ue3,ue4,e1,e2,f9,G0,Qlc,Qlaa];rw[btD (g7 hj),bt (f0 hj)]
     rw[e];exact hnx (by rw[hnew];rfl)
    |cons o os =>
     have e:m9 ⟨fs,(fs.length:Int),q,fs,xs,a,c⟩ ⟨phL (o::os),A3 x fs j,(j:Int),(o::os).length,bL (tLs tP) (o::os)⟩=.next ⟨1,A3 x fs (j+1),((j+1:Nat):Int),(o::os).length,bL (tLs tP) (o::os)⟩:=by
      show A2 Stp.next Stp.exit Stp.fail _ _=_;simp only[A2,Int.toNat_natCast,i5,o5,dd2 hb,c1,c2,hn,xf4,xf5,l1,l2,m1,m2,ue3,ue4,e1,e2,f9,G0,Qlc,Qlaa];rw[btD (g7 hj),bt (f0 hj)]
     rw[e];exact hnx (by rw[hnew];rfl)
  ·have e1:decide (((A3 x fs j).length:Int)>=48)=true:=decide_eq_true (by omega)
   have hno:xa5 x fs=false:=by
    cases h:xa5 x fs with
    |false=>rfl
    |true =>
     have:=Qli.1 h j (Qln.2 hj)
     exact absurd (by simpa using this) h48
   have hex:∀{t:Nat},(t=1\/t=3)->(xa5 x fs=true->t=phL (O++Ia6 x fs fs.length)*2+2/\(⟨phL O',A3 x fs j,(j:Int),O'.length,bL (tLs tP) O'⟩:j8).B5=(O++Ia6 x fs fs.length).length/\(⟨phL O',A3 x fs j,(j:Int),O'.length,bL (tLs tP) O'⟩:j8).eh3=bL (tLs tP) (O++Ia6 x fs fs.length))/\(xa5 x fs=false->t=1\/t=3):=λh=>⟨λh'=>(by rw[hno] at h';cases h'),λ_=>h⟩
   cases O' with
   |nil =>
    have e:m9 ⟨fs,(fs.length:Int),q,fs,xs,a,c⟩ ⟨phL [],A3 x fs j,(j:Int),([]:List (List Pln)).length,bL (tLs tP) []⟩=.exit 1:=by
     show A1 Stp.next Stp.exit Stp.fail _ _=_;simp only[A1,e1,f9];rw[btD (g7 hj),bt (f0 hj)]
    rw[e];exact .ex (hex (.inl rfl))
   |cons o os =>
    have e:m9 ⟨fs,(fs.length:Int),q,fs,xs,a,c⟩ ⟨phL (o::os),A3 x fs j,(j:Int),(o::os).length,bL (tLs tP) (o::os)⟩=.exit 3:=by
     show A2 Stp.next Stp.exit Stp.fail _ _=_;simp only[A2,e1,f9];rw[btD (g7 hj),bt (f0 hj)]
    rw[e];exact .ex (hex (.inr rfl))
 ·obtain⟨h1,hO',hr⟩:=hi;have hje:j=fs.length:=by omega
  subst hje;have hyes:xa5 x fs=true:=Qli.2 λi hi=>by simpa using hr i (Qln.1 hi)
  refine⟨phL O'*2+2,?_,λ_=>?_,λh=>(by rw[hyes] at h;cases h)⟩
  ·cases O' with
   |nil =>
    show A1 Stp.next Stp.exit Stp.fail _ _=_;simp only[A1];rw[bfD (l9 (Qlg _))];rfl
   |cons o os =>
    show A2 Stp.next Stp.exit Stp.fail _ _=_;simp only[A2];rw[bfD (l9 (Qlg _))];rfl
  ·rw[<- hO'];exact⟨rfl,rfl,rfl⟩
theorem Le0{α β:Type}(t:Ty α)(l:List α)(f:α->List β){j:Nat}(hj:j<l.length):(l.take (j+1)).flatMap f=(l.take j).flatMap f++f (gL t l j):=by
 rw[Qlad,Qlb hj,List.flatMap_append];simp[gL,Qlf,Qlb hj]
theorem Le1{α:Type}(t:Ty α)(l:List α)(f:α->Bool){j:Nat}(hj:j<l.length):(l.take (j+1)).all f=((l.take j).all f&&f (gL t l j)):=by
 rw[Qlad,Qlb hj,List.all_append];simp[gL,Qlf,Qlb hj]
theorem ff9{q x:List Pln}(h:(lean q).length<=48):(xa6 q x).length<=48:=by
 unfold xa6;split
 ·simp
 ·exact Qld (rd3 _ _ _) h
theorem je9{q:List Pln}(h:(lean q).length<=48):∀l:List (List Pln),(l.flatMap (xa6 q)).length<=48*l.length
 |[]=>by simp
 |x::l=>by
  have:=je9 h l
  have:=ff9 (x:=x) h
  simp only[List.flatMap_cons,Qla,List.length_cons];omega
structure W0(q:List Pln)(xs:List (List Pln))(t:Nat)(s:o7):Prop where
 y:xs.all (Ia2 q)=true->t=phL (xs.flatMap (xa6 q))*3+3/\s.B5=(xs.flatMap (xa6 q)).length/\s.eh3=bL (tLs tP) (xs.flatMap (xa6 q))
 n:xs.all (Ia2 q)=false->t=1\/t=2\/t=4\/t=5
theorem nbA:Nat.beq 1 2=false/\Nat.beq 1 3=false/\Nat.beq 1 4=false/\Nat.beq 1 1=true/\Nat.beq 3 1=false/\Nat.beq 3 2=false/\Nat.beq 3 3=true/\Nat.beq 4 1=false/\Nat.beq 4 2=false/\Nat.beq 4 3=false/\Nat.beq 4 4=true/\Nat.beq 2 3=false/\Nat.beq 2 4=false:=⟨rfl,rfl,rfl,rfl,rfl,rfl,rfl,rfl,rfl,rfl,rfl,rfl,rfl⟩
theorem xf7 (q : List Pln) (xs : List (List Pln)) (hq : q.length ≤ 1000000) (hxs : xs.length ≤ 10000) (hx : ∀ x ∈ xs, x.length ≤ 1000000) (hf : ∀ p ∈ lean q, okp p = true) (hfl : (lean q).length ≤ 48) :
  ∃t s,lp (v7 ⟨(xs.length:Int)⟩) ⟨0,q,lean q,xs,0,0,[]⟩=(t,s)/\W0 q xs t s:=by
 refine Z6 (step:=v7 ⟨(xs.length:Int)⟩) (mk:=λj (O':List (List Pln))=>(⟨phL O',q,lean q,xs,(j:Int),O'.length,bL (tLs tP) O'⟩:o7)) xs.length
  (λj O'=>j<=xs.length/\O'=(xs.take j).flatMap (xa6 q)/\(xs.take j).all (Ia2 q)=true) (W0 q xs) (by omega)
  (λj O' hj hi=>?_) (λj O' hj hi=>?_) 0 [] ⟨Qle _,by simp,by simp⟩
 ·obtain⟨_,hO',hr⟩:=hi;have hn:W ((j:Int)+1)=((j+1:Nat):Int):=n8 hj (by omega)
  have hxl:=hx _ (va9 (tLs tP) hj);have hOl:O'.length<=800000:=by
   rw[hO']
   have:=je9 hfl (xs.take j)
   have:=List.length_take_le j xs
   omega
  have hroom:=ue2 O' (by omega)
  have hA:=Ae1 (a:=gL (tLs tP) xs j) (c:=q) (by omega) (by omega)
  have gA:=Ae2 (a:=gL (tLs tP) xs j) (c:=q) (by omega) (by omega)
  have hnew:=Le0 (tLs tP) xs (xa6 q) hj;have hall:=Le1 (tLs tP) xs (Ia2 q) hj;rw[<- hO'] at hnew;rw[hr,Qlam] at hall;have hfull:∀{v:Bool},Ia2 q (gL (tLs tP) xs j)=v->v=false->xs.all (Ia2 q)=false:=λ{v} h hv=>by
   rw[List.all_eq_false];exact⟨_,va9 (tLs tP) hj,by rw[h,hv];decide⟩
  have hnx : Ia2 q (gL (tLs tP) xs j) = true → ∀ {s : o7}, s = ⟨phL ((xs.take (j + 1)).flatMap (xa6 q)), q, lean q, xs, ((j + 1 : Nat) : Int), ((xs.take (j + 1)).flatMap (xa6 q)).length, bL (tLs tP) ((xs.take (j + 1)).flatMap (xa6 q))⟩ →
    Nx (.next s) (λt=>W0 q xs t (⟨phL O',q,lean q,xs,(j:Int),O'.length,bL (tLs tP) O'⟩:o7))
     (λs=>∃O'',s=(⟨phL O'',q,lean q,xs,((j+1:Nat):Int),O''.length,bL (tLs tP) O''⟩:o7)/\(j+1<=xs.length/\O''=(xs.take (j+1)).flatMap (xa6 q)/\(xs.take (j+1)).all (Ia2 q)=true)) :=
   λh {s} hs=>.nx ⟨_,hs,hj,rfl,by rw[hall,h]⟩
  have hex:Ia2 q (gL (tLs tP) xs j)=false->∀{t:Nat},(t=1\/t=2\/t=4\/t=5)->W0 q xs t (⟨phL O',q,lean q,xs,(j:Int),O'.length,bL (tLs tP) O'⟩:o7):=λh {t} ht =>
   ⟨λh'=>(by rw[hfull h rfl] at h';cases h'),λ_=>ht⟩
  have hgx:inB (j:Int) xs.length=true:=f0 hj;have hlt:((j:Int)<(xs.length:Int)):=g7 hj;generalize hX:gL (tLs tP) xs j=x at *
  obtain⟨z1,z2,z3,z4,z5,z6,z7,z8,z9,zA,zB,zC,zD⟩:=nbA;cases hap:apart x q with
  |true =>
   have hp:xa6 q x=[x]:=by unfold xa6;rw[hap,if_pos rfl]
   have hro:Ia2 q x=true:=by unfold Ia2;rw[hap];rfl
   rw[hap] at hA;rw[hp] at hnew;cases O' with
   |nil =>
    have e:v7 ⟨(xs.length:Int)⟩ ⟨phL [],q,lean q,xs,(j:Int),([]:List (List Pln)).length,bL (tLs tP) []⟩=.next ⟨1,q,lean q,xs,((j+1:Nat):Int),1,[[eL tP x]]⟩:=by
     show o6 Stp.next Stp.exit Stp.fail _ _=_;simp only[o6,Int.toNat_natCast,i5,o5,hX,hA,gA,hn,hgx,f9];rw[btD hlt]
    rw[e];exact hnx hro (by rw[hnew];rfl)
   |cons o os =>
    have e:v7 ⟨(xs.length:Int)⟩ ⟨phL (o::os),q,lean q,xs,(j:Int),(o::os).length,bL (tLs tP) (o::os)⟩=.next ⟨1,q,lean q,xs,((j+1:Nat):Int),(o::os).length+1,bL (tLs tP) (o::os++[x])⟩:=by
     show r9 Stp.next Stp.exit Stp.fail _ _=_;simp only[r9,Int.toNat_natCast,i5,o5,hX,hA,gA,hn,hgx,hroom,ff8,f9];rw[btD hlt]
    rw[e];exact hnx hro (by rw[hnew,Td9,Qla];rfl)
  |false =>
   have hp:xa6 q x=Ia6 x (lean q) (lean q).length:=by unfold xa6;rw[hap,if_neg (by decide)]
   have hro:Ia2 q x=xa5 x (lean q):=by unfold Ia2;rw[hap];rfl
   rw[hap] at hA;rw[hp] at hnew;obtain⟨t,s,hlp,hy,hno⟩:=xf6 x (lean q) q xs (xs.length:Int) (j:Int) O' hf (by omega) (by omega)
   cases hr48:xa5 x (lean q) with
   |true =>
    obtain⟨h1,h2,h3⟩:=hy hr48;rw[<- hnew] at h1 h2 h3;cases O' with
    |nil =>
     have hlp:lp (m9 ⟨lean q,((lean q).length:Int),q,lean q,xs,(xs.length:Int),(j:Int)⟩) ⟨0,x,0,0,[]⟩=(t,s):=hlp;by_cases hO:(xs.take (j+1)).flatMap (xa6 q)=[]
     ·rw[hO] at h1;have h1:t=2:=h1;subst h1;have e:v7 ⟨(xs.length:Int)⟩ ⟨phL [],q,lean q,xs,(j:Int),([]:List (List Pln)).length,bL (tLs tP) []⟩=.next ⟨0,q,lean q,xs,((j+1:Nat):Int),0,[]⟩:=by
       show o6 Stp.next Stp.exit Stp.fail _ _=_;simp only[o6,Int.toNat_natCast,i5,o5,i8,hX,hA,gA,hn,hgx,hlp,ue3,ue4,f9,G0,Qlc];rw[btD hlt]
      rw[e];exact hnx (hro.trans hr48) (by rw[hO];rfl)
     ·obtain⟨o,os,hO⟩:=Qlac hO;rw[hO] at h1 h2 h3;have h1:t=4:=h1;subst h1;have e:v7 ⟨(xs.length:Int)⟩ ⟨phL [],q,lean q,xs,(j:Int),([]:List (List Pln)).length,bL (tLs tP) []⟩=.next ⟨1,q,lean q,xs,((j+1:Nat):Int),s.B5,s.eh3⟩:=by
       show o6 Stp.next Stp.exit Stp.fail _ _=_;simp only[o6,Int.toNat_natCast,i5,o5,i8,hX,hA,gA,hn,hgx,hlp,z8,z9,zA,zB,f9,G0,Qlc];rw[btD hlt]
      rw[e];exact hnx (hro.trans hr48) (by rw[h2,h3,hO];rfl)
    |cons o os =>
     have hlp:lp (m9 ⟨lean q,((lean q).length:Int),q,lean q,xs,(xs.length:Int),(j:Int)⟩) ⟨1,x,0,(o::os).length,bL (tLs tP) (o::os)⟩=(t,s):=hlp;have h1:t=4:=by rw[h1,hnew];rfl
     subst h1;have e:v7 ⟨(xs.length:Int)⟩ ⟨phL (o::os),q,lean q,xs,(j:Int),(o::os).length,bL (tLs tP) (o::os)⟩=.next ⟨1,q,lean q,xs,((j+1:Nat):Int),s.B5,s.eh3⟩:=by
      show r9 Stp.next Stp.exit Stp.fail _ _=_;simp only[r9,Int.toNat_natCast,i5,o5,i8,hX,hA,gA,hn,hgx,hlp,z8,z9,zA,zB,f9,G0,Qlc];rw[btD hlt]
     rw[e];exact hnx (hro.trans hr48) (by rw[h2,h3,hnew];rfl)
   |false =>
    have ht:=hno hr48;cases O' with
    |nil =>
     have hlp:lp (m9 ⟨lean q,((lean q).length:Int),q,lean q,xs,(xs.length:Int),(j:Int)⟩) ⟨0,x,0,0,[]⟩=(t,s):=hlp
     rcases ht with rfl|rfl
     ·have e : v7 ⟨(xs.length : Int)⟩ ⟨phL [], q, lean q, xs, (j : Int), ([] : List (List Pln)).length, bL (tLs tP) []⟩ = .exit 1 := by
       show o6 Stp.next Stp.exit Stp.fail _ _=_;simp only[o6,Int.toNat_natCast,i5,o5,i8,hX,hA,gA,hn,hgx,hlp,z4,f9,G0,Qlc];rw[btD hlt]
      rw[e];exact .ex (hex (hro.trans hr48) (by simp))
     ·have e : v7 ⟨(xs.length : Int)⟩ ⟨phL [], q, lean q, xs, (j : Int), ([] : List (List Pln)).length, bL (tLs tP) []⟩ = .exit 2 := by
       show o6 Stp.next Stp.exit Stp.fail _ _=_;simp only[o6,Int.toNat_natCast,i5,o5,i8,hX,hA,gA,hn,hgx,hlp,z5,z6,z7,f9,G0,Qlc];rw[btD hlt]
      rw[e];exact .ex (hex (hro.trans hr48) (by simp))
    |cons o os =>
     have hlp:lp (m9 ⟨lean q,((lean q).length:Int),q,lean q,xs,(xs.length:Int),(j:Int)⟩) ⟨1,x,0,(o::os).length,bL (tLs tP) (o::os)⟩=(t,s):=hlp
     rcases ht with rfl|rfl
     ·have e : v7 ⟨(xs.length : Int)⟩ ⟨phL (o :: os), q, lean q, xs, (j : Int), (o :: os).length, bL (tLs tP) (o :: os)⟩ = .exit 4 := by
       show r9 Stp.next Stp.exit Stp.fail _ _=_;simp only[r9,Int.toNat_natCast,i5,o5,i8,hX,hA,gA,hn,hgx,hlp,z4,f9,G0,Qlc];rw[btD hlt]
      rw[e];exact .ex (hex (hro.trans hr48) (by simp))
     ·have e : v7 ⟨(xs.length : Int)⟩ ⟨phL (o :: os), q, lean q, xs, (j : Int), (o :: os).length, bL (tLs tP) (o :: os)⟩ = .exit 5 := by
       show r9 Stp.next Stp.exit Stp.fail _ _=_;simp only[r9,Int.toNat_natCast,i5,o5,i8,hX,hA,gA,hn,hgx,hlp,z5,z6,z7,f9,G0,Qlc];rw[btD hlt]
      rw[e];exact .ex (hex (hro.trans hr48) (by simp))
 ·obtain⟨h1,hO',hr⟩:=hi;have hje:j=xs.length:=by omega
  subst hje;rw[List.take_length] at hO' hr;refine⟨phL O'*3+3,?_,λ_=>?_,λh=>(by rw[hr] at h;cases h)⟩
  ·cases O' with
   |nil =>
    show o6 Stp.next Stp.exit Stp.fail _ _=_;simp only[o6];rw[bfD (l9 (Qlg _))];rfl
   |cons o os =>
    show r9 Stp.next Stp.exit Stp.fail _ _=_;simp only[r9];rw[bfD (l9 (Qlg _))];rfl
  ·rw[<- hO'];exact⟨rfl,rfl,rfl⟩
noncomputable def Aa7(x:List (List Pln))(y:List Pln):List (List Pln)×Int:=match s6 x y with
 |some r=>(r,0)
 |none=>([],9)
theorem Ff0{α:Type}(t:Ty α)(l:List α)(n:Int):(two (r1L t) r1I).rd (.tup [eL t l,i n],[])=some (l,n):=by
 have h:(r1L t).rd [] (eL t l)=some l:=by
  show Bool.rec (motive:=λ_=>Option (List α)) none (some (rt t l)) (Bool.and (Nat.beq t.es t.es) (okE t l))=_
  rw[i5,o5,Qlr];rfl
 simp only[two,h];rfl
theorem Yf7{α:Type}(t:Ty α)(l:List α)(n:Int):(two (r1L t) r1I).rd (.tup [.tree t.es l.length (λk=>l5 (bL t l) (0+k)),i n],[])=some (l,n):=by
 have h:(r1L t).rd [] (.tree t.es l.length (λk=>l5 (bL t l) (0+k)))=some l:=by
  show Bool.rec (motive:=λ_=>Option (List α)) none (some (lsL t l.length λk=>l5 (bL t l) (0+k))) (Bool.and (Nat.beq t.es t.es) (okL t l.length λk=>l5 (bL t l) (0+k)))=_
  rw[fc1 t (l:=l) rfl λk hk=>by rw[Qls,V1 t hk],ab5 t (f:=λk=>gL t l k) λk hk=>by rw[Qls,V1 t hk],Qlr]
  rfl
 simp only[two,h];rfl
theorem Yf8{α:Type}(t:Ty α)(k:Nat)(l:List α)(n:Int):(two (r1L t) r1I).rd (.tup [.sl 0 0 l.length 0,i n],[⟨k,t.es,bL t l,true,false,0⟩])=some (l,n):=by
 have h:(r1L t).rd [⟨k,t.es,bL t l,true,false,0⟩] (.sl 0 0 l.length 0)=some l:=af3 t k l;simp only[two,h];rfl
theorem rd4(x:List (List Pln))(y:List Pln)(hy:y.length<=1000000)(hx:x.length<=10000)(hxl:∀c∈x,c.length<=1000000):Rd (two (r1L (tLs tP)) r1I) (Ga2 x y) (λr=>r=Aa7 x y):=by
 have hF:=xc8 (c:=y) (by omega);have gF:=xc9 (c:=y) (by omega)
 have hL:Q3 y=lean y:=rfl;have gL':r7 y=true:=decide_eq_true hy;unfold Ga2 Aa7 s6;simp only[i5,o5,i8,hF,gF,hL,gL',f9,Qlc];cases hf:ful y with
 |false=>exact⟨_,(x,0),rfl,Ff0 (tLs tP) x 0,rfl⟩
 |true =>
  have hc:=(W8.1 hf).1;have hfl:(lean y).length<=48:=by
   have:=eb1 y
   rw[beq_iff_eq,cb8] at hc;omega
  obtain⟨t,s,hlp,hw⟩:=xf7 y x hy hx hxl (λp hp=>rb6 hc p (List.mem_append_left _ (Ua5 hp))) hfl
  simp only[hlp,Qlan,G0,if_true];cases hr:x.all (Ia2 y) with
  |false =>
   rcases hw.n hr with rfl|rfl|rfl|rfl<;>exact⟨_,([],9),rfl,rfl,rfl⟩
  |true =>
   obtain⟨h1,h2,h3⟩:=hw.y hr;by_cases hO:x.flatMap (xa6 y)=[]
   ·rw[hO] at h1 ⊢;have h1:t=3:=h1;subst h1;exact⟨_,([],0),rfl,rfl,rfl⟩
   ·have h1 : t = 6 := by
     obtain⟨o,os,hO⟩:=Qlac hO;rw[h1,hO];rfl
    subst h1;rw[h2,h3];by_cases h200:(x.flatMap (xa6 y)).length<=200
    ·rw[decide_eq_true h200];refine⟨_,(x.flatMap (xa6 y),0),?_,Yf7 (tLs tP) _ 0,rfl⟩
     have:decide (((x.flatMap (xa6 y)).length:Int)>200)=false:=decide_eq_false (by omega)
     rw[this];rfl
    ·rw[decide_eq_false h200]
     have:decide (((x.flatMap (xa6 y)).length:Int)>200)=true:=decide_eq_true (by omega)
     rw[this];exact⟨_,([],9),rfl,rfl,rfl⟩
theorem pc6{x:List (List Pln)}{y:List Pln}(hy:y.length<=1000000)(hx:x.length<=10000)(hxl:∀c∈x,c.length<=1000000):ba3 x y=Aa7 x y:=(rd4 x y hy hx hxl).p
theorem Le2{x:List (List Pln)}{y:List Pln}(hy:y.length<=1000000)(hx:x.length<=10000)(hxl:∀c∈x,c.length<=1000000):Wa3 x y=true:=(rd4 x y hy hx hxl).g
noncomputable def schk(s:List (List Pln)):Int:=if (s.length:Int)>16 then 2 else match s.find? λc=>chk c != 0 with
 |some c=>chk c
 |none=>0
theorem Ud0{α:Type}(t:Ty α)(l:List α)(f:α->Bool)(h:l.any f=true):l.find? f=some (gL t l (l.findIdx f)):=by
 have hlt:l.findIdx f<l.length:=Qlv.2 (Qlag.1 h);rw[List.find?_eq_some_iff_getElem];refine⟨?_,l.findIdx f,hlt,?_,λj hj=>?_⟩
 ·simp only[gL,Qlf,Qlb hlt,Option.getD_some];exact List.findIdx_getElem (w:=hlt)
 ·simp[gL,Qlf,Qlb hlt]
 ·have:=List.not_of_lt_findIdx hj
  simpa using this
theorem Id6(s:List (List Pln))(hs:s.length<=1000000)(hl:∀c∈s,c.length<=1000000):Ua7 s=some (i (schk s),[]):=by
 have h:=Na8 (step:=Aa5 ⟨s,(s.length:Int)⟩) (mk:=λj=>(⟨(j:Int)⟩:U6)) (c:=λc=>chk c != 0) (u:=1) (fin:=2) (tLs tP) s (by omega)
  (λj hj=>by
   have hc:=hl _ (va9 (tLs tP) hj);simp only[Aa5,va3,Int.toNat_natCast,i5,o5,cd2 _ (show (gL (tLs tP) s j).length<=1000000000 by omega),Pd9 _ (show (gL (tLs tP) s j).length<=1000000000 by omega),n8 hj (show s.length<=4611686018427387904 by omega),f9]
   rw[btD (g7 hj),bt (f0 hj)])
  (by simp only[Aa5,va3];rw[bfD (l9 (Qlg _))]) 0 (Qle _)
 rw[Qlab,Qls] at h;unfold Ua7 schk;simp only[i5,o5,i8];rw[show (⟨0⟩:U6)=⟨((0:Nat):Int)⟩ from rfl,h]
 by_cases h16:(s.length:Int)>16
 ·rw[btD h16,if_pos h16]
 ·rw[bfD h16,if_neg h16];cases ha:s.any λc=>chk c != 0 with
  |true =>
   have hlt:s.findIdx (λc=>chk c != 0)<s.length:=Qlv.2 (Qlag.1 ha)
   have hc:=hl _ (va9 (tLs tP) hlt);rw[Ud0 (tLs tP) s _ ha];simp only[Int.toNat_natCast,if_true,cd2 _ (show (gL (tLs tP) s (s.findIdx λc=>chk c != 0)).length<=1000000000 by omega)]
   rfl
  |false =>
   rw[Qlt.2 λc hc=>by have:=Qlae.1 ha c hc;simpa using this]
   rfl
theorem lc7{s:List (List Pln)}(hs:s.length<=1000000)(hl:∀c∈s,c.length<=1000000):X7 s=schk s:=by unfold X7;rw[Id6 s hs hl];rfl
theorem lc8{s:List (List Pln)}(hs:s.length<=1000000)(hl:∀c∈s,c.length<=1000000):X8 s=true:=by unfold X8;rw[Id6 s hs hl];rfl
theorem ue5{c:List Pln}(h:chk c=0):c.length<=48:=(cb8.1 h).1
theorem Id7{s:List (List Pln)}(h:schk s=0):s.length<=16/\∀c∈s,chk c=0:=by
 unfold schk at h
 split at h
 ·cases h
 ·refine⟨by omega,λc hc=>?_⟩
  cases hf:s.find? λc=>chk c != 0 with
  |none=>simpa using Qlt.1 hf c hc
  |some d =>
   rw[hf] at h
   have:=List.find?_some hf
   simp only at h
   rw[h] at this;cases this
theorem Jc7{ps r:List (List Pln)}{q:List Pln}(h:s6 ps q=some r)(hp:ps.length<=200):r.length<=200:=by
 unfold s6 at h
 split at h
 ·split at h
  ·rename_i h';injection h with h;subst h;rw[Qlx] at h';exact of_decide_eq_true h'.2
  ·cases h
 ·injection h with h;subst h;exact hp
theorem gf0(x fs:List Pln)(j:Nat)(h:(A3 x fs j).length<48):(Ma5 x fs j).length<=48:=by
 unfold Ma5
 have:=eb1 (A3 x fs j++[V9 (gL tP fs j)])
 rw[Qla] at this;simp only[List.length_singleton] at this;omega
theorem Vc2{ps r:List (List Pln)}{q:List Pln}(h:s6 ps q=some r)(hp:∀c∈ps,c.length<=48):∀c∈r,c.length<=48:=by
 unfold s6 at h
 split at h
 ·split at h
  ·rename_i h';injection h with h;subst h;rw[Qlx,Qli] at h';intro c hc;obtain⟨x,hx,hc⟩:=List.mem_flatMap.1 hc;have hr:=h'.1 x hx;unfold xa6 at hc;unfold Ia2 at hr;cases ha:apart x q with
   |true=>rw[ha,if_pos rfl] at hc;rw[Qlh.1 hc];exact hp x hx
   |false =>
    rw[ha,if_neg (by decide)] at hc
    rw[ha,Bool.false_or] at hr;obtain⟨j,hj,rfl,_⟩:=qb6.1 hc
    have:=Qli.1 hr j (Qln.2 hj)
    exact gf0 x _ j (by simpa using this)
  ·cases h
 ·injection h with h;subst h;exact hp
noncomputable def Ba5(s:List (List Pln))(o:Option (List (List Pln))):Option (List (List Pln)):=s.foldl (λst q=>st.bind λps=>s6 ps q) o
noncomputable def Ma7(x:List Pln)(y:List (List Pln)):List (List Pln)×Int :=
 if chk x != 0 then ([],chk x) else if schk y != 0 then ([],schk y) else match ea6 x y with
  |some r=>(r,0)
  |none=>([],9)
structure M0(c:List Pln)(ys:List (List Pln))(t:Nat)(s:y9):Prop where
 y:∀r,Ba5 ys (some [c])=some r->(ys=[]/\t=2)\/(ys≠[]/\t=4/\s.Da2=r)
 n:Ba5 ys (some [c])=none->(t=1/\∃j,s.va7=((j:Nat):Int)/\Aa7 [c] (gL (tLs tP) ys j)=([],9))\/(t=3/\∃j,s.va7=((j:Nat):Int)/\Aa7 s.Da2 (gL (tLs tP) ys j)=([],9)/\j<ys.length/\s.Da2.length<=200/\∀c∈s.Da2,c.length<=48)
theorem zc6(s:List (List Pln)):Ba5 s none=none:=ac7 s
theorem ue6{ys:List (List Pln)}{j:Nat}(hj:j<ys.length)(o:Option (List (List Pln))):Ba5 (ys.take (j+1)) o=(Ba5 (ys.take j) o).bind λps=>s6 ps (gL (tLs tP) ys j):=by
 unfold Ba5;rw[Qlad,Qlb hj,List.foldl_append];simp[gL,Qlf,Qlb hj]
theorem ke0(ys:List (List Pln))(j:Nat)(o:Option (List (List Pln))):Ba5 ys o=Ba5 (ys.drop j) (Ba5 (ys.take j) o):=by
 unfold Ba5;rw[<- List.foldl_append,List.take_append_drop]
theorem xf8 (c : List Pln) (ys : List (List Pln)) (hc : c.length ≤ 48) (hn : ys.length ≤ 1000) (hy : ∀ q ∈ ys, q.length ≤ 1000000) :
  ∃t s,lp (L8 ⟨ys,(ys.length:Int),c⟩) ⟨0,0,[]⟩=(t,s)/\M0 c ys t s:=by
 refine Z6 (step:=L8 ⟨ys,(ys.length:Int),c⟩) (mk:=λj (ps:List (List Pln))=>(⟨if j=0 then 0 else 1,(j:Int),if j=0 then [] else ps⟩:y9)) ys.length
  (λj ps=>j<=ys.length/\Ba5 (ys.take j) (some [c])=some ps/\ps.length<=200/\∀x∈ps,x.length<=48) (M0 c ys) (by omega)
  (λj ps hj hi=>?_) (λj ps hj hi=>?_) 0 [c] ⟨Qle _,rfl,by simp,by simpa using hc⟩
 ·obtain⟨_,hm,hl,hle⟩:=hi;have hw1:W ((j:Int)+1)=((j+1:Nat):Int):=n8 hj (by omega)
  have hq:=hy _ (va9 (tLs tP) hj);have hgx:inB (j:Int) ys.length=true:=f0 hj;have hmj:=ue6 hj (some [c]);have hsp:=ke0 ys (j+1) (some [c]);rw[hm] at hmj;have pw:=pc6 (x:=ps) hq (by omega) λx hx=>Qld (hle x hx) (by omega)
  have gw:=Le2 (x:=ps) hq (by omega) λx hx=>Qld (hle x hx) (by omega)
  have hmj:Ba5 (ys.take (j+1)) (some [c])=s6 ps (gL (tLs tP) ys j):=hmj;by_cases h0:j=0
  ·subst h0;have hps:ps=[c]:=by
    have:some [c]=some ps:=hm
    injection this with this;exact this.symm
   subst hps;cases hw:s6 [c] (gL (tLs tP) ys 0) with
   |some r =>
    have hR:Aa7 [c] (gL (tLs tP) ys 0)=(r,0):=by unfold Aa7;rw[hw]
    rw[hR] at pw;have e:L8 ⟨ys,(ys.length:Int),c⟩ ⟨0,((0:Nat):Int),[]⟩=.next ⟨1,((0+1:Nat):Int),r⟩:=by
     show N4 Stp.next Stp.exit Stp.fail _ _=_;simp only[N4,Int.toNat_natCast,i5,o5,pw,gw,hw1,hgx,f9,Qlc];rw[btD (g7 hj)];rfl
    show Nx (L8 ⟨ys,(ys.length:Int),c⟩ ⟨0,((0:Nat):Int),[]⟩) _ _;rw[e];exact .nx ⟨r,rfl,hj,hmj.trans hw,Jc7 hw (by simp),Vc2 hw (by simpa using hc)⟩
   |none =>
    have hR:Aa7 [c] (gL (tLs tP) ys 0)=([],9):=by unfold Aa7;rw[hw]
    rw[hR] at pw;have e:L8 ⟨ys,(ys.length:Int),c⟩ ⟨0,((0:Nat):Int),[]⟩=.exit 1:=by
     show N4 Stp.next Stp.exit Stp.fail _ _=_;simp only[N4,Int.toNat_natCast,i5,o5,pw,gw,hw1,hgx,f9,Qlc];rw[btD (g7 hj)];rfl
    show Nx (L8 ⟨ys,(ys.length:Int),c⟩ ⟨0,((0:Nat):Int),[]⟩) _ _;rw[e];rw[hmj,hw,zc6] at hsp;exact .ex ⟨λr hr=>(by rw[hsp] at hr;cases hr),λ_=>.inl ⟨rfl,0,rfl,hR⟩⟩
  ·have em:(⟨if j=0 then 0 else 1,(j:Int),if j=0 then [] else ps⟩:y9)=⟨1,(j:Int),ps⟩:=by rw[if_neg h0,if_neg h0]
   rw[em];cases hw:s6 ps (gL (tLs tP) ys j) with
   |some r =>
    have hR:Aa7 ps (gL (tLs tP) ys j)=(r,0):=by unfold Aa7;rw[hw]
    rw[hR] at pw;have e:L8 ⟨ys,(ys.length:Int),c⟩ ⟨1,(j:Int),ps⟩=.next ⟨1,((j+1:Nat):Int),r⟩:=by
     show N5 Stp.next Stp.exit Stp.fail _ _=_;simp only[N5,Int.toNat_natCast,i5,o5,pw,gw,hw1,hgx,f9,Qlc];rw[btD (g7 hj)];rfl
    rw[e];exact .nx ⟨r,by rw[if_neg (by omega),if_neg (by omega)],hj,hmj.trans hw,Jc7 hw hl,Vc2 hw hle⟩
   |none =>
    have hR:Aa7 ps (gL (tLs tP) ys j)=([],9):=by unfold Aa7;rw[hw]
    rw[hR] at pw;have e:L8 ⟨ys,(ys.length:Int),c⟩ ⟨1,(j:Int),ps⟩=.exit 3:=by
     show N5 Stp.next Stp.exit Stp.fail _ _=_;simp only[N5,Int.toNat_natCast,i5,o5,pw,gw,hw1,hgx,f9,Qlc];rw[btD (g7 hj)];rfl
    rw[e];rw[hmj,hw,zc6] at hsp;exact .ex ⟨λr hr=>(by rw[hsp] at hr;cases hr),λ_=>.inr ⟨rfl,j,rfl,hR,hj,hl,hle⟩⟩
 ·obtain⟨h1,hm,hl,hle⟩:=hi;have hje:j=ys.length:=by omega
  subst hje;rw[List.take_length] at hm;by_cases h0:ys.length=0
  ·have hnil:ys=[]:=Qlah.1 h0;subst hnil;refine⟨2,?_,λr hr=>.inl ⟨rfl,rfl⟩,λh=>(by rw[hm] at h;cases h)⟩
   show N4 Stp.next Stp.exit Stp.fail ⟨[],((([]:List (List Pln)).length:Nat):Int),c⟩ ⟨0,((([]:List (List Pln)).length:Nat):Int),[]⟩=_;simp only[N4];rfl
  ·have em:(⟨if ys.length=0 then 0 else 1,(ys.length:Int),if ys.length=0 then [] else ps⟩:y9)=⟨1,(ys.length:Int),ps⟩:=by rw[if_neg h0,if_neg h0]
   rw[em];refine⟨4,?_,λr hr=>.inr ⟨λe=>h0 (by rw[e];rfl),rfl,?_⟩,λh=>(by rw[hm] at h;cases h)⟩
   ·show N5 Stp.next Stp.exit Stp.fail _ _=_;simp only[N5];rw[bfD (l9 (Qlg _))]
   ·rw[hm] at hr;injection hr
theorem Id8{c:List Pln}(h:ful c=false):∀s:List (List Pln),ea6 c s=some []:=by
 intro s;unfold ea6;rw[h,if_neg (by decide)]
 induction s with
 |nil=>rfl
 |cons q s ih =>
  have:s6 [] q=some []:=by unfold s6;split<;>rfl
  show s.foldl _ (s6 [] q)=_;rw[this];exact ih
theorem ke1(x:List Pln)(y:List (List Pln))(hx:x.length<=1000000)(hn:y.length<=1000000)(hy:∀q∈y,q.length<=1000000):Rd (two (r1L (tLs tP)) r1I) (Ua8 x y) (λr=>r=Ma7 x y):=by
 have hC:=cd2 x (show x.length<=1000000000 by omega);have gC:=Pd9 x (show x.length<=1000000000 by omega)
 have hS:=lc7 hn hy;have gS:=lc8 hn hy;have hF:=xc8 (c:=x) (by omega);have gF:=xc9 (c:=x) (by omega)
 have hL:Q3 x=lean x:=rfl;have gL':r7 x=true:=decide_eq_true hx;unfold Ua8 Ma7;simp only[i5,o5,i8,hC,gC,hS,gS,hF,gF,hL,gL',f9,Qlc];cases hc:chk x != 0 with
 |true=>exact⟨_,([],chk x),rfl,rfl,rfl⟩
 |false =>
  cases hs:schk y != 0 with
  |true=>exact⟨_,([],schk y),rfl,rfl,rfl⟩
  |false =>
   have hc0:chk x=0:=by simpa using hc
   have hs0:=Id7 (show schk y=0 by simpa using hs)
   simp only[G0,Qlm,if_false];cases hf:ful x with
   |false =>
    rw[Id8 hf];exact⟨_,([],0),rfl,rfl,rfl⟩
   |true =>
    simp only[Qlan,G0];have hm:ea6 x y=Ba5 y (some [lean x]):=by unfold ea6 Ba5;rw[hf];rfl
    have hll:(lean x).length<=48:=Qld (eb1 x) (ue5 hc0);obtain⟨t,s,hlp,hM⟩:=xf8 (lean x) y hll (by omega) hy
    rw[hlp,hm];cases hr:Ba5 y (some [lean x]) with
    |some r =>
     rcases hM.y r hr with⟨rfl,rfl⟩|⟨_,rfl,rfl⟩
     ·have : r = [lean x] := by
       have:some [lean x]=some r:=hr
       injection this with this;exact this.symm
      subst this;exact⟨_,([lean x],0),rfl,Yf8 (tLs tP) 24 [lean x] 0,rfl⟩
     ·exact⟨_,(s.Da2,0),rfl,Ff0 (tLs tP) _ 0,rfl⟩
    |none =>
     rcases hM.n hr with⟨rfl,j,h1,h2⟩|⟨rfl,j,h1,h2,hj,h4,h5⟩
     ·by_cases hj:j<y.length
      ·have pw:=pc6 (x:=[lean x]) (hy _ (va9 (tLs tP) hj)) (by simp) (by simpa using Qld hll (by omega))
       rw[h2] at pw;simp only[h1,Int.toNat_natCast,pw];exact⟨_,([],9),rfl,rfl,rfl⟩
      ·have hd:gL (tLs tP) y j=[]:=by simp[gL,Qlf,List.getElem?_eq_none (show y.length<=j by omega)];rfl
       have pw:=pc6 (x:=[lean x]) (y:=gL (tLs tP) y j) (by rw[hd];simp) (by simp) (by simpa using Qld hll (by omega))
       rw[h2] at pw;simp only[h1,Int.toNat_natCast,pw];exact⟨_,([],9),rfl,rfl,rfl⟩
     ·have pw:=pc6 (x:=s.Da2) (hy _ (va9 (tLs tP) hj)) (by omega) λc hc=>Qld (h5 c hc) (by omega)
      rw[h2] at pw;simp only[h1,Int.toNat_natCast,pw];exact⟨_,([],9),rfl,rfl,rfl⟩
theorem Ud1{x:List Pln}{y:List (List Pln)}(hx:x.length<=1000000)(hn:y.length<=1000000)(hy:∀q∈y,q.length<=1000000):Ua9 x y=Ma7 x y:=(ke1 x y hx hn hy).p
theorem Ud2{x:List Pln}{y:List (List Pln)}(hx:x.length<=1000000)(hn:y.length<=1000000)(hy:∀q∈y,q.length<=1000000):Va0 x y=true:=(ke1 x y hx hn hy).g
noncomputable def w9(x:List (List Pln))(y:List Pln):Bool×Int:=((Ma7 y x).2==0&&((Ma7 y x).1.length:Int)==0,(Ma7 y x).2)
theorem Id9(x:List (List Pln))(y:List Pln)(hy:y.length<=1000000)(hn:x.length<=1000000)(hx:∀q∈x,q.length<=1000000):Ma6 x y=some (.tup [b (w9 x y).1,i (w9 x y).2],[]):=by
 unfold Ma6 w9;simp only[i5,o5,Ud1 hy hn hx,Ud2 hy hn hx,f9];cases (Ma7 y x).2==0<;>rfl
theorem lc9{x:List (List Pln)}{y:List Pln}(hy:y.length<=1000000)(hn:x.length<=1000000)(hx:∀q∈x,q.length<=1000000):aa2 x y=w9 x y:=by unfold aa2;rw[Id9 x y hy hn hx];rfl
theorem rd5{x:List (List Pln)}{y:List Pln}(hy:y.length<=1000000)(hn:x.length<=1000000)(hx:∀q∈x,q.length<=1000000):Aa6 x y=true:=by unfold Aa6;rw[Id9 x y hy hn hx];rfl
set_option maxRecDepth 100000
structure Wa4 where
 (b9 d7:List Pln)
noncomputable def Qc9:List (Nat×Sum):=[(56,Wb9)]
theorem Jc8:i7 prog G Qc9:=⟨tc6,trivial⟩
structure Wa5 where
 alt:Nat
 bs0:Bool
noncomputable def ta2{α:Type}(kk:Wa5->α)(x:Wa4):α:=let t1:=(Oa5 (rt tP x.d7) (rt tP x.b9));(sl (okE tP x.d7) (sl (okE tP x.b9) (sl (Oa6 (rt tP x.d7) (rt tP x.b9)) (kk ⟨1,!t1⟩) (kk ⟨0,false⟩)) (kk ⟨0,false⟩)) (kk ⟨0,false⟩))
noncomputable def Wa6(x:Wa4):Wa5:=ta2 (λr=>r) x
noncomputable def kb1(x:Wa4)(r:Wa5):DT (b7×List b8):=(.ite (Nat.beq r.alt 1) (.ret (b r.bs0,[⟨0,1,[[eL tP x.d7]],true,false,0⟩])) .fail)
theorem ad1{α β:Type}(F:α->β)(kk:Wa5->α)(x:Wa4):F (ta2 kk x)=ta2 (λr=>F (kk r)) x:=by unfold ta2;(repeat' apply l6 (f:=F))<;>rfl
noncomputable def ac9:Sum:=Ra9 ⟨[sLq tP,sPq 0],[⟨0,1,true,some [[.c 4 (nL tP)]]⟩],λa H=>(⟨aLq tP a 0,hLq tP H 0 0 0⟩,())⟩ (λx=>kb1 x (Wa6 x))
theorem Rc0:g9 prog G 104 ac9:=J4 (enc:=λx=>⟨[eL tP x.b9,.ptr 0 0 0 0],[⟨0,1,[[eL tP x.d7]],true,false,0⟩]⟩) (λa H=>by kernel_rfl) (bd dg7 Jc8) λx=>v8 (Eq.trans (b:=ta2 (λr=>(kb1 x r).run) x) (by kernel_rfl) (ad1 (λr=>(kb1 x r).run) (λr=>r) x).symm)
structure aa3 where
 Q8:List (List Pln)
 d7:List Pln
noncomputable def Ia3:List (Nat×Sum):=[(104,ac9)]
theorem ub5:i7 prog G Ia3:=⟨Rc0,trivial⟩
structure L0 where
 Q8:List (List Pln)
 is7:Int
structure o9 where
 is8:Int
 d7:List Pln
noncomputable def Ba6(p:L0)(s:o9):St:=⟨eL (tLs tP) p.Q8::.fn 104 [.ptr 0 0 0 0]::ra 5 (i p.is7::i s.is8::ra 10 []),[⟨0,1,[[eL tP s.d7]],true,false,0⟩]⟩
noncomputable def G2{α:Type}(k:o9->α)(e:Nat->α)(z:α)(p:L0)(s:o9):α:=let t1:=(Wa6 ⟨rt tP (gL (tLs tP) p.Q8 s.is8.toNat),rt tP s.d7⟩);(sl (decide (s.is8<p.is7)) (sl (inB s.is8 (List.length p.Q8)) (sl ((cnE tP (gL (tLs tP) p.Q8 s.is8.toNat))&&((cnE tP s.d7)&&true)) (sl (Nat.beq t1.alt 1) (sl t1.bs0 (e 1) (k ⟨W (s.is8+1),rt tP s.d7⟩)) z) z) z) (e 2))
noncomputable def I0(p:L0)(s:o9):Stp o9:=G2 .next .exit .fail p s
noncomputable def ja9:Lo L0 o9:=⟨En Ia3,1,We7,[1,0,1,4,4],[0,1,7,8],.p,[⟨.s (.c 1 (nL (tLs tP)))::.fn 104 [.o (.ptr 0 0 0 0)]::ru2 5 (sIq::sIq::ru2 10 []),[⟨0,1,true,some [[.c 4 (nL tP)]]⟩],λa H=>(⟨rL (tLs tP) (slT a 0),aIq a 7⟩,⟨aIq a 8,hLq tP H 0 0 0⟩)⟩],I0,[(none,λp s=>⟨[i s.is8],[⟨0,1,[[eL tP (rt tP s.d7)]],true,false,0⟩]⟩),(some 0,λp s=>upq (Ba6 p s) [(9,b (decide (s.is8<p.is7)))])],Ba6⟩
theorem qb7:ja9.Ok:=Lo.ok [] (by kernel_rfl) .nil rfl (.cons (λa H=>by kernel_rfl) .nil) λp s=>(.of @G2 (λF _ _ _ _ _=>by unfold G2;(repeat' apply l6 (f:=F))<;>rfl) (by kernel_rfl))
structure aa4 where
 alt:Nat
 is0:Int
 d7:List Pln
noncomputable def G3{α:Type}(kk:aa4->α)(x:aa3):α:=let t1:=(lp (I0 (⟨rt (tLs tP) x.Q8,(↑(List.length x.Q8):Int)⟩:L0)) (⟨0,rt tP x.d7⟩:o9));(sl ((cnE (tLs tP) x.Q8)&&((cnE tP x.d7)&&true)) (sl (Nat.beq t1.1 1) (kk ⟨1,t1.2.is8,rt tP t1.2.d7⟩) (sl (Nat.beq t1.1 2) (kk ⟨1,-1,t1.2.d7⟩) (kk ⟨0,0,[]⟩))) (kk ⟨0,0,[]⟩))
noncomputable def aa5(x:aa3):aa4:=G3 (λr=>r) x
noncomputable def na1(x:aa3)(r:aa4):DT (b7×List b8):=(.ite (Nat.beq r.alt 1) (.ret (i r.is0,[⟨0,1,[[eL tP r.d7]],true,false,0⟩])) .fail)
theorem Eb7{α β:Type}(F:α->β)(kk:aa4->α)(x:aa3):F (G3 kk x)=G3 (λr=>F (kk r)) x:=by unfold G3;(repeat' apply l6 (f:=F))<;>rfl
noncomputable def Ma8:Sum:=Ra9 ⟨[.s (.c 1 (nL (tLs tP))),.fn 104 [.o (.ptr 0 0 0 0)]],[⟨0,1,true,some [[.c 4 (nL tP)]]⟩],λa H=>(⟨rL (tLs tP) (slT a 0),hLq tP H 0 0 0⟩,())⟩ (λx=>na1 x (aa5 x))
theorem xb5:g9 prog G 161 Ma8:=J4 (enc:=λx=>⟨[eL (tLs tP) x.Q8,.fn 104 [.ptr 0 0 0 0]],[⟨0,1,[[eL tP x.d7]],true,false,0⟩]⟩) (λa H=>by kernel_rfl) (bd Wf1 ub5) λx=>wa1 (.s .p (.s (.s .p (.b (.u ja9.ls))) .p)) [ja9.pr] (by kernel_rfl) (.cons qb7 .nil) (Eq.trans (b:=G3 (λr=>(na1 x r).run) x) (by kernel_rfl) (Eb7 (λr=>(na1 x r).run) (λr=>r) x).symm)
structure R9 where
 Q8:List (List Pln)
 d7:List Pln
noncomputable def kb2:List (Nat×Sum):=[(161,Ma8)]
theorem gb0:i7 prog G kb2:=⟨xb5,trivial⟩
structure S1 where
 alt:Nat
 bs0:Bool
 d7:List Pln
noncomputable def B7{α:Type}(kk:S1->α)(x:R9):α:=let t1:=(aa5 ⟨rt (tLs tP) x.Q8,rt tP x.d7⟩);(sl ((cnE (tLs tP) x.Q8)&&((cnE tP x.d7)&&true)) (sl (Nat.beq t1.alt 1) (kk ⟨1,decide (t1.is0>=0),t1.d7⟩) (kk ⟨0,false,[]⟩)) (kk ⟨0,false,[]⟩))
noncomputable def ha8(x:R9):S1:=B7 (λr=>r) x
noncomputable def ea7(x:R9)(r:S1):DT (b7×List b8):=(.ite (Nat.beq r.alt 1) (.ret (b r.bs0,[⟨0,1,[[eL tP r.d7]],true,false,0⟩])) .fail)
theorem qb8{α β:Type}(F:α->β)(kk:S1->α)(x:R9):F (B7 kk x)=B7 (λr=>F (kk r)) x:=by unfold B7;(repeat' apply l6 (f:=F))<;>rfl
noncomputable def Ba7:Sum:=Ra9 ⟨[.s (.c 1 (nL (tLs tP))),.fn 104 [.o (.ptr 0 0 0 0)]],[⟨0,1,true,some [[.c 4 (nL tP)]]⟩],λa H=>(⟨rL (tLs tP) (slT a 0),hLq tP H 0 0 0⟩,())⟩ (λx=>ea7 x (ha8 x))
theorem kb3:g9 prog G 103 Ba7:=J4 (enc:=λx=>⟨[eL (tLs tP) x.Q8,.fn 104 [.ptr 0 0 0 0]],[⟨0,1,[[eL tP x.d7]],true,false,0⟩]⟩) (λa H=>by kernel_rfl) (bd Vf7 gb0) λx=>v8 (Eq.trans (b:=B7 (λr=>(ea7 x r).run) x) (by kernel_rfl) (qb8 (λr=>(ea7 x r).run) (λr=>r) x).symm)
noncomputable def rd6:List (Nat×Sum):=[(103,Ba7)]
theorem ad2:i7 prog G rd6:=⟨kb3,trivial⟩
noncomputable def Va1(x:List Pln)(y:List (List Pln)):Option (b7×List b8):=let t1:=(ha8 ⟨rt (tLs tP) y,rt tP x⟩);(sl ((cnE (tLs tP) y)&&((cnE tP x)&&true)) (sl (Nat.beq t1.alt 1) (some (b (!t1.bs0),[])) none) none)
noncomputable def xa7(x:List Pln)(y:List (List Pln)):Bool:=N6 (one r1B) (Va1 x y)
noncomputable def oa1(x:List Pln)(y:List (List Pln)):Bool:=okO (one r1B) (Va1 x y)
noncomputable def Ob1:Sum:=oa3 (P0 tP) (P0 (tLs tP)) (λx y=>.guard (oa1 x y) (.ret ((one r1B).enc (xa7 x y),[])))
theorem mc0:g9 prog G 45 Ob1:=mb9 (bd b45 ad2) (one r1B) (o:=Va1) λx y=>v8 (by kernel_rfl)
noncomputable def uc0:List (Nat×Sum):=[(49,mb2),(42,eb5)]
theorem rd7:i7 prog G uc0:=⟨Eb5,ub4,trivial⟩
structure Aa8 where
 (Jd6 Jd7 Jd8 Jd9:List (List Pln))
 Zf8:Int
 fb8:List (List Pln)
 kf4:Int
 (sd8 Xa9:List (List Pln))
structure aa6 where
 bs9:Bool
 (na2 mc8:Int)
noncomputable def bc0(p:Aa8)(s:aa6):St:=⟨ra 9 (b s.bs9::i s.na2::.unk::.ptr 0 0 0 0::ra 20 (.agg [eL (tLs tP) p.Jd6,eL (tLs tP) p.Jd7,eL (tLs tP) p.Jd8,eL (tLs tP) p.Jd9]::i p.Zf8::ra 3 (eL (tLs tP) p.fb8::i p.kf4::i s.mc8::ra 16 []))),[⟨0,2,[[eL (tLs tP) p.sd8,eL (tLs tP) p.Xa9]],true,false,0⟩]⟩
noncomputable def Aa9{α:Type}(k:aa6->α)(e:Nat->α)(z:α)(p:Aa8)(s:aa6):α:=let t1:=(aa2 (rt (tLs tP) p.Xa9) (rt tP (gL (tLs tP) p.fb8 s.mc8.toNat)));(sl (decide (s.mc8<p.kf4)) (sl (inB s.mc8 (List.length p.fb8)) (sl (okE (tLs tP) p.Xa9) (sl (okE tP (gL (tLs tP) p.fb8 s.mc8.toNat)) (sl (Aa6 (rt (tLs tP) p.Xa9) (rt tP (gL (tLs tP) p.fb8 s.mc8.toNat))) (sl (!t1.1) (e 1) (k ⟨t1.1,t1.2,W (s.mc8+1)⟩)) z) z) z) z) (e 2))
noncomputable def ka0(p:Aa8)(s:aa6):Stp aa6:=Aa9 .next .exit .fail p s
noncomputable def Eb8:Lo Aa8 aa6:=⟨En uc0,0,Rf4,[1,1,1,1,0,1,4,4,1,1,0,4,1,1,4,4],[9,10,12,33,34,38,39,40],.p,[⟨ru2 9 (sBq::sIq::sUq::sPq 0::ru2 20 (.agg [.c 1 (nL (tLs tP)),.c 1 (nL (tLs tP)),.c 1 (nL (tLs tP)),.c 1 (nL (tLs tP))]::sIq::ru2 3 (.s (.c 1 (nL (tLs tP)))::sIq::sIq::ru2 16 []))),[⟨0,2,true,some [[.c 1 (nL (tLs tP)),.c 1 (nL (tLs tP))]]⟩],λa H=>(⟨rL (tLs tP) (slT (cellsOf (slT a 33)) 0),rL (tLs tP) (slT (cellsOf (slT a 33)) 1),rL (tLs tP) (slT (cellsOf (slT a 33)) 2),rL (tLs tP) (slT (cellsOf (slT a 33)) 3),aIq a 34,rL (tLs tP) (slT a 38),aIq a 39,rL (tLs tP) (slT (rwT (elT H 0) 0) 0),rL (tLs tP) (slT (rwT (elT H 0) 0) 1)⟩,⟨aBq a 9,aIq a 10,aIq a 40⟩)⟩],ka0,[(some 2,λp s=>let t1:=(aa2 (rt (tLs tP) p.Xa9) (rt tP (gL (tLs tP) p.fb8 s.mc8.toNat)));⟨ra 9 (b t1.1::i t1.2::.unk::.ptr 0 0 0 0::.unk::eL tP (gL (tLs tP) p.fb8 s.mc8.toNat)::ra 18 (.agg [eL (tLs tP) p.Jd6,eL (tLs tP) p.Jd7,eL (tLs tP) p.Jd8,eL (tLs tP) p.Jd9]::i p.Zf8::ra 3 (eL (tLs tP) p.fb8::i p.kf4::i s.mc8::b (decide (s.mc8<p.kf4))::.tptr [eL tP (gL (tLs tP) p.fb8 s.mc8.toNat)]::eL tP (gL (tLs tP) p.fb8 s.mc8.toNat)::.tup [b t1.1,i t1.2]::.ptr 0 0 1 0::eL (tLs tP) p.Xa9::eL tP (gL (tLs tP) p.fb8 s.mc8.toNat)::.tup [b t1.1,i t1.2]::b t1.1::i t1.2::b t1.1::b (!t1.1)::ra 4 []))),[⟨0,2,[[eL (tLs tP) p.sd8,eL (tLs tP) p.Xa9]],true,false,0⟩]⟩),(some 4,λp s=>upq (bc0 p s) [(41,b (decide (s.mc8<p.kf4)))])],bc0⟩
theorem ad3:Eb8.Ok:=Lo.ok [] (by kernel_rfl) .nil rfl (.cons (λa H=>by kernel_rfl) .nil) λp s=>(.of @Aa9 (λF _ _ _ _ _=>by unfold Aa9;(repeat' apply l6 (f:=F))<;>rfl) (by kernel_rfl))
noncomputable def eb6(x:List (List Pln))(y:List (List Pln)):Option (b7×List b8):=let t1:=(X7 (rt (tLs tP) x));let t2:=(X7 (rt (tLs tP) y));let t3:=(lp (ka0 (⟨rt (tLs tP) x,rt (tLs tP) y,rt (tLs tP) y,rt (tLs tP) x,0,rt (tLs tP) x,(↑(List.length x):Int),rt (tLs tP) x,rt (tLs tP) y⟩:Aa8)) (⟨true,0,0⟩:aa6));let t4:=(aa2 (rt (tLs tP) (rt (tLs tP) y)) (rt tP (gL (tLs tP) (rt (tLs tP) x) t3.2.mc8.toNat)));let t5:=(lp (ka0 (⟨rt (tLs tP) (rt (tLs tP) x),rt (tLs tP) (rt (tLs tP) y),rt (tLs tP) (rt (tLs tP) y),rt (tLs tP) (rt (tLs tP) x),1,rt (tLs tP) (rt (tLs tP) y),(↑(List.length (rt (tLs tP) y)):Int),rt (tLs tP) (rt (tLs tP) y),rt (tLs tP) (rt (tLs tP) x)⟩:Aa8)) (⟨t3.2.bs9,t3.2.na2,0⟩:aa6));let t6:=(aa2 (rt (tLs tP) (rt (tLs tP) (rt (tLs tP) x))) (rt tP (gL (tLs tP) (rt (tLs tP) (rt (tLs tP) y)) t5.2.mc8.toNat)));(sl (okE (tLs tP) x) (sl (X8 (rt (tLs tP) x)) (sl (t1 != 0) (some (.tup [b false,i t1],[])) (sl (okE (tLs tP) y) (sl (X8 (rt (tLs tP) y)) (sl (t2 != 0) (some (.tup [b false,i t2],[])) (sl ((cnE (tLs tP) x)&&((cnE (tLs tP) y)&&((cnE (tLs tP) y)&&((cnE (tLs tP) x)&&((cnE (tLs tP) x)&&((cnE (tLs tP) x)&&((cnE (tLs tP) y)&&true))))))) (sl (Nat.beq t3.1 1) (some (.tup [b t4.1,i t4.2],[])) (sl (Nat.beq t3.1 2) (sl ((cnE (tLs tP) (rt (tLs tP) x))&&((cnE (tLs tP) (rt (tLs tP) y))&&((cnE (tLs tP) (rt (tLs tP) y))&&((cnE (tLs tP) (rt (tLs tP) x))&&((cnE (tLs tP) (rt (tLs tP) y))&&((cnE (tLs tP) (rt (tLs tP) y))&&((cnE (tLs tP) (rt (tLs tP) x))&&true))))))) (sl (Nat.beq t5.1 1) (some (.tup [b t6.1,i t6.2],[])) (sl (Nat.beq t5.1 2) (some (.tup [b t5.2.bs9,i t5.2.na2],[])) none)) none) none)) none)) none) none)) none) none)
noncomputable def xb6(x:List (List Pln))(y:List (List Pln)):Bool×Int:=N6 (two r1B r1I) (eb6 x y)
noncomputable def xb7(x:List (List Pln))(y:List (List Pln)):Bool:=okO (two r1B r1I) (eb6 x y)
noncomputable def Jc9:Sum:=oa3 (P0 (tLs tP)) (P0 (tLs tP)) (λx y=>.guard (xb7 x y) (.ret ((two r1B r1I).enc (xb6 x y),[])))
theorem Ad1:g9 prog G 47 Jc9:=mb9 (bd b47 rd7) (two r1B r1I) (o:=eb6) λx y=>wa1 (.s .p (.s .p (.s .p (.s .p (.s (.s .p (.b (.l (.s .p (.s .p (.s (.b (.s .p (.s .p (.b (.u Eb8.ls))))) .p)))))) .p))))) [Eb8.pr] (by kernel_rfl) (.cons ad3 .nil) (by kernel_rfl)
noncomputable def mb4(c:List Pln)(s:List (List Pln)):Bool:=!s.any λq=>!apart c q
theorem Le3{c q:List Pln}(hc:c.length<=1000000)(hq:q.length<=1000000):Wa6 ⟨q,c⟩=⟨1,!apart c q⟩:=by
 unfold Wa6 ta2;simp only[i5,o5,Ae1 (a:=c) (c:=q) (by omega) (by omega),Ae2 (a:=c) (c:=q) (by omega) (by omega),f9]
theorem Jd0(c:List Pln)(s:List (List Pln))(hc:c.length<=1000000)(hs:s.length<=1000000)(hl:∀q∈s,q.length<=1000000):Va1 c s=some (b (mb4 c s),[]):=by
 have h:=Na8 (step:=I0 ⟨s,(s.length:Int)⟩) (mk:=λj=>(⟨(j:Int),c⟩:o9)) (c:=λq=>!apart c q) (u:=1) (fin:=2) (tLs tP) s (by omega)
  (λj hj=>by
   have hq:=hl _ (va9 (tLs tP) hj);simp only[I0,G2,Int.toNat_natCast,i5,i8,Le3 hc hq,n8 hj (show s.length<=4611686018427387904 by omega),f9,Qlc]
   rw[btD (g7 hj),bt (f0 hj)]
   rfl)
  (by simp only[I0,G2];rw[bfD (l9 (Qlg _))]) 0 (Qle _)
 rw[Qlab,Qls] at h;have hI:aa5 ⟨s,c⟩=⟨1,if s.any (λq=>!apart c q) then ((s.findIdx (λq=>!apart c q):Nat):Int) else -1,c⟩:=by
  unfold aa5 G3;simp only[i5,i8];rw[show (⟨0,c⟩:o9)=⟨((0:Nat):Int),c⟩ from rfl,h]
  cases s.any (λq=>!apart c q)<;>rfl
 unfold Va1 mb4 ha8 B7;simp only[i5,i8,hI];cases hA:s.any (λq=>!apart c q) with
 |true =>
  simp only[if_true]
  have:decide (((s.findIdx (λq=>!apart c q):Nat):Int)>=0)=true:=decide_eq_true (by omega)
  rw[this];rfl
 |false=>rfl
theorem Kc0{c:List Pln}{s:List (List Pln)}(hc:c.length<=1000000)(hs:s.length<=1000000)(hl:∀q∈s,q.length<=1000000):xa7 c s=mb4 c s:=by unfold xa7;rw[Jd0 c s hc hs hl];rfl
theorem Kc1{c:List Pln}{s:List (List Pln)}(hc:c.length<=1000000)(hs:s.length<=1000000)(hl:∀q∈s,q.length<=1000000):oa1 c s=true:=by unfold oa1;rw[Jd0 c s hc hs hl];rfl
noncomputable def inR(s t:List (List Pln)):Bool×Int:=match s.find? λc=>!(w9 t c).1 with
 |some c=>w9 t c
 |none=>(true,0)
noncomputable def Sb1(x y:List (List Pln)):Bool×Int:=if schk x != 0 then (false,schk x) else if schk y != 0 then (false,schk y) else if (inR x y).1 then inR y x else inR x y
theorem Ud3{x:List (List Pln)}{y:List Pln}(h:(w9 x y).1=true):(w9 x y).2=0:=by
 unfold w9 at *
 rw[Qlx] at h;exact beq_iff_eq.1 h.1
theorem Jd1 (a0 a1 a2 a3 : List (List Pln)) (n34 : Int) (s t u : List (List Pln)) (hs : s.length ≤ 1000000) (hl : ∀ q ∈ s, q.length ≤ 1000000) (ht : t.length ≤ 1000000) (htl : ∀ q ∈ t, q.length ≤ 1000000) :
  lp (ka0 ⟨a0,a1,a2,a3,n34,s,(s.length:Int),u,t⟩) ⟨true,0,0⟩=if s.any (λc=>!(w9 t c).1) then (1,⟨true,0,((s.findIdx (λc=>!(w9 t c).1):Nat):Int)⟩) else (2,⟨true,0,(s.length:Int)⟩):=by
 have h:=Na8 (step:=ka0 ⟨a0,a1,a2,a3,n34,s,(s.length:Int),u,t⟩) (mk:=λj=>(⟨true,0,(j:Int)⟩:aa6)) (c:=λc=>!(w9 t c).1) (u:=1) (fin:=2) (tLs tP) s (by omega)
  (λj hj=>by
   have hq:=hl _ (va9 (tLs tP) hj);simp only[ka0,Aa9,Int.toNat_natCast,i5,o5,lc9 hq ht htl,rd5 hq ht htl,n8 hj (show s.length<=4611686018427387904 by omega),f9]
   rw[btD (g7 hj),bt (f0 hj)];cases hc:(w9 t (gL (tLs tP) s j)).1 with
   |false=>rfl
   |true=>rw[Ud3 hc])
  (by simp only[ka0,Aa9];rw[bfD (l9 (Qlg _))]) 0 (Qle _)
 rw[Qlab,Qls] at h;exact h
theorem Ce2{s t:List (List Pln)}(h:s.any (λc=>!(w9 t c).1)=true):inR s t=w9 t (gL (tLs tP) s (s.findIdx λc=>!(w9 t c).1))/\(inR s t).1=false/\gL (tLs tP) s (s.findIdx λc=>!(w9 t c).1)∈s:=by
 have hlt:s.findIdx (λc=>!(w9 t c).1)<s.length:=Qlv.2 (Qlag.1 h)
 have e:inR s t=w9 t (gL (tLs tP) s (s.findIdx λc=>!(w9 t c).1)):=by unfold inR;rw[Ud0 (tLs tP) s _ h]
 have:=List.find?_some (Ud0 (tLs tP) s _ h)
 exact⟨e,by rw[e];simpa using this,va9 (tLs tP) hlt⟩
theorem Kc2{s t:List (List Pln)}(h:s.any (λc=>!(w9 t c).1)=false):inR s t=(true,0):=by
 unfold inR;rw[Qlt.2 λc hc=>by have:=Qlae.1 h c hc;simpa using this]
theorem ke2(x y:List (List Pln))(hx:x.length<=1000000)(hxl:∀q∈x,q.length<=1000000)(hy:y.length<=1000000)(hyl:∀q∈y,q.length<=1000000):eb6 x y=some (.tup [b (Sb1 x y).1,i (Sb1 x y).2],[]):=by
 unfold eb6 Sb1;simp only[i5,o5,i8,lc7 hx hxl,lc8 hx hxl,lc7 hy hyl,lc8 hy hyl,f9,Qlc];rw[Jd1 x y y x 0 x y x hx hxl hy hyl];cases h1:schk x != 0 with
 |true=>rfl
 |false =>
  cases h2:schk y != 0 with
  |true=>rfl
  |false =>
   simp only[G0,Qlm,if_false];cases ha:x.any λc=>!(w9 y c).1 with
   |true =>
    obtain⟨e1,e2,e3⟩:=Ce2 ha;simp only[if_true,Int.toNat_natCast,lc9 (hxl _ e3) hy hyl,e2,Qlm,if_false];rw[e1] at e2 ⊢;rw[e2];rfl
   |false =>
    have e:=Kc2 ha;simp only[Qlm,if_false,e,if_true];rw[Jd1 x y y x 1 y x y hy hyl hx hxl];cases hc:y.any λc=>!(w9 x c).1 with
    |true =>
     obtain⟨e1,e2,e3⟩:=Ce2 hc;simp only[if_true,Int.toNat_natCast,lc9 (hyl _ e3) hx hxl];rw[e1];rfl
    |false =>
     rw[Kc2 hc];rfl
theorem xf9{x y:List (List Pln)}(hx:x.length<=1000000)(hxl:∀q∈x,q.length<=1000000)(hy:y.length<=1000000)(hyl:∀q∈y,q.length<=1000000):xb6 x y=Sb1 x y:=by unfold xb6;rw[ke2 x y hx hxl hy hyl];rfl
theorem yf0{x y:List (List Pln)}(hx:x.length<=1000000)(hxl:∀q∈x,q.length<=1000000)(hy:y.length<=1000000)(hyl:∀q∈y,q.length<=1000000):xb7 x y=true:=by unfold xb7;rw[ke2 x y hx hxl hy hyl];rfl
def Fv:V3:=⟨10000,100,1⟩
theorem Nf7{a c:V3}(ha:inV a=true)(hc:inV c=true)(h:dot Fv a=dot Fv c):a=c:=by
 obtain⟨⟨a1,a2⟩,⟨a3,a4⟩,a5,a6⟩:=(Jb2 a).1 ha;obtain⟨⟨c1,c2⟩,⟨c3,c4⟩,c5,c6⟩:=(Jb2 c).1 hc;simp only[dot,Fv] at h;exact V3.ext' (by omega) (by omega) (by omega)
structure Crs(l:List V3)(p:Pln)(v:V3):Prop where
 h:∃u w,u∈l/\w∈l/\dot p.n u=p.b/\dot p.n w=p.b/\dot Fv w<dot Fv v/\dot Fv v<dot Fv u/\N3 v u w≠⟨0,0,0⟩
 on:dot p.n v=p.b
theorem yf1(u w x:V3):N3 u x w=neg (N3 u w x):=by simp only[N3,d9,Ra4,neg,V3.mk.injEq];refine⟨?_,?_,?_⟩<;>grind
theorem gf1(u w x:V3):N3 w x u=N3 u w x:=by simp only[N3,d9,Ra4,V3.mk.injEq];refine⟨?_,?_,?_⟩<;>grind
theorem Yf9{d:V3}(h:neg d=⟨0,0,0⟩):d=⟨0,0,0⟩:=by
 simp only[neg,V3.mk.injEq] at h;exact V3.ext' (by show d.x=0;omega) (by show d.y=0;omega) (by show d.z=0;omega)
section
variable{l:List V3}(hl:l.all inV=true)
include hl
theorem gf2{p:Pln}(hp:Jc5 l p):∃v∈l,Crs l p v:=by
 obtain⟨u,w,x,hu,hw,hx,h3,t1,t2,t3⟩:=hp.on;have hi:=Qli.1 hl;obtain⟨n1,n3,n2⟩:=Ef9 h3;have ne:∀{a c:V3},a∈l->c∈l->a≠c->dot Fv a<dot Fv c\/dot Fv c<dot Fv a:=λ{a c} ha hc h=>by
  have:dot Fv a≠dot Fv c:=λe=>h (Nf7 (hi a ha) (hi c hc) e)
  omega
 have sw:∀{a c d:V3},N3 a c d≠⟨0,0,0⟩->N3 a d c≠⟨0,0,0⟩:=λ{a c d} h e=>h (by
  have e2:=yf1 a c d;rw[e] at e2;exact Yf9 e2.symm)
 have m:∀{a c d:V3},a∈l->c∈l->d∈l->N3 c d a≠⟨0,0,0⟩->dot p.n a=p.b->dot p.n c=p.b->dot p.n d=p.b->dot Fv a<dot Fv c->dot Fv c<dot Fv d->∃v∈l,Crs l p v :=
  λ{a c d} ha hc hd hn ta tc td h1 h2=>⟨c,hc,⟨⟨d,a,hd,ha,td,ta,h1,h2,hn⟩,tc⟩⟩
 have r1:N3 w x u≠⟨0,0,0⟩:=by rw[gf1];exact h3
 have r2:N3 x u w≠⟨0,0,0⟩:=by rw[gf1];exact r1
 rcases ne hu hw n1 with a|a<;>rcases ne hw hx n2 with c|c<;>rcases ne hu hx n3 with d|d
 ·exact m hu hw hx r1 t1 t2 t3 a c
 ·omega
 ·exact m hu hx hw (sw r2) t1 t3 t2 d c
 ·exact m hx hu hw (h3) t3 t1 t2 d a |>.elim λv h=>⟨v,h⟩
 ·exact m hw hu hx (sw h3) t2 t1 t3 a d
 ·exact m hw hx hu r2 t2 t3 t1 c d
 ·omega
 ·exact m hx hw hu (sw r1) t3 t2 t1 c a
theorem gf3(hs:Sol l){p q:Pln}(hp:Jc5 l p)(hq:Jc5 l q){u w x:V3}(hu:u∈l)(hw:w∈l)(hx:x∈l)(h3:N3 u w x≠⟨0,0,0⟩)(p1:dot p.n u=p.b)(p2:dot p.n w=p.b)(p3:dot p.n x=p.b)(q1:dot q.n u=q.b)(q2:dot q.n w=q.b)(q3:dot q.n x=q.b):p=q:=by
 have hi:=Qli.1 hl;have hT:=(Jb6 (je8 (hi u hu) (hi w hw) (hi x hx) h3)).2;have fl:∀{p:Pln},Jc5 l p->Jc5 l (V9 p)->False:=λ{p} h h'=>by
  obtain⟨v,hv,hne⟩:=hs.off (pd6 h.ok) p.b;have a:=h.hd v hv;have c:=h'.hd v hv;rw[je3] at c;have c:-dot p.n v<=-p.b:=c;omega
 rcases rd1 hT hp.ok p1 p2 p3 with e|e<;>rcases rd1 hT hq.ok q1 q2 q3 with e'|e'
 ·rw[e,e']
 ·rw[e',<- e] at hq;exact (fl hp hq).elim
 ·rw[e,<- e'] at hp;exact (fl hq hp).elim
 ·rw[e,e']
theorem Ud4(hs:Sol l){p:Pln}{v:V3}(hp:Jc5 l p)(hv:v∈l)(h:Crs l p v):∃d:V3,dot Fv d=0/\dot p.n d=0/\∀q,Jc5 l q->dot q.n v=q.b->q≠p->dot q.n d<0:=by
 obtain⟨⟨u,w,hu,hw,tu,tw,h1,h2,h3⟩,tv⟩:=h;generalize ha:dot Fv v-dot Fv w=a at *
 generalize hc:dot Fv u-dot Fv v=c at *
 have dd:∀n:V3,dot n ⟨c*(w.x-v.x)+a*(u.x-v.x),c*(w.y-v.y)+a*(u.y-v.y),c*(w.z-v.z)+a*(u.z-v.z)⟩=c*(dot n w-dot n v)+a*(dot n u-dot n v):=λn=>by simp only[dot];grind
 refine⟨⟨c*(w.x-v.x)+a*(u.x-v.x),c*(w.y-v.y)+a*(u.y-v.y),c*(w.z-v.z)+a*(u.z-v.z)⟩,?_,?_,λq hq tq hne=>?_⟩
 ·rw[dd,<- ha,<- hc];grind
 ·rw[dd,tu,tw,tv];simp
 ·rw[dd,tq];have g1:=hq.hd w hw;have g2:=hq.hd u hu;have e1:c*(dot q.n w-q.b)<=0:=Qlu (by omega) (by omega)
  have e2:a*(dot q.n u-q.b)<=0:=Qlu (by omega) (by omega)
  apply Qlo;intro hno;have z1:=(Qlaj.1 (show c*(dot q.n w-q.b)=0 by omega)).resolve_left (by omega)
  have z2:=(Qlaj.1 (show a*(dot q.n u-q.b)=0 by omega)).resolve_left (by omega)
  exact hne (gf3 hl hs hq hp hv hu hw h3 tq (by omega) (by omega) tv tu tw)
end
theorem opp{x y A B:Int}(hA:A<0)(hB:B<0)(h:x*A+y*B=0):(0<x->y<0)/\(x<0->0<y)/\(x=0->y=0):=by
 refine⟨λhx=>?_,λhx=>?_,λhx=>?_⟩
 ·have:=Qlaf hx hA
  have h2:0<y*B:=by omega
  rcases Int.lt_trichotomy y 0 with h3|h3|h3
  ·exact h3
  ·rw[h3] at h2;simp at h2
  ·have:=Qlaf h3 hB;omega
 ·have:=Qlp hx hA
  have h2:y*B<0:=by omega
  rcases Int.lt_trichotomy y 0 with h3|h3|h3
  ·have:=Qlp h3 hB;omega
  ·rw[h3] at h2;simp at h2
  ·exact h3
 ·rw[hx] at h;exact (Qlaj.1 (show y*B=0 by omega)).resolve_right (by omega)
theorem yf2{l:List V3}(hl:l.all inV=true)(hs:Sol l){p q r:Pln}{v:V3}(hv:v∈l)(hp:Jc5 l p)(hq:Jc5 l q)(hr:Jc5 l r)(cp:Crs l p v)(cq:Crs l q v)(cr:Crs l r v):p=q\/q=r\/p=r:=by
 apply Qlo;intro hno;have n1:p≠q:=λe=>hno (.inl e)
 have n2:q≠r:=λe=>hno (.inr (.inl e))
 have n3:p≠r:=λe=>hno (.inr (.inr e))
 obtain⟨a,fa,pa,ha⟩:=Ud4 hl hs hp hv cp;obtain⟨c,fc,qc,hc⟩:=Ud4 hl hs hq hv cq;obtain⟨d,fd,rd,hd⟩:=Ud4 hl hs hr hv cr;have pc:=hc p hp cp.on n1;have pd:=hd p hp cp.on n3;have qa:=ha q hq cq.on (Ne.symm n1);have qd:=hd q hq cq.on n2;have ra:=ha r hr cr.on (Ne.symm n3);have rc:=hc r hr cr.on (Ne.symm n2)
 -- the Qf1 directions lie in a plane
 have hdet:dot a (d9 c d)=0:=by
  have e:dot Fv Fv*dot a (d9 c d)=dot Fv a*dot Fv (d9 c d)+dot Fv c*dot Fv (d9 d a)+dot Fv d*dot Fv (d9 a c):=by simp only[dot,d9,Fv];grind
  rw[fa,fc,fd] at e;have hF:dot Fv Fv=100010001:=by decide
  rw[hF] at e;omega
 have lin:∀n:V3,dot Fv (d9 c d)*dot n a+dot Fv (d9 d a)*dot n c+dot Fv (d9 a c)*dot n d=0:=λn=>by
  have e:dot Fv (d9 c d)*dot n a+dot Fv (d9 d a)*dot n c+dot Fv (d9 a c)*dot n d=dot a (d9 c d)*dot n Fv:=by simp only[dot,d9];grind
  rw[e,hdet,Int.zero_mul]
 have lp:=lin p.n;have lq:=lin q.n;have lr:=lin r.n;rw[pa] at lp;rw[qc] at lq;rw[rd] at lr;obtain⟨i1,i2,i3⟩:=opp pc pd (by omega:dot Fv (d9 d a)*dot p.n c+dot Fv (d9 a c)*dot p.n d=0)
 obtain⟨j1,j2,j3⟩:=opp qa qd (by omega:dot Fv (d9 c d)*dot q.n a+dot Fv (d9 a c)*dot q.n d=0)
 obtain⟨k1,k2,k3⟩:=opp ra rc (by omega:dot Fv (d9 c d)*dot r.n a+dot Fv (d9 d a)*dot r.n c=0)
 have z:dot Fv (d9 a c)=0:=by omega
 -- so two of them are alike
 have cr0:d9 a c=⟨0,0,0⟩:=by
  have e1:dot Fv Fv*(d9 a c).x=Fv.x*dot Fv (d9 a c)+dot Fv a*(d9 Fv c).x-dot Fv c*(d9 Fv a).x:=by simp only[dot,d9,Fv];grind
  have e2:dot Fv Fv*(d9 a c).y=Fv.y*dot Fv (d9 a c)+dot Fv a*(d9 Fv c).y-dot Fv c*(d9 Fv a).y:=by simp only[dot,d9,Fv];grind
  have e3:dot Fv Fv*(d9 a c).z=Fv.z*dot Fv (d9 a c)+dot Fv a*(d9 Fv c).z-dot Fv c*(d9 Fv a).z:=by simp only[dot,d9,Fv];grind
  rw[z,fa,fc] at e1 e2 e3;have hF:dot Fv Fv=100010001:=by decide
  rw[hF] at e1 e2 e3;exact V3.ext' (by show (d9 a c).x=0;omega) (by show (d9 a c).y=0;omega) (by show (d9 a c).z=0;omega)
 have k:∀n:V3,dot p.n c*dot n a=dot p.n a*dot n c+dot n (d9 p.n (d9 a c)):=λn=>by simp only[dot,d9];grind
 have hk:=k q.n;rw[cr0,pa,qc] at hk;have e0:dot q.n (d9 p.n ⟨0,0,0⟩)=0:=by simp[dot,d9]
 rw[e0] at hk
 have:=Qlp pc qa
 omega
theorem Nf8{α:Type}{l:List α}(hn:l.Nodup)(h:∀x∈l,∀y∈l,∀z∈l,x=y\/y=z\/x=z):l.length<=2:=by
 match l with
 |[]=>simp
 |[_]=>simp
 |[_,_]=>simp
 |x::y::z::l =>
  exfalso;simp only[List.nodup_cons,Qlw,not_or] at hn
  rcases h x (by simp) y (by simp) z (by simp) with e|e|e
  ·exact hn.1.1 e
  ·exact hn.2.1.1 e
  ·exact hn.1.2.1 e
theorem Jd2{α β:Type}{R:α->β->Prop}:∀(B:List β) (A:List α),A.Nodup->(∀x∈A,∃v∈B,R x v)->(∀v∈B,∀x∈A,∀y∈A,∀z∈A,R x v->R y v->R z v->x=y\/y=z\/x=z)->A.length<=2*B.length
 |[],A,_,h1,_=>by
  cases A with
  |nil=>simp
  |cons a A=>obtain⟨v,hv,_⟩:=h1 a (by simp);cases hv
 |b::B,A,hn,h1,h2=>by
  classical
  have hs:A.length=(A.filter λx=>decide (R x b)).length+(A.filter λx=>!decide (R x b)).length:=by
   rw[<- Qlk,<- Qlk]
   have:=Qly (λx=>decide (R x b)) (l:=A)
   rw[this];congr 1;apply List.countP_congr;intro x _;simp
  have a1:(A.filter λx=>decide (R x b)).length<=2:=Nf8 (hn.filter _) λx hx y hy z hz=>by
   obtain⟨x1,x2⟩:=Qlj.1 hx;obtain⟨y1,y2⟩:=Qlj.1 hy;obtain⟨z1,z2⟩:=Qlj.1 hz;exact h2 b (by simp) x x1 y y1 z z1 (of_decide_eq_true x2) (of_decide_eq_true y2) (of_decide_eq_true z2)
  have a2:=Jd2 (R:=R) B (A.filter λx=>!decide (R x b)) (hn.filter _) (λx hx=>by
   obtain⟨x1,x2⟩:=Qlj.1 hx;have x2:¬ R x b:=by simpa using x2
   obtain⟨v,hv,hr⟩:=h1 x x1
   rcases Qlw.1 hv with rfl|hv
   ·exact absurd hr x2
   ·exact⟨v,hv,hr⟩) (λv hv x hx y hy z hz=>h2 v (by simp[hv]) x (Qlj.1 hx).1 y (Qlj.1 hy).1 z (Qlj.1 hz).1)
  simp only[List.length_cons];omega
theorem gf4{α:Type}(f:α->Int):∀l:List α,l≠[]->∃m∈l,∀x∈l,f m<=f x
 |[],h=>absurd rfl h
 |[a],_=>⟨a,by simp,λx hx=>by rw[Qlh.1 hx];exact Int.le_refl _⟩
 |a::c::l,_=>by
  obtain⟨m,hm,h⟩:=gf4 f (c::l) (by simp)
  by_cases hle:f a<=f m
  ·refine⟨a,by simp,λx hx=>?_⟩
   rcases Qlw.1 hx with rfl|hx
   ·exact Int.le_refl _
   ·have:=h x hx;omega
  ·refine⟨m,List.mem_cons_of_mem _ hm,λx hx=>?_⟩
   rcases Qlw.1 hx with rfl|hx
   ·omega
   ·exact h x hx
theorem Nf9{l:List V3}(hl:l.all inV=true)(hf:nf0 l=true):(F0 l).length<=2*(l.length-2):=by
 classical
 have hs:=Nf6 hf;have hF:∀p∈F0 l,Jc5 l p:=λp hp=>(xf1 hl p).1 hp
 obtain⟨v0,hv0⟩:=hs.ne;have hne:l≠[]:=λe=>by rw[e] at hv0;cases hv0
 obtain⟨m,hm,hmin⟩:=gf4 (dot Fv) l hne;obtain⟨M,hM,hmax⟩:=gf4 (λv=>-dot Fv v) l hne
 by_cases h0:F0 l=[]
 ·rw[h0];simp
 obtain⟨p0,hp0⟩:=List.exists_mem_of_ne_nil _ h0;obtain⟨v1,hv1,c1⟩:=gf2 hl (hF p0 hp0);obtain⟨u1,w1,hu1,hw1,_,_,q1,q2,_⟩:=c1.h;have hmM:m≠M:=λe=>by
  have a1:=hmin w1 hw1;have a2:=hmax u1 hu1;subst e;omega
 have hB:(l.filter λv=>decide (v≠m)&&decide (v≠M)).length+2<=l.length:=by
  have e:=Qly (λv=>decide (v≠m)&&decide (v≠M)) (l:=l)
  rw[Qlk] at e;rw[Qlk] at e
  have:([m,M]:List V3).length<=(l.filter λa=>decide (¬ (decide (a≠m)&&decide (a≠M))=true)).length :=
   List.Nodup.length_le_of_subset (by simp[hmM]) (λx hx=>by
    simp only[Qlw,List.not_mem_nil,or_false] at hx;rw[Qlj]
    rcases hx with rfl|rfl
    ·exact⟨hm,by simp⟩
    ·exact⟨hM,by simp⟩)
  simp only[List.length_cons,List.length_nil] at this;omega
 have:=Jd2 (R:=λp v=>Crs l p v) (l.filter λv=>decide (v≠m)&&decide (v≠M)) (F0 l) (Hd3 (Nf1 l))
  (λp hp=>by
   obtain⟨v,hv,c⟩:=gf2 hl (hF p hp);refine⟨v,Qlj.2 ⟨hv,?_⟩,c⟩;obtain⟨u,w,hu,hw,_,_,g1,g2,_⟩:=c.h;have a1:=hmin w hw;have a2:=hmax u hu;have k1:v≠m:=λe=>by subst e;omega
   have k2:v≠M:=λe=>by subst e;omega
   simp[k1,k2])
  (λv hv p hp q hq r hr=>yf2 hl hs (Qlj.1 hv).1 (hF p hp) (hF q hq) (hF r hr))
 omega
structure gf5 where
 b9:List Pln
 (is2 f7 d8 f8:Int)
structure gf6 where
 ph:Nat
 is9:Int
 ns8:Nat
 eh1:List (List b7)
structure lf7 where
 g8:List V3
 (f7 d8 f8:Int)
structure lf8 where
 is5:Int
structure Ff1 where
 g8:List V3
 (f7 d8 f8:Int)
structure Ff2 where
 is5:Int
structure gf7 where
 b9:List Pln
 (f7 d8 f8:Int)
structure gf8 where
 ph:Nat
 is6:Int
 ns5:Nat
 eh1:List (List b7)
structure gf9 where
 ns5:Nat
 (is7 is8:Int)
 eh0:List (List b7)
structure hf0 where
 ph:Nat
 is9:Int
structure hf3 where
 is7:Int
structure hf4 where
 (ph ns5:Nat)
 is8:Int
 eh0:List (List b7)
structure hf5 where
structure hf6 where
 ph:Nat
 is7:Int
 ns5:Nat
 eh0:List (List b7)
structure Oe7 where
 g8:List V3
 aa8:List Pln
structure Oe8 where
 ph:Nat
 is7:Int
 lg8:List V3
structure Ff3 where
 (g8 Kb3:List V3)
 is7:Int
structure Ff4 where
 ph:Nat
 is8:Int
 ns6:Nat
 eh0:List (List b7)
structure Ff5 where
structure Ff6 where
 ph:Nat
 (g8 Kb3:List V3)
 is7:Int
 ns6:Nat
 eh0:List (List b7)
structure Oe9 where
 g8:List V3
 (f7 d8 f8:Int)
structure Pe0 where
 (is6 is7:Int)
structure Le4 where
 (g8 Kb3:List V3)
structure Le5 where
 is5:Int
structure lf9 where
 g8:List V3
 (f7 d8 f8:Int)
structure mf0 where
 ph:Nat
 is6:Int
 ns5:Nat
 eh1:List (List b7)
structure Pe1 where
 (f7 d8 f8:Int)
structure Pe2 where
 ph:Nat
 is4:Int
 ns3:Nat
 eh1:List (List b7)
structure mf1 where
 Q8:List (List Pln)
structure mf2 where
 is3:Int
structure mf3 where
 ea1:List Pln
structure mf4 where
 ph:Nat
 Ff7:List Pln
 is8:Int
 ns6:Nat
 eh0:List (List b7)
structure Pe3 where
 Q8:List (List Pln)
 ea1:List Pln
structure Pe4 where
 ph:Nat
 is7:Int
 ns6:Nat
 eh0:List (List b7)
structure mf5 where
 ve6:List (List Pln)
 d7:List Pln
structure mf6 where
 ph:Nat
 is8:Int
 Fb6:List (List Pln)
structure mf7 where
 b9:List Pln
 ve6:List (List Pln)
structure mf8 where
 is5:Int
structure hf7 where
 (Q8 ve6:List (List Pln))
structure hf8 where
 is6:Int
structure Le6 where
 (Q8 ve6:List (List Pln))
structure Le7 where
 is5:Int
end Go.Ev.Ce
namespace Go.Ev
open Go Go.ChangeShapes Go.RowKit
structure rd8(w w':World):Prop where
 os:w'.os=w.os
 output:w'.output=w.output
 size:w.heap.size<=w'.heap.size
 block:∀k,k<w.heap.size->w'.heap[k]?=w.heap[k]?
theorem rd8.kept{w w':World}(h:rd8 w w')(may:MemPlace->Prop):w.keptBut w' may:=by
 refine⟨h.os,h.output,λi hi=>?_⟩
 rw[h.block i hi];cases w.heap[i]? with
 |none=>rfl
 |some o=>cases o<;>first | exact⟨rfl,rfl,rfl,λ_ _=>rfl⟩ | exact .inr ⟨rfl,rfl⟩ | rfl
theorem rd8.frozen{w w':World}(h:rd8 w w')(b off:Nat)(hb:b<w.heap.size):w'.frozen? ⟨b,off,none⟩=w.frozen? ⟨b,off,none⟩:=by
 simp only[World.frozen?,h.block b hb]
theorem rd8.cell{w w':World}(h:rd8 w w')(b off:Nat)(hb:b<w.heap.size):w'.cell? ⟨b,off,none⟩=w.cell? ⟨b,off,none⟩:=by
 simp only[World.cell?,h.block b hb]
theorem rd8.same{w w':World}(h:rd8 w w')(p:MemPlace)(hp:p.block<w.heap.size):w.sameAt w' p:=by
 cases p with
 |cell b off=>exact h.cell b off hp
 |map b=>exact h.block b hp
theorem Sb2{α β:Type}{f:α->Option β}:∀{l:List α} {r:List β},l.mapM f=some r->r.length=l.length/\∀(j:Nat) y,r[j]?=some y->∃x,l[j]?=some x/\f x=some y
 |[],r,h=>by
  have:r=[]:=by simpa using h.symm
  subst this;simp
 |x::l,r,h=>by
  rw[List.mapM_cons] at h;obtain⟨y,h1,h2⟩:=Qll.1 h;obtain⟨r',h3,h4⟩:=Qll.1 h2
  have:r=y::r':=by simpa using h4.symm
  subst this;obtain⟨g1,g2⟩:=Sb2 h3;refine⟨by simp[g1],λj z hz=>?_⟩
  cases j with
  |zero=>simp at hz;subst hz;exact⟨x,rfl,h1⟩
  |succ j=>simpa using g2 j z (by simpa using hz)
section
variable{D:Type}{enc:TypeId×Value->D}{P:Program}
theorem uc1 {T : TypeId → Prop} (K : Kids P T) (hsz : ∀ {t e : TypeId}, T t → P.underlying t = some (.slice e) → 0 < P.cellsOf e) {w w' : World} {sp : Nat → Bool} (hs : rd8 w w') :
  ∀{ts:List TypeId} {vs:List Value} {ds:List (DataW D)} {ps:List MemPlace},(∀t∈ts,T t)->DataW.TrodAll enc P w 0 (λ_=>true) true ts vs ds ps->(∀p∈ps,p.block<w.heap.size)->(∀p∈ps,sp p.block=true)->DataW.TrodAll enc P w' 0 sp true ts vs ds ps
 |[],[],[],_,_,h,_,_=>h
 |t::ts,v::vs,d::ds,ps,ht,h,hlt,hsp=>by
  obtain⟨p,q,⟨fuel,h1⟩,h2,rfl⟩:=h;refine⟨p,q,⟨fuel,?_⟩,uc1 K hsz hs (λt h=>ht t (by simp[h])) h2 (λx hx=>hlt x (by simp[hx])) (λx hx=>hsp x (by simp[hx])),rfl⟩
  exact DataW.trod_stays K hsz (λh=>by cases h) (ht t (by simp)) h1 (λx hx=>hs.same x (hlt x (by simp at hx ⊢;exact .inl hx))) (λx hx=>hsp x (by simp at hx ⊢;exact .inl hx))
 |[],_::_,_,_,_,h,_,_=>h.elim
 |[],[],_::_,_,_,h,_,_=>h.elim
 |_::_,[],_,_,_,h,_,_=>h.elim
 |_::_,_::_,[],_,_,h,_,_=>h.elim
theorem hf9 {T : TypeId → Prop} (K : Kids P T) (hsz : ∀ {t e : TypeId}, T t → P.underlying t = some (.slice e) → 0 < P.cellsOf e) {f : Func} {s : ChangeSpec} {apart fresh handsOn again : Bool} {W W' : World} {args : Array Value} {ds gs : List (DataW D)} {before : List MemPlace} {tb : TypeId}
  (hT:∀t∈f.params.toList,T t) (hW:DataW.Whole enc P f.params.toList s.vars apart W args.toList ds gs before) (hv:s.vars=[]) (hr:f.resultTypes=#[tb]) (hb:P.underlying tb=some .bool)
  (h1:(s.fn D ds).results=[.lit (.bool true)]) (h2:(s.fn D ds).args=ds) (h3:(s.fn D ds).vars=[]) (hs:rd8 W W') :
  s.post enc P f apart fresh handsOn again W args (.bool true) W':=by
 have hlt:=hW.lt;obtain⟨pa,pv,hA,hV,hps,hz,hn⟩:=id hW;rw[hv] at hV;have hpv:gs=[]/\pv=[]:=by
  cases gs with
  |nil=>exact⟨rfl,hV⟩
  |cons=>exact hV.elim
 obtain⟨rfl,rfl⟩:=hpv;rw[<- Qlai ds] at h1 h3;have h2:(s.fn D (ds++[])).args=ds:=by rw[Qlai];exact h2
 have hpa:before=pa:=by rw[hps];simp
 subst hpa;have hagain:∀sp:Nat->Bool,(∀p∈before,sp p.block=true)->DataW.TrodAll enc P W' 0 sp true f.params.toList args.toList ds before:=λsp h=>uc1 K hsz hs hT hA hlt h
 have hres:∀(b:Nat) (sp:Nat->Bool) (hd:Bool),DataW.TrodAll enc P W' b sp hd f.resultTypes.toList ((Value.bool true).resultList f.resultTypes.size) [.lit (.bool true)] []:=λb sp hd=>by
  rw[hr];exact⟨[],[],⟨1,by simp[DataW.trod,hb,Value.cells,Value.resultList]⟩,rfl,rfl⟩
 have hvars:∀sp:Nat->Bool,DataW.TrodVars enc P W' sp s.vars ([]:List (DataW D)) []:=λsp=>by rw[hv];exact rfl
 have hok:∀(j:Nat) (t:TypeId) (r:Value),f.resultTypes[j]?=some t->((Value.bool true).resultList f.resultTypes.size)[j]?=some r->Value.okWide P W' .any 0 t r:=by
  rw[hr];intro j t r h4 h5;cases j with
  |zero =>
   simp at h4
   subst h4
   have:r=.bool true:=by simpa [Value.resultList] using h5.symm
   subst this;exact okWide_bool_mk hb _
  |succ j=>simp at h4
 have hag:DataW.TrodAll enc P W' 0 (λ_=>true) true (f.resultTypes.toList++f.params.toList) ((Value.bool true).resultList f.resultTypes.size++args.toList) (.lit (.bool true)::ds) before:=by
  have:=hagain (λ_=>true) (λ_ _=>rfl)
  rw[hr];exact⟨[],before,⟨1,by simp[DataW.trod,hb,Value.cells,Value.resultList]⟩,this,rfl⟩
 refine⟨ds,[],before,[],before,[],hW,?_,?_,?_,hs.kept _,λ_=>?_⟩
 ·rw[h1];exact hres _ _ _
 ·rw[h2];exact hagain _ λp hp=>by simpa using hlt p hp
 ·rw[h3];exact hvars _
 ·refine⟨hok,.lit (.bool true)::ds,[],before,⟨before,[],hag,hvars _,by simp,?_,?_⟩,?_⟩
  ·intro b off hp;rw[hs.frozen b off (hlt _ hp)];exact hz b off (by simpa using hp)
  ·intro ha;simpa using hn ha
  ·intro p hp _;exact hp
variable{w:World}{base:Nat}{spare:Nat->Bool}{held:Bool}
def Rc1(w:World):Fz:=λb o=>(w.cell? ⟨b,o,none⟩).isSome
theorem Of0 {fuel : Nat} {t : TypeId} {k : IntKind} {cs : List Value} {x : DataW D × List MemPlace} (ht : P.underlying t = some (.int k)) (h : DataW.trod enc P w base spare held fuel t cs = some x) :
  ∃n,cs=[.int k n]/\(Lit.int k n).wf=true/\x.1=.lit (.int k n):=by
 cases fuel with
 |zero=>cases h
 |succ fuel =>
  match cs,h with
  |[],h=>simp[DataW.trod,ht] at h
  |[v],h =>
   cases v with
   |int k' n =>
    simp only[DataW.trod,ht] at h
    split at h
    ·rename_i hk;obtain⟨rfl,hw⟩:=hk;injection h with h;subst h
     exact⟨n,rfl,hw,rfl⟩
    ·cases h
   |_=>simp[DataW.trod,ht] at h
  |a::b::r,h=>simp[DataW.trod,ht] at h
theorem yf3 {fuel : Nat} {t : TypeId} {cs : List Value} {x : DataW D × List MemPlace} (ht : P.underlying t = some .bool) (h : DataW.trod enc P w base spare held fuel t cs = some x) :
  ∃n,cs=[.bool n]/\x.1=.lit (.bool n):=by
 cases fuel with
 |zero=>cases h
 |succ fuel =>
  match cs,h with
  |[],h=>simp[DataW.trod,ht] at h
  |[v],h =>
   cases v with
   |bool n =>
    simp only[DataW.trod,ht] at h;injection h with h;subst h
    exact⟨n,rfl,rfl⟩
   |_=>simp[DataW.trod,ht] at h
  |a::b::r,h=>simp[DataW.trod,ht] at h
theorem if0 {fuel : Nat} {t e : TypeId} {n : Nat} {cs : List Value} {x : DataW D × List MemPlace} (ht : P.underlying t = some (.array n e)) (h : DataW.trod enc P w base spare held fuel t cs = some x) :
  cs.length=P.cellsOf t/\∃(fuel':Nat) (xs:List (DataW D×List MemPlace)),xs.length=n/\x.1=.agg (xs.map (·.1))/\∀(j:Nat) y,xs[j]?=some y->DataW.trod enc P w base spare held fuel' e ((cs.drop (j*P.cellsOf e)).take (P.cellsOf e))=some y:=by
 cases fuel with
 |zero=>cases h
 |succ fuel =>
  unfold DataW.trod at h;rw[ht] at h
  simp only at h
  split at h
  ·rename_i hl;obtain⟨xs,h1,h2⟩:=Qlak.1 h;have hx:=Sb2 h1;exact⟨hl,fuel,xs,by simpa using hx.1,by rw[<- h2],λj y hy=>by
    obtain⟨a,ha,hb⟩:=hx.2 j y hy
    have:j<n:=by
     have:=(List.getElem?_eq_some_iff.1 hy).1
     rw[hx.1] at this;simpa using this
    rw[Qlz this] at ha;injection ha with ha;subst ha;exact hb⟩
  ·cases h
theorem Le8 {fuel : Nat} {t : TypeId} {fs : Array Field} {cs : List Value} {x : DataW D × List MemPlace} (ht : P.underlying t = some (.struct fs)) (h : DataW.trod enc P w base spare held fuel t cs = some x) :
  cs.length=P.cellsOf t/\∃(fuel':Nat) (xs:List (DataW D×List MemPlace)),xs.length=fs.size/\x.1=.agg (xs.map (·.1))/\∀(j:Nat) f,fs[j]?=some f->∃y,xs[j]?=some y/\DataW.trod enc P w base spare held fuel' f.type ((cs.drop f.offset).take (P.cellsOf f.type))=some y:=by
 cases fuel with
 |zero=>cases h
 |succ fuel =>
  unfold DataW.trod at h;rw[ht] at h
  simp only at h
  split at h
  ·rename_i hl;obtain⟨xs,h1,h2⟩:=Qlak.1 h;have hx:=Sb2 h1;refine⟨hl,fuel,xs,by simpa using hx.1,by rw[<- h2],λj f hf=>?_⟩
   have hj:j<xs.length:=by
    rw[hx.1];simpa using (Array.getElem?_eq_some_iff.1 hf).1
   obtain⟨a,ha,hb⟩:=hx.2 j _ (Qlb hj)
   have:a=f:=by
    have:fs.toList[j]?=some f:=by simpa using hf
    exact Option.some.inj (ha.symm.trans this)
   subst this;exact⟨_,Qlb hj,hb⟩
  ·cases h
theorem ke3 {fuel : Nat} {t e : TypeId} {cs : List Value} {x : DataW D × List MemPlace} (ht : P.underlying t = some (.slice e)) (h : DataW.trod enc P w base spare held fuel t cs = some x) :
  cs=[.slice none 0 0]\/∃(a:Addr) (n cap fuel':Nat),cs=[.slice (some a) n cap]/\n<=cap/\cap<=maxLen/\∀j,j<n->∃row y,w.cells? base (a.add (j*P.cellsOf e)) (P.cellsOf e)=some row/\DataW.trod enc P w base spare held fuel' e row=some y:=by
 cases fuel with
 |zero=>cases h
 |succ fuel =>
  match cs,h with
  |[],h=>simp[DataW.trod,ht] at h
  |[v],h =>
   cases v with
   |slice a len cap =>
    cases a with
    |none =>
     simp only[DataW.trod,ht] at h
     split at h<;>first | (rename_i e1;cases e1;done) | skip
     all_goals first | exact .inl rfl | (simp_all;done) | skip
    |some a =>
     refine .inr ?_;simp only[DataW.trod,ht] at h
     split at h
     ·rename_i hc;obtain⟨elems,h1,h2⟩:=Qll.1 h;have hx:=Sb2 h1;refine⟨a,len,cap,fuel,rfl,hc.2.1,hc.2.2,λj hj=>?_⟩
      have hj':j<elems.length:=by rw[hx.1];simpa using hj
      obtain⟨i,hi,hb⟩:=hx.2 j _ (Qlb hj');rw[Qlz hj] at hi;injection hi with hi;subst hi;obtain⟨row,r1,r2⟩:=Qll.1 hb;exact⟨row,_,r1,r2⟩
     ·cases h
   |_=>simp[DataW.trod,ht] at h
  |a::b::r,h=>simp[DataW.trod,ht] at h
theorem Ce3:∀(d:Nat) (t:TypeId) (l:List (Nat×CK)),ga2 P d t=some l->∀(fuel:Nat) (cs:List Value) (x:DataW D×List MemPlace),DataW.trod enc P w base spare held fuel t cs=some x->∀p∈l,Na5 cs.toArray p
 |0,_,_,h,_,_,_,_=>by cases h
 |d+1,t,l,h,fuel,cs,x,hx=>by
  have hpart:∀{off n:Nat} {e:TypeId} {l':List (Nat×CK)} {fuel':Nat} {y:DataW D×List MemPlace},dc4 off n (ga2 P d e)=some l'->DataW.trod enc P w base spare held fuel' e ((cs.drop off).take n)=some y->∀p∈l',Na5 cs.toArray p:=λ{off n e l' fuel' y} h1 h2 p hp=>by
   obtain⟨l2,g1,g2,rfl⟩:=Ya0 h1;obtain⟨q,hq,rfl⟩:=List.mem_map.1 hp
   have:=Ce3 d e l2 g1 fuel' _ y h2 q hq
   have hlt:=g2 q hq;unfold Na5 at this ⊢;simp only[List.getElem?_toArray,List.getElem?_take,hlt,if_true,List.getElem?_drop] at this ⊢;exact this
  have hcat:∀{α:Type} (f:α->Option (List (Nat×CK))) (xs:List α) (l:List (Nat×CK)),va8 (xs.map f)=some l->∀p∈l,∃a∈xs,∃l',f a=some l'/\p∈l':=λ{α} f xs=>by
   induction xs with
   |nil=>intro l h;simp only[List.map_nil,va8] at h;injection h with h;subst h;simp
   |cons a xs ih =>
    intro l h p hp;simp only[List.map_cons,va8] at h;cases h1:f a with
    |none=>simp[h1] at h
    |some l1 =>
    cases h2:va8 (xs.map f) with
    |none=>simp[h1,h2] at h
    |some l2 =>
    simp only[h1,h2] at h;injection h with h;subst h
    rcases Qlq.1 hp with hp|hp
    ·exact⟨a,by simp,l1,h1,hp⟩
    ·obtain⟨b,hb,r⟩:=ih l2 h2 p hp;exact⟨b,by simp[hb],r⟩
  unfold ga2 at h;cases hu:P.underlying t with
  |none=>simp[hu] at h
  |some u =>
  cases u with
  |int k =>
   simp only[hu] at h;injection h with h;subst h
   obtain⟨n,rfl,_,_⟩:=Of0 hu hx;intro p hp;simp at hp;subst hp;exact⟨n,rfl⟩
  |bool =>
   simp only[hu] at h;injection h with h;subst h
   obtain⟨n,rfl,_⟩:=yf3 hu hx;intro p hp;simp at hp;subst hp;exact⟨n,rfl⟩
  |struct fs =>
   simp only[hu] at h
   split at h
   ·cases h
   obtain⟨_,fuel',xs,_,_,hxs⟩:=Le8 hu hx;intro p hp;obtain⟨f,hf,l',h1,h2⟩:=hcat _ _ _ h p hp
   split at h1
   ·cases h1
   obtain⟨j,hj⟩:=List.getElem?_of_mem hf;obtain⟨y,_,hy⟩:=hxs j f (by simpa using hj)
   have hc:P.cellsOf f.type=szT P f.type:=by
    unfold Program.cellsOf szT;cases P.info? f.type<;>rfl
   rw[hc] at hy;exact hpart h1 hy p h2
  |array n e =>
   simp only[hu] at h
   split at h
   case isFalse=>cases h
   obtain⟨_,fuel',xs,hn,_,hxs⟩:=if0 hu hx;intro p hp;obtain⟨j,hj,l',h1,h2⟩:=hcat _ _ _ h p hp;have hj':j<xs.length:=by rw[hn];simpa using hj
   have hy:=hxs j _ (Qlb hj');have hc:P.cellsOf e=szT P e:=by
    unfold Program.cellsOf szT;cases P.info? e<;>rfl
   rw[hc] at hy;exact hpart h1 hy p h2
  |_=>simp[hu] at h
def kb4(k:IntKind)(es:Nat)(g:Nat->Int):List b7:=(List.range es).map λc=>.v (.int k (g c))
def Ja2(k:IntKind)(es:Nat):List (Nat×CK):=(List.range es).map λc=>(c,.int k)
theorem yf4 {d : Nat} {t : TypeId} {k : IntKind} {es : Nat} (hf : ga2 P d t = some (Ja2 k es)) {fuel : Nat} {cs : List Value} {x : DataW D × List MemPlace} (hx : DataW.trod enc P w base spare held fuel t cs = some x) (hl : cs.length = es) :
  ∃g:Nat->Int,∀c,c<es->cs[c]?=some (.int k (g c)):=by
 have h:=Ce3 d t _ hf fuel cs x hx;have h':∀c,∃n:Int,c<es->cs[c]?=some (.int k n):=λc=>by
  by_cases hc:c<es
  ·have:=h (c,.int k) (List.mem_map.2 ⟨c,by simpa using hc,rfl⟩)
   obtain⟨n,hn⟩:=this;exact⟨n,λ_=>by simpa using hn⟩
  ·exact⟨0,λh=>absurd h hc⟩
 exact⟨λc=>Classical.choose (h' c),λc hc=>Classical.choose_spec (h' c) hc⟩
theorem if1{F:Fz}{w:World}(k:IntKind)(n:Int):ea3 F w (.v (.int k n)) (.int k n):=.v _ rfl
theorem ue7{k:IntKind}{es:Nat}{g:Nat->Int}{c:Nat}{x:b7}(h:(kb4 k es g)[c]?=some x):c<es/\x=.v (.int k (g c)):=by
 unfold kb4 at h;obtain⟨h1,h2⟩:=ab1 h;exact⟨h1,h2.symm⟩
theorem uc2 {t e : TypeId} {k : IntKind} {es d : Nat} (ht : P.underlying t = some (.slice e)) (hf : ga2 P d e = some (Ja2 k es)) (hes : P.cellsOf e = es) (h0 : 0 < es) {fuel : Nat} {cs : List Value} {x : DataW D × List MemPlace} (hx : DataW.trod enc P w 0 spare held fuel t cs = some x) :
  ∃(v:Value) (n:Nat) (g:Nat->Nat->Int),cs=[v]/\n<=maxLen/\ea3 (Rc1 w) w (.tree es n λj=>kb4 k es (g j)) v:=by
 rcases ke3 ht hx with rfl|⟨a,n,cap,fuel',rfl,hn,hc,hel⟩
 ·exact⟨_,0,λ_ _=>0,rfl,Qle _,.nil _ _⟩
 ·rw[hes] at hel;have hcell:∀j,j<n->∃g:Nat->Int,∀c,c<es->w.cell? ((a.add (j*es)).add c)=some (.int k (g c)):=λj hj=>by
   obtain⟨row,y,h1,h2⟩:=hel j hj;unfold World.cells? at h1
   split at h1
   ·obtain⟨l1,l2⟩:=Sb2 h1;have hl:row.length=es:=by simpa using l1
    obtain⟨g,hg⟩:=yf4 hf h2 hl;refine⟨g,λc hc=>?_⟩
    obtain⟨i,hi,hi2⟩:=l2 c _ (hg c hc);rw[Qlz hc] at hi;injection hi with hi;subst hi;exact hi2
   ·cases h1
  have hg:∀j,∃g:Nat->Int,j<n->∀c,c<es->w.cell? ((a.add (j*es)).add c)=some (.int k (g c)):=λj=>by
   by_cases hj:j<n
   ·obtain⟨g,hg⟩:=hcell j hj;exact⟨g,λ_=>hg⟩
   ·exact⟨λ_=>0,λh=>absurd h hj⟩
  obtain⟨g,hg⟩:=Classical.axiomOfChoice hg;have hspot:0<n->a.spot=none:=λhn=>by
   have:=hg 0 hn 0 h0
   simpa [Addr.add] using World.cell?_spot this
  have hw:∀j c,j<n->c<es->w.cell? ⟨a.block,a.off+(j*es+c),none⟩=some (.int k (g j c)):=λj c hj hc=>by
   have:=hg j hj c hc
   rw[X9 (hspot (by omega)),X9 rfl] at this
   simpa [Nat.add_assoc] using this
  refine⟨_,n,g,rfl,Qld hn hc,.tree es n _ a cap (λj c=>.int k (g j c)) hspot hn (λi hi=>by simp[kb4]) (λi c hi hc=>?_) hw λi c hi hc=>?_⟩
  ·unfold Rc1;rw[hw i c hi hc];rfl
  ·have:=(ue7 (Qlb hc)).2
   rw[this];exact if1 _ _
theorem Le9(w:World):C5 (λk=>w.heap.size<=k) (λ_=>⟨0,0,0⟩) [] (Rc1 w) w :=
 ⟨λid b h=>by simp at h,λid id' b b' h=>by simp at h,λ_ _ h=>h,λ_ h=>h⟩
theorem Me0 {G : Nat → List Value} {f : FuncId} {S : Sum} (hS : g9 P G f S) {aargs : List b7} {args : List Value} (hrun : ∃ out, (S aargs []).run = some (b true, out)) (hl : aargs.length = args.length)
  (ha:∀(i:Nat) x x',aargs[i]?=some x->args[i]?=some x'->ka6 (λ_=>⟨0,0,0⟩) [] (Rc1 w) w x x') (hG:∀g (c:Nat) x,(G g)[c]?=some x->x.oneCell'=true/\w.cell? ⟨g,c,none⟩=some x) :
  Calls P f args.toArray w λe w'=>e=.returned (.bool true)/\rd8 w w':=by
 obtain⟨out,hrun⟩:=hrun;obtain⟨_,hc⟩:=hS aargs [] (b true) out hrun (λk=>w.heap.size<=k) (λ_=>⟨0,0,0⟩) (Rc1 w) w args (Le9 w) hl (λi x x' h1 h2=>.val (ha i x x' h1 h2)) (λg c x hx=>by
  obtain⟨h1,h2⟩:=hG g c x hx;exact⟨h1,by unfold Rc1;rw[h2];rfl,h2⟩)
 refine hc.mono λe w' ⟨r',he,ρ',F',hA,hH,hW⟩=>?_
 have:=ka1 hW
 subst this;exact⟨he,hA.ext.os,hA.ext.output,hA.ext.size,λk hk=>hA.ext.block k hk (by omega)⟩
theorem Me1 {ρ : Rho} {H : List b8} {t e : TypeId} {k : IntKind} {es d : Nat} {v : Value} {dd : DataW D} {pp : List MemPlace} {bs : Nat} {r : Reach} (ht : P.underlying t = some (.slice e)) (hf : ga2 P d e = some (Ja2 k es)) (hes : P.cellsOf e = es) (h0 : 0 < es)
  (hok:Value.okWide P w r bs t v) (h:DataW.Trod enc P w 0 spare held t v dd pp):∃(n:Nat) (g:Nat->Nat->Int),n<=maxLen/\ka6 ρ H (Rc1 w) w (.tree es n λj=>kb4 k es (g j)) v:=by
 obtain⟨fuel,hx⟩:=h;obtain⟨v',n,g,h1,h2,h3⟩:=uc2 ht hf hes h0 hx;have hv:v.cells=#[v]:=by
  unfold Value.okWide at hok;rw[ht] at hok;cases v with
  |agg cs=>exfalso;simp[Cell.okWide,Cell.ok,ht] at hok
  |_=>rfl
 rw[hv] at h1
 have:v=v':=by simpa using h1
 subst this;exact⟨n,g,h2,.cell (.mem h3)⟩
end
end Go.Ev
namespace Go.Ev.L
open Go Go.Ev
theorem if2 {α : Type} (t : Ty α) (n : Nat) (g : Nat → Nat → Int) (f : (Nat → Int) → α) (h : ∀ j, kb4 .i64 t.es (g j) = t.row (f (g j))) :
  ∃l,(P0 t).dec (.tree t.es n λj=>kb4 .i64 t.es (g j))=some l/\(P0 t).grd (.tree t.es n λj=>kb4 .i64 t.es (g j))=true:=by
 refine⟨lsL t n λj=>kb4 .i64 t.es (g j),?_,ab5 t (f:=λk=>f (g k)) λk _=>h k⟩
 show Bool.rec (motive:=λ_=>Option (List α)) none (some (lsL t n λj=>kb4 .i64 t.es (g j))) (Nat.beq t.es t.es)=_
 rw[Qlr]
def Rdg{α:Type}(c:Cod α)(x:b7)(a:α):Prop:=c.dec x=some a/\c.grd x=true
theorem if3{α:Type}(t:Ty α)(n:Nat)(g:Nat->Nat->Int)(f:(Nat->Int)->α)(h:∀j,kb4 .i64 t.es (g j)=t.row (f (g j))):∃l,Rdg (P0 t) (.tree t.es n λj=>kb4 .i64 t.es (g j)) l:=if2 t n g f h
theorem if4(n:Nat)(g:Nat->Nat->Int):∃l,Rdg (P0 tI) (.tree 1 n λj=>kb4 .i64 1 (g j)) l:=if3 tI n g (λg=>g 0) λ_=>rfl
section
variable{α β γ δ ε:Type}{c:Cod α}{d:Cod β}{e:Cod γ}{f:Cod δ}{c5:Cod ε}{x y z w v:b7}{a:α}{b':β}{g:γ}{j:δ}{m:ε}{r:b7×List b8}
theorem lg1{k:α->β->DT (b7×List b8)}(h1:Rdg c x a)(h2:Rdg d y b')(h:(k a b').run=some r):(oa3 c d k [x,y] []).run=some r:=by
 unfold oa3;simp only[h1.1,h1.2,h2.1,h2.2];exact h
end
theorem Of1{g p:Bool}(hg:g=true)(hp:p=true):(DT.guard g (.ret ((one r1B).enc p,([]:List b8)))).run=some (b true,([]:List b8)):=by subst hg;subst hp;rfl
end Go.Ev.L
namespace Go.Ev.Ce
open Go Go.Ev Go.Ev.L Go.Proofs
structure B3 where
 b0:Int
 b1:Int
 b2:Int
structure B2 where
 d0:Int
 d1:Int
structure LL where
 u:List Int
 v:List Int
end Go.Ev.Ce
namespace Go.Ev.L
open Go Go.Ev
section
variable{α β γ δ ε ζ:Type}{P:Program}{G:Nat->List Value}{f:FuncId}{R0:Sum}{c:Cod α}{d:Cod β}{e:Cod γ}{c4:Cod δ}{c5:Cod ε}{c6:Cod ζ}{ρ:Type}
theorem lg2(hb:g9 P G f R0)(R:RR ρ){o:α->β->γ->δ->ε->ζ->Option (b7×List b8)}(h:∀a b g j m n r,o a b g j m n=some r->(R0 [c.enc a,d.enc b,e.enc g,c4.enc j,c5.enc m,c6.enc n] []).run=some r):g9 P G f (Fe9 c d e c4 c5 c6 λa b g j m n=>rdO R (o a b g j m n)) :=
 (pf2 hb (k:=λa b g j m n=>DT.ofOption (o a b g j m n)) λa b g j m n r hr=>h a b g j m n r (by rw[lb1] at hr;exact hr)).conv λargs blks y out hr=>by
  unfold Fe9 at hr
  split at hr
  ·obtain⟨a,h1,hr⟩:=G8 hr;obtain⟨b,h2,hr⟩:=G8 hr;obtain⟨g,h3,hr⟩:=G8 hr;obtain⟨j,h4,hr⟩:=G8 hr;obtain⟨m,h5,hr⟩:=G8 hr;obtain⟨n,h6,hr⟩:=G8 hr;obtain⟨g1,hr⟩:=DT.run_guard_some hr;obtain⟨g2,hr⟩:=DT.run_guard_some hr;obtain⟨g3,hr⟩:=DT.run_guard_some hr;obtain⟨g4,hr⟩:=DT.run_guard_some hr;obtain⟨g5,hr⟩:=DT.run_guard_some hr;obtain⟨g6,hr⟩:=DT.run_guard_some hr;obtain⟨e1,x,o',e2,e3⟩:=gd9 hr;refine⟨rfl,e1,x,o',?_,e3⟩;simp only[Fe9,h1,h2,h3,h4,h5,h6,onO,g1,g2,g3,g4,g5,g6];show (DT.ofOption (o a b g j m n)).run=_;rw[lb1,e2]
  ·cases hr
end
end Go.Ev.L
namespace Go.Ev.Ce
open Go Go.Ev Go.Ev.L Go.Proofs
structure B6 where
 c0:Int
 c1:Int
 c2:Int
 c3:Int
 c4:Int
 c5:Int
set_option maxRecDepth 100000
noncomputable def Vc3:List (Nat×Sum):=[(16,yc3)]
theorem Ud5:i7 prog G Vc3:=⟨Uc5,trivial⟩
structure va4 where
 s7:List (List Int)
 is1:Int
structure Q5 where
 ph:Nat
 is6:Int
 ns5:Nat
 eh0:List (List b7)
noncomputable def Eb9(p:va4)(s:Q5):St:=⟨eL (tLs tI) p.s7::i p.is1::ra 3 (.v (.slice none 0 0)::i s.is6::ra 20 []),[]⟩
noncomputable def Fb0(p:va4)(s:Q5):St:=⟨eL (tLs tI) p.s7::i p.is1::ra 3 (.sl 0 0 s.ns5 0::i s.is6::ra 20 []),[⟨24,1,s.eh0,true,false,0⟩]⟩
noncomputable def Ad2(p:va4)(s:Q5):St:=(sel (Nat.beq s.ph 1) (Fb0 p s) (Eb9 p s))
noncomputable def O6{α:Type}(k:Q5->α)(e:Nat->α)(z:α)(p:va4)(s:Q5):α:=let t1:=(pa9 (rt tI (gL (tLs tI) p.s7 s.is6.toNat)));(sl (decide (s.is6<(↑(List.length p.s7):Int))) (sl (decide (s.is6<p.is1)) (sl (inB s.is6 (List.length p.s7)) (sl (okE tI (gL (tLs tI) p.s7 s.is6.toNat)) (sl (Db0 (rt tI (gL (tLs tI) p.s7 s.is6.toNat))) (k ⟨1,W (s.is6+1),1,[[eL tP t1]]⟩) z) z) z) (e 1)) (e 2))
noncomputable def O7{α:Type}(k:Q5->α)(e:Nat->α)(z:α)(p:va4)(s:Q5):α:=let t1:=(pa9 (rt tI (gL (tLs tI) p.s7 s.is6.toNat)));(sl (decide (s.is6<(↑(List.length p.s7):Int))) (sl (decide (s.is6<p.is1)) (sl (inB s.is6 (List.length p.s7)) (sl (okE tI (gL (tLs tI) p.s7 s.is6.toNat)) (sl (Db0 (rt tI (gL (tLs tI) p.s7 s.is6.toNat))) (sl (Nat.beq s.ns5 (len s.eh0)&&Nat.ble ((s.ns5+1)*24) room) (k ⟨1,W (s.is6+1),s.ns5+1,app s.eh0 [[eL tP t1]]⟩) z) z) z) z) (e 3)) (e 4))
noncomputable def oa2(p:va4)(s:Q5):Stp Q5:=(sel (Nat.beq s.ph 1) (O7 .next .exit .fail p s) (O6 .next .exit .fail p s))
noncomputable def Yb2:Lo va4 Q5:=⟨En Vc3,0,Rf7,[1,1,0,1,4,4],[0,1,5,6],.p,[⟨.s (.c 1 (nL (tLs tI)))::sIq::ru2 3 (.s (.o .nil)::sIq::ru2 20 []),[],λa H=>(⟨rL (tLs tI) (slT a 0),aIq a 1⟩,⟨0,aIq a 6,0,[]⟩)⟩,⟨.s (.c 1 (nL (tLs tI)))::sIq::ru2 3 (.s (.o (.sl 0 0 (some 0) none))::sIq::ru2 20 []),[⟨24,1,true,none⟩],λa H=>(⟨rL (tLs tI) (slT a 0),aIq a 1⟩,⟨1,aIq a 6,slN (slT a 5),elT H 0⟩)⟩],oa2,[(some 0,λp s=>upq (Eb9 p s) [(7,i s.is6),(8,eL (tLs tI) p.s7),(9,i (↑(List.length p.s7):Int)),(10,b (decide (s.is6<(↑(List.length p.s7):Int)))),(11,b true),(12,i s.is6),(13,i p.is1),(14,b (decide (s.is6<p.is1))),(15,b (decide (s.is6<p.is1)))]),(some 0,λp s=>upq (Eb9 p s) [(7,i s.is6),(8,eL (tLs tI) p.s7),(9,i (↑(List.length p.s7):Int)),(10,b (decide (s.is6<(↑(List.length p.s7):Int)))),(11,b false),(12,u),(13,u),(14,u),(15,b false)]),(some 0,λp s=>upq (Fb0 p s) [(7,i s.is6),(8,eL (tLs tI) p.s7),(9,i (↑(List.length p.s7):Int)),(10,b (decide (s.is6<(↑(List.length p.s7):Int)))),(11,b true),(12,i s.is6),(13,i p.is1),(14,b (decide (s.is6<p.is1))),(15,b (decide (s.is6<p.is1)))]),(some 0,λp s=>upq (Fb0 p s) [(7,i s.is6),(8,eL (tLs tI) p.s7),(9,i (↑(List.length p.s7):Int)),(10,b (decide (s.is6<(↑(List.length p.s7):Int)))),(11,b false),(12,u),(13,u),(14,u),(15,b false)])],Ad2⟩
theorem Ad3:Yb2.Ok:=Lo.ok [] (by kernel_rfl) .nil rfl (.cons (λa H=>by kernel_rfl) (.cons (λa H=>by kernel_rfl) .nil)) λp s=>(.sel (Nat.beq s.ph 1) (.of @O7 (λF _ _ _ _ _=>by unfold O7;(repeat' apply l6 (f:=F))<;>rfl) (by kernel_rfl)) (.of @O6 (λF _ _ _ _ _=>by unfold O6;(repeat' apply l6 (f:=F))<;>rfl) (by kernel_rfl)))
noncomputable def Fb1(x:List (List Int))(y:Int):Option (b7×List b8):=let t1:=(lp (oa2 (⟨rt (tLs tI) x,y⟩:va4)) (⟨0,0,0,[]⟩:Q5));(sl ((cnE (tLs tI) x)&&true) (sl (Nat.beq t1.1 1) (some (.v (.slice none 0 0),[])) (sl (Nat.beq t1.1 2) (some (.v (.slice none 0 0),[])) (sl (Nat.beq t1.1 3) (some (.sl 0 0 t1.2.ns5 0,[⟨24,1,t1.2.eh0,true,false,0⟩])) (sl (Nat.beq t1.1 4) (some (.sl 0 0 t1.2.ns5 0,[⟨24,1,t1.2.eh0,true,false,0⟩])) none)))) none)
noncomputable def rd9(x:List (List Int))(y:Int):List (List Pln):=N6 (one (r1L (tLs tP))) (Fb1 x y)
noncomputable def zc7(x:List (List Int))(y:Int):Bool:=okO (one (r1L (tLs tP))) (Fb1 x y)
noncomputable def sd0:Sum:=oa3 (P0 (tLs tI)) cI (λx y=>.guard (zc7 x y) (.ret ((one (r1L (tLs tP))).enc (rd9 x y),[])))
theorem ke4:g9 prog G 95 sd0:=mb9 (bd b95 Ud5) (one (r1L (tLs tP))) (o:=Fb1) λx y=>wa1 (.s .p (.s .p (.s (.s .p (.b (.u Yb2.ls))) .p))) [Yb2.pr] (by kernel_rfl) (.cons Ad3 .nil) (by kernel_rfl)
noncomputable def Ud6:List (Nat×Sum):=[(63,od4)]
theorem Ad4:i7 prog G Ud6:=⟨ge9,trivial⟩
noncomputable def mc1(x:Int)(y:Int)(z:Int)(w:Int)(v:Int)(q:Int):Option (b7×List b8):=let t1:=(od3 (⟨x,y,z⟩:V3) (⟨w,v,q⟩:V3));(some (.sl 0 0 6 0,[⟨73,4,[[i 1,i 0,i 0,i t1.i9],[i (-1),i 0,i 0,i t1.Ce9],[i 0,i 1,i 0,i t1.De0],[i 0,i (-1),i 0,i t1.De1],[i 0,i 0,i 1,i t1.De2],[i 0,i 0,i (-1),i t1.De3]],true,false,0⟩]))
noncomputable def O8(x:Int)(y:Int)(z:Int)(w:Int)(v:Int)(q:Int):List Pln:=N6 (one (r1L tP)) (mc1 x y z w v q)
noncomputable def L9(x:Int)(y:Int)(z:Int)(w:Int)(v:Int)(q:Int):Bool:=okO (one (r1L tP)) (mc1 x y z w v q)
noncomputable def Vc4:Sum:=Fe9 cI cI cI cI cI cI (λx y z w v q=>.guard (L9 x y z w v q) (.ret ((one (r1L tP)).enc (O8 x y z w v q),[])))
theorem Ud7:g9 prog G 93 Vc4:=lg2 (bd b93 Ad4) (one (r1L tP)) (o:=mc1) λx y z w v q=>v8 (by kernel_rfl)
noncomputable def mc2:List (Nat×Sum):=[]
theorem ad4:i7 prog G mc2:=trivial
structure ba5 where
 s7:List (List Int)
 is1:Int
structure E1 where
 ph:Nat
 is6:Int
 ns5:Nat
 eh0:List (List b7)
noncomputable def eb7(p:ba5)(s:E1):St:=⟨eL (tLs tI) p.s7::i p.is1::ra 3 (.v (.slice none 0 0)::i s.is6::ra 26 []),[]⟩
noncomputable def eb8(p:ba5)(s:E1):St:=⟨eL (tLs tI) p.s7::i p.is1::ra 3 (.sl 0 0 s.ns5 0::i s.is6::ra 26 []),[⟨22,1,s.eh0,true,false,0⟩]⟩
noncomputable def Rc2(p:ba5)(s:E1):St:=(sel (Nat.beq s.ph 1) (eb8 p s) (eb7 p s))
noncomputable def E4{α:Type}(k:E1->α)(e:Nat->α)(z:α)(p:ba5)(s:E1):α:=(sl (decide (s.is6<(↑(List.length p.s7):Int))) (sl (decide (s.is6<p.is1)) (sl (inB s.is6 (List.length p.s7)) (sl (inB s.is6 (List.length p.s7)) (sl (inB (if 40<(↑(List.length (gL (tLs tI) p.s7 s.is6.toNat)):Int) then 40 else (↑(List.length (gL (tLs tI) p.s7 s.is6.toNat)):Int)) ((List.length (gL (tLs tI) p.s7 s.is6.toNat))+1)) (k ⟨1,W (s.is6+1),1,[[(.tree 1 ((if 40<(↑(List.length (gL (tLs tI) p.s7 s.is6.toNat)):Int) then 40 else (↑(List.length (gL (tLs tI) p.s7 s.is6.toNat)):Int)).toNat-0) (λk=>(λk=>(tI).row (gL tI (gL (tLs tI) p.s7 s.is6.toNat) k)) (0+k)))]]⟩) z) z) z) (e 1)) (e 2))
noncomputable def E5{α:Type}(k:E1->α)(e:Nat->α)(z:α)(p:ba5)(s:E1):α:=(sl (decide (s.is6<(↑(List.length p.s7):Int))) (sl (decide (s.is6<p.is1)) (sl (inB s.is6 (List.length p.s7)) (sl (inB s.is6 (List.length p.s7)) (sl (inB (if 40<(↑(List.length (gL (tLs tI) p.s7 s.is6.toNat)):Int) then 40 else (↑(List.length (gL (tLs tI) p.s7 s.is6.toNat)):Int)) ((List.length (gL (tLs tI) p.s7 s.is6.toNat))+1)) (sl (Nat.beq s.ns5 (len s.eh0)&&Nat.ble ((s.ns5+1)*24) room) (k ⟨1,W (s.is6+1),s.ns5+1,(app s.eh0 [[(.tree 1 ((if 40<(↑(List.length (gL (tLs tI) p.s7 s.is6.toNat)):Int) then 40 else (↑(List.length (gL (tLs tI) p.s7 s.is6.toNat)):Int)).toNat-0) (λk=>(λk=>(tI).row (gL tI (gL (tLs tI) p.s7 s.is6.toNat) k)) (0+k)))]])⟩) z) z) z) z) (e 3)) (e 4))
noncomputable def W4(p:ba5)(s:E1):Stp E1:=(sel (Nat.beq s.ph 1) (E5 .next .exit .fail p s) (E4 .next .exit .fail p s))
noncomputable def ub6:Lo ba5 E1:=⟨En mc2,0,Rf8,[1,1,0,1,4,4],[0,1,5,6],.p,[⟨.s (.c 1 (nL (tLs tI)))::sIq::ru2 3 (.s (.o .nil)::sIq::ru2 26 []),[],λa H=>(⟨rL (tLs tI) (slT a 0),aIq a 1⟩,⟨0,aIq a 6,0,[]⟩)⟩,⟨.s (.c 1 (nL (tLs tI)))::sIq::ru2 3 (.s (.o (.sl 0 0 (some 0) none))::sIq::ru2 26 []),[⟨22,1,true,none⟩],λa H=>(⟨rL (tLs tI) (slT a 0),aIq a 1⟩,⟨1,aIq a 6,slN (slT a 5),elT H 0⟩)⟩],W4,[(some 0,λp s=>upq (eb7 p s) [(7,i s.is6),(8,eL (tLs tI) p.s7),(9,i (↑(List.length p.s7):Int)),(10,b (decide (s.is6<(↑(List.length p.s7):Int)))),(11,b true),(12,i s.is6),(13,i p.is1),(14,b (decide (s.is6<p.is1))),(15,b (decide (s.is6<p.is1)))]),(some 0,λp s=>upq (eb7 p s) [(7,i s.is6),(8,eL (tLs tI) p.s7),(9,i (↑(List.length p.s7):Int)),(10,b (decide (s.is6<(↑(List.length p.s7):Int)))),(11,b false),(12,u),(13,u),(14,u),(15,b false)]),(some 0,λp s=>upq (eb8 p s) [(7,i s.is6),(8,eL (tLs tI) p.s7),(9,i (↑(List.length p.s7):Int)),(10,b (decide (s.is6<(↑(List.length p.s7):Int)))),(11,b true),(12,i s.is6),(13,i p.is1),(14,b (decide (s.is6<p.is1))),(15,b (decide (s.is6<p.is1)))]),(some 0,λp s=>upq (eb8 p s) [(7,i s.is6),(8,eL (tLs tI) p.s7),(9,i (↑(List.length p.s7):Int)),(10,b (decide (s.is6<(↑(List.length p.s7):Int)))),(11,b false),(12,u),(13,u),(14,u),(15,b false)])],Rc2⟩
theorem Rc3:ub6.Ok:=Lo.ok [] (by kernel_rfl) .nil rfl (.cons (λa H=>by kernel_rfl) (.cons (λa H=>by kernel_rfl) .nil)) λp s=>(.sel (Nat.beq s.ph 1) (.of @E5 (λF _ _ _ _ _=>by unfold E5;(repeat' apply l6 (f:=F))<;>rfl) (by kernel_rfl)) (.of @E4 (λF _ _ _ _ _=>by unfold E4;(repeat' apply l6 (f:=F))<;>rfl) (by kernel_rfl)))
noncomputable def Va2(x:List (List Int))(y:Int):Option (b7×List b8):=let t1:=(lp (W4 (⟨rt (tLs tI) x,y⟩:ba5)) (⟨0,0,0,[]⟩:E1));(sl ((cnE (tLs tI) x)&&true) (sl (Nat.beq t1.1 1) (some (.v (.slice none 0 0),[])) (sl (Nat.beq t1.1 2) (some (.v (.slice none 0 0),[])) (sl (Nat.beq t1.1 3) (some (.sl 0 0 t1.2.ns5 0,[⟨22,1,t1.2.eh0,true,false,0⟩])) (sl (Nat.beq t1.1 4) (some (.sl 0 0 t1.2.ns5 0,[⟨22,1,t1.2.eh0,true,false,0⟩])) none)))) none)
noncomputable def mb5(x:List (List Int))(y:Int):List (List Int):=N6 (one (r1L (tLs tI))) (Va2 x y)
noncomputable def Ob2(x:List (List Int))(y:Int):Bool:=okO (one (r1L (tLs tI))) (Va2 x y)
noncomputable def uc3:Sum:=oa3 (P0 (tLs tI)) cI (λx y=>.guard (Ob2 x y) (.ret ((one (r1L (tLs tI))).enc (mb5 x y),[])))
theorem sd1:g9 prog G 96 uc3:=mb9 (bd b96 ad4) (one (r1L (tLs tI))) (o:=Va2) λx y=>wa1 (.s .p (.s .p (.s (.s .p (.b (.u ub6.ls))) .p))) [ub6.pr] (by kernel_rfl) (.cons Rc3 .nil) (by kernel_rfl)
noncomputable def Ad5:List (Nat×Sum):=[(96,uc3),(95,sd0)]
theorem sd2:i7 prog G Ad5:=⟨sd1,ke4,trivial⟩
noncomputable def eb9(x:List (List Int))(y:Int):Option (b7×List b8):=let t1:=(mb5 (rt (tLs tI) x) y);let t2:=(rd9 (rt (tLs tI) t1) y);(sl (okE (tLs tI) x) (sl (Ob2 (rt (tLs tI) x) y) (sl (okE (tLs tI) t1) (sl (zc7 (rt (tLs tI) t1) y) (some (eL (tLs tP) t2,[])) none) none) none) none)
noncomputable def va5(x:List (List Int))(y:Int):List (List Pln):=N6 (one (r1L (tLs tP))) (eb9 x y)
noncomputable def xb8(x:List (List Int))(y:Int):Bool:=okO (one (r1L (tLs tP))) (eb9 x y)
noncomputable def Kc3:Sum:=oa3 (P0 (tLs tI)) cI (λx y=>.guard (xb8 x y) (.ret ((one (r1L (tLs tP))).enc (va5 x y),[])))
theorem Ad6:g9 prog G 39 Kc3:=mb9 (bd b39 sd2) (one (r1L (tLs tP))) (o:=eb9) λx y=>v8 (by kernel_rfl)
noncomputable def Ud8:List (Nat×Sum):=[(16,yc3)]
theorem Ad7:i7 prog G Ud8:=⟨Uc5,trivial⟩
noncomputable def qb9(x:List Int):Option (b7×List b8):=let t1:=(pa9 (lsL tI ((if 40<(↑(List.length x):Int) then 40 else (↑(List.length x):Int)).toNat-0) (λk=>(λk=>(tI).row (gL tI x k)) (0+k))));(sl (inB (if 40<(↑(List.length x):Int) then 40 else (↑(List.length x):Int)) ((List.length x)+1)) (sl (okL tI ((if 40<(↑(List.length x):Int) then 40 else (↑(List.length x):Int)).toNat-0) (λk=>(λk=>(tI).row (gL tI x k)) (0+k))) (sl (Db0 (lsL tI ((if 40<(↑(List.length x):Int) then 40 else (↑(List.length x):Int)).toNat-0) (λk=>(λk=>(tI).row (gL tI x k)) (0+k)))) (some (eL tP t1,[])) none) none) none)
noncomputable def Ba8(x:List Int):List Pln:=N6 (one (r1L tP)) (qb9 x)
noncomputable def Kb0(x:List Int):Bool:=okO (one (r1L tP)) (qb9 x)
noncomputable def Vc5:Sum:=Y0 (P0 tI) (λx=>.guard (Kb0 x) (.ret ((one (r1L tP)).enc (Ba8 x),[])))
theorem Ud9:g9 prog G 38 Vc5:=Ja3 (bd b38 Ad7) (one (r1L tP)) (o:=qb9) λx=>v8 (by kernel_rfl)
noncomputable def bc1:List (Nat×Sum):=[(40,mb3),(101,pd2),(23,nd6)]
theorem Rc4:i7 prog G bc1:=⟨Eb6,he8,ge2,trivial⟩
structure Ba0 where
 (sd9 Fb6:List (List Pln))
 Bd2:Int
structure Q6 where
 Ra6:Int
noncomputable def Kb1(p:Ba0)(s:Q6):St:=⟨.unk::.unk::eL (tLs tP) p.sd9::ra 4 (eL (tLs tP) p.Fb6::ra 18 (i p.Bd2::i s.Ra6::ra 14 [])),[]⟩
noncomputable def qa8{α:Type}(k:Q6->α)(e:Nat->α)(z:α)(p:Ba0)(s:Q6):α:=let t1:=(yc9 (rt tP (gL (tLs tP) p.sd9 s.Ra6.toNat)));let t2:=(Wb6 (rt tP (gL (tLs tP) p.Fb6 s.Ra6.toNat)) (rt tP t1));(sl (decide (s.Ra6<p.Bd2)) (sl (inB s.Ra6 (List.length p.Fb6)) (sl (inB s.Ra6 (List.length p.sd9)) (sl (okE tP (gL (tLs tP) p.sd9 s.Ra6.toNat)) (sl (zc0 (rt tP (gL (tLs tP) p.sd9 s.Ra6.toNat))) (sl (okE tP (gL (tLs tP) p.Fb6 s.Ra6.toNat)) (sl (okE tP t1) (sl (Wb7 (rt tP (gL (tLs tP) p.Fb6 s.Ra6.toNat)) (rt tP t1)) (sl (!t2) (e 1) (k ⟨W (s.Ra6+1)⟩)) z) z) z) z) z) z) z) (e 2))
noncomputable def va6(p:Ba0)(s:Q6):Stp Q6:=qa8 .next .exit .fail p s
noncomputable def kb5:Lo Ba0 Q6:=⟨En bc1,0,Rf6,[1,1,1,0,1,4,4],[2,7,26,27],.p,[⟨sUq::sUq::.s (.c 1 (nL (tLs tP)))::ru2 4 (.s (.c 1 (nL (tLs tP)))::ru2 18 (sIq::sIq::ru2 14 [])),[],λa H=>(⟨rL (tLs tP) (slT a 2),rL (tLs tP) (slT a 7),aIq a 26⟩,⟨aIq a 27⟩)⟩],va6,[(none,λp s=>⟨[b false],[]⟩),(some 0,λp s=>upq (Kb1 p s) [(28,b (decide (s.Ra6<p.Bd2)))])],Kb1⟩
theorem Kc4:kb5.Ok:=Lo.ok [] (by kernel_rfl) .nil rfl (.cons (λa H=>by kernel_rfl) .nil) λp s=>(.of @qa8 (λF _ _ _ _ _=>by unfold qa8;(repeat' apply l6 (f:=F))<;>rfl) (by kernel_rfl))
noncomputable def Ma9(x:List Pln)(y:List (List Pln))(z:List (List Pln)):Option (b7×List b8):=let t1:=(Ua9 (rt tP x) (rt (tLs tP) y));let t2:=(lp (va6 (⟨rt (tLs tP) z,rt (tLs tP) t1.1,(↑(List.length z):Int)⟩:Ba0)) (⟨0⟩:Q6));(sl (okE tP x) (sl (okE (tLs tP) y) (sl (Va0 (rt tP x) (rt (tLs tP) y)) (sl (t1.2 != 0) (some (b false,[])) (sl ((↑(List.length t1.1):Int) != (↑(List.length z):Int)) (some (b false,[])) (sl ((cnE (tLs tP) z)&&((cnE (tLs tP) t1.1)&&true)) (sl (Nat.beq t2.1 1) (some (b false,[])) (sl (Nat.beq t2.1 2) (some (b true,[])) none)) none))) none) none) none)
noncomputable def qa9(x:List Pln)(y:List (List Pln))(z:List (List Pln)):Bool:=N6 (one r1B) (Ma9 x y z)
noncomputable def ra0(x:List Pln)(y:List (List Pln))(z:List (List Pln)):Bool:=okO (one r1B) (Ma9 x y z)
noncomputable def mc3:Sum:=Wc7 (P0 tP) (P0 (tLs tP)) (P0 (tLs tP)) (λx y z=>.guard (ra0 x y z) (.ret ((one r1B).enc (qa9 x y z),[])))
theorem ad5:g9 prog G 94 mc3:=Se4 (bd b94 Rc4) (one r1B) (o:=Ma9) λx y z=>wa1 (.s .p (.s .p (.s .p (.s (.s .p (.b (.u kb5.ls))) .p)))) [kb5.pr] (by kernel_rfl) (.cons Kc4 .nil) (by kernel_rfl)
noncomputable def ad6:List (Nat×Sum):=[(42,eb5)]
theorem Rc5:i7 prog G ad6:=⟨ub4,trivial⟩
noncomputable def Na0(x:List (List Pln))(y:List Pln)(z:Bool):Option (b7×List b8):=let t1:=(aa2 (rt (tLs tP) x) (rt tP y));(sl (okE (tLs tP) x) (sl (okE tP y) (sl (Aa6 (rt (tLs tP) x) (rt tP y)) (sl (t1.2==0) (some (b (t1.1==z),[])) (some (b false,[]))) none) none) none)
noncomputable def T0(x:List (List Pln))(y:List Pln)(z:Bool):Bool:=N6 (one r1B) (Na0 x y z)
noncomputable def O9(x:List (List Pln))(y:List Pln)(z:Bool):Bool:=okO (one r1B) (Na0 x y z)
noncomputable def Fb2:Sum:=Wc7 (P0 (tLs tP)) (P0 tP) cB (λx y z=>.guard (O9 x y z) (.ret ((one r1B).enc (T0 x y z),[])))
theorem bc2:g9 prog G 54 Fb2:=Se4 (bd b54 Rc5) (one r1B) (o:=Na0) λx y z=>v8 (by kernel_rfl)
noncomputable def Ad8:List (Nat×Sum):=[(47,Jc9)]
theorem sd3:i7 prog G Ad8:=⟨Ad1,trivial⟩
noncomputable def fb0(x:List (List Pln))(y:List (List Pln))(z:Bool):Option (b7×List b8):=let t1:=(xb6 (rt (tLs tP) x) (rt (tLs tP) y));(sl (okE (tLs tP) x) (sl (okE (tLs tP) y) (sl (xb7 (rt (tLs tP) x) (rt (tLs tP) y)) (sl (t1.2==0) (some (b (t1.1==z),[])) (some (b false,[]))) none) none) none)
noncomputable def fb1(x:List (List Pln))(y:List (List Pln))(z:Bool):Bool:=N6 (one r1B) (fb0 x y z)
noncomputable def Q7(x:List (List Pln))(y:List (List Pln))(z:Bool):Bool:=okO (one r1B) (fb0 x y z)
noncomputable def Kc5:Sum:=Wc7 (P0 (tLs tP)) (P0 (tLs tP)) cB (λx y z=>.guard (Q7 x y z) (.ret ((one r1B).enc (fb1 x y z),[])))
theorem Ad9:g9 prog G 53 Kc5:=Se4 (bd b53 sd3) (one r1B) (o:=fb0) λx y z=>v8 (by kernel_rfl)
noncomputable def ad7:List (Nat×Sum):=[(93,Vc4),(94,mc3),(54,Fb2),(45,Ob1),(53,Kc5),(49,mb2)]
theorem Rc6:i7 prog G ad7:=⟨Ud7,ad5,bc2,mc0,Ad9,Eb5,trivial⟩
noncomputable def Na1  : Option (b7×List b8):=let t1:=(O8 0 0 0 1 1 1);let t2:=(O8 1 0 0 2 1 1);let t3:=(O8 0 0 0 2 1 1);let t4:=(O8 1 0 0 3 1 1);let t5:=(qa9 (rt tP t3) [rt tP t4] [rt tP t1]);let t6:=(O8 0 0 0 3 1 1);let t7:=(O8 2 0 0 3 1 1);let t8:=(qa9 (rt tP t6) [rt tP t2] [rt tP t1,rt tP t7]);let t9:=(qa9 (rt tP t1) [] [rt tP t1]);let t10:=(qa9 (rt tP t1) [rt tP t2] [rt tP t1]);let t11:=(T0 [rt tP t1,rt tP t2] (rt tP t3) true);let t12:=(T0 [rt tP t1] (rt tP t3) false);let t13:=(O8 0 1 0 1 2 1);let t14:=(xa7 (rt tP t1) [rt tP t2,rt tP t13]);let t15:=(fb1 [rt tP t3] [rt tP t1,rt tP t2] true);let t16:=(fb1 [rt tP t3] [rt tP t2] false);let t17:=(X7 [[],[],[],[],[],[],[],[],[],[],[],[],[],[],[],[],[]]);let t18:=(X7 [[(⟨(⟨2,0,0⟩:V3),1⟩:Pln)]]);let a0:=((okE tP t1)&&((okE tP t2)&&true));let a1:=((okE tP t2)&&((okE tP t13)&&true));let w0:Option (b7×List b8):=(sl a0 (sl (okE tP t3) (sl (O9 [rt tP t1,rt tP t2] (rt tP t3) true) (sl t11 (sl ((okE tP t1)&&true) (sl (okE tP t3) (sl (O9 [rt tP t1] (rt tP t3) false) (sl t12 (sl (L9 0 1 0 1 2 1) (sl (okE tP t1) (sl a1 (sl (oa1 (rt tP t1) [rt tP t2,rt tP t13]) (sl ((okE tP t3)&&true) (sl a0 (sl (Q7 [rt tP t3] [rt tP t1,rt tP t2] true) (sl t15 (sl ((okE tP t3)&&true) (sl ((okE tP t2)&&true) (sl (Q7 [rt tP t3] [rt tP t2] false) (some (b false,[])) none) none) none) (some (b false,[]))) none) none) none) none) none) none) none) (sl ((okE tP t3)&&true) (sl a0 (sl (Q7 [rt tP t3] [rt tP t1,rt tP t2] true) (sl t15 (sl ((okE tP t3)&&true) (sl ((okE tP t2)&&true) (sl (Q7 [rt tP t3] [rt tP t2] false) (some (b false,[])) none) none) none) (some (b false,[]))) none) none) none)) none) none) none) (sl ((okE tP t3)&&true) (sl a0 (sl (Q7 [rt tP t3] [rt tP t1,rt tP t2] true) (sl t15 (sl ((okE tP t3)&&true) (sl ((okE tP t2)&&true) (sl (Q7 [rt tP t3] [rt tP t2] false) (some (b false,[])) none) none) none) (some (b false,[]))) none) none) none)) none) none) none);let w1:Option (b7×List b8):=(sl ((okE tP t3)&&true) (sl a0 (sl (Q7 [rt tP t3] [rt tP t1,rt tP t2] true) (sl t15 (sl ((okE tP t3)&&true) (sl ((okE tP t2)&&true) (sl (Q7 [rt tP t3] [rt tP t2] false) (sl t10 (some (b false,[])) (some (b false,[]))) none) none) none) (sl t10 (some (b false,[])) (some (b false,[])))) none) none) none);(sl (L9 0 0 0 1 1 1) (sl (L9 1 0 0 2 1 1) (sl (L9 0 0 0 2 1 1) (sl (L9 1 0 0 3 1 1) (sl (okE tP t3) (sl ((okE tP t4)&&true) (sl ((okE tP t1)&&true) (sl (ra0 (rt tP t3) [rt tP t4] [rt tP t1]) (sl t5 (sl (L9 0 0 0 3 1 1) (sl (L9 2 0 0 3 1 1) (sl (okE tP t6) (sl ((okE tP t2)&&true) (sl ((okE tP t1)&&((okE tP t7)&&true)) (sl (ra0 (rt tP t6) [rt tP t2] [rt tP t1,rt tP t7]) (sl t8 (sl (okE tP t1) (sl ((okE tP t1)&&true) (sl (ra0 (rt tP t1) [] [rt tP t1]) (sl t9 (sl (okE tP t1) (sl ((okE tP t2)&&true) (sl ((okE tP t1)&&true) (sl (ra0 (rt tP t1) [rt tP t2] [rt tP t1]) (sl a0 (sl (okE tP t3) (sl (O9 [rt tP t1,rt tP t2] (rt tP t3) true) (sl t11 (sl ((okE tP t1)&&true) (sl (okE tP t3) (sl (O9 [rt tP t1] (rt tP t3) false) (sl t12 (sl (L9 0 1 0 1 2 1) (sl (okE tP t1) (sl a1 (sl (oa1 (rt tP t1) [rt tP t2,rt tP t13]) (sl ((okE tP t3)&&true) (sl a0 (sl (Q7 [rt tP t3] [rt tP t1,rt tP t2] true) (sl t15 (sl ((okE tP t3)&&true) (sl ((okE tP t2)&&true) (sl (Q7 [rt tP t3] [rt tP t2] false) (sl t10 (sl t14 (sl t16 (sl (X8 [[],[],[],[],[],[],[],[],[],[],[],[],[],[],[],[],[]]) (sl (t17==2) (sl (X8 [[(⟨(⟨2,0,0⟩:V3),1⟩:Pln)]]) (some (b (t18==12),[])) none) (some (b false,[]))) none) (some (b false,[]))) (some (b false,[]))) (some (b false,[]))) none) none) none) (sl t10 (sl t14 (some (b false,[])) (some (b false,[]))) (some (b false,[])))) none) none) none) none) none) none) none) w1) none) none) none) w1) none) none) none) none) none) none) none) w0) none) none) none) w0) none) none) none) none) none) none) w0) none) none) none) none) none) none) none) none)
noncomputable def fb2  : Bool:=N6 (one r1B) Na1
noncomputable def fb3  : Bool:=okO (one r1B) Na1
noncomputable def mc4:Sum:=oe8  (.guard fb3 (.ret ((one r1B).enc fb2,[])))
theorem ad8:g9 prog G 37 mc4:=ag4 (bd b37 Rc6) (one r1B) (o:=Na1) (v8 (by kernel_rfl))
structure Me2 where
 Ff7:List Pln
 (is8 f7 d8 f8:Int)
structure Me3 where
 is9:Int
structure Mc(c:List Pln):Prop where
 g:pd7 c
 l:c.length<=12
theorem yf5{l:List V3}(h:Qc0 l=0)(h8:l.length<=8):Mc (F0 l):=by
 obtain⟨h1,h2⟩:=Ke0 h
 have:=Nf9 h1 h2
 have k:2*(l.length-2)<=12:=by omega
 exact⟨⟨by omega,λp hp=>(ef5 hp).ok,wf3 h1 h2⟩,by omega⟩
theorem Ce4(x:List Int):Rd (one (r1L tP)) (Cb9 x) Mc:=by
 obtain⟨v1,j1,e1,a1,b1,c1,d1⟩:=ya3 4 x 0 (by omega) (by omega) (by omega) (by omega)
 obtain⟨w1,w2,w3,j2,e2,p1,p2,p3,c2,d2⟩:=yc4 6 x j1 (by omega) (by omega) (by omega) (by omega)
 obtain⟨v3,j3,e3,a3,b3,c3,d3⟩:=ya3 6 x j2 (by omega) (by omega) (by omega) (by omega)
 obtain⟨v4,j4,e4,a4,b4,c4,d4⟩:=ya3 6 x j3 (by omega) (by omega) (by omega) (by omega)
 obtain⟨v5,j5,e5,a5,b5,c5,d5⟩:=ya3 6 x j4 (by omega) (by omega) (by omega) (by omega)
 have hin:inB (if 7<(x.length:Int) then 7 else (x.length:Int)) (x.length+1)=true:=by
  rw[Nd4];apply decide_eq_true
  split<;>omega
 have hok:∀n m,okL tI n (λk=>(λk=>tI.row (gL tI x k)) (m+k))=true:=λn m=>ab5 tI (f:=λk=>gL tI x (m+k)) λ_ _=>rfl
 unfold Cb9;simp only[i5,i8,o5,e1,e2,e3,e4,e5,Df7,Df8,hin,hok,Ab2,tf9,af0,Qlr,Bool.and_true,f9];generalize hL:lsL tI _ _=L;have hg:pd7 (xd7 ⟨w1,w2,w3⟩ ⟨W (W (w1+1)+v3),W (W (w2+1)+v4),W (W (w3+1)+v5)⟩):=by
  obtain⟨q1,q2⟩:=p1;obtain⟨q3,q4⟩:=p2;obtain⟨q5,q6⟩:=p3;have i1:W (W (w1+1)+v3)=w1+1+v3:=by rw[ka2 (n:=w1+1) (by omega) (by omega),ka2 (by omega) (by omega)]
  have i2:W (W (w2+1)+v4)=w2+1+v4:=by rw[ka2 (n:=w2+1) (by omega) (by omega),ka2 (by omega) (by omega)]
  have i3:W (W (w3+1)+v5)=w3+1+v5:=by rw[ka2 (n:=w3+1) (by omega) (by omega),ka2 (by omega) (by omega)]
  rw[i1,i2,i3];refine ef7 ⟨⟨?_,?_⟩,⟨?_,?_⟩,?_,?_⟩ ⟨⟨?_,?_⟩,⟨?_,?_⟩,?_,?_⟩ ⟨?_,?_,?_⟩<;>simp only<;>omega
 have hB6:(xd7 ⟨w1,w2,w3⟩ ⟨W (W (w1+1)+v3),W (W (w2+1)+v4),W (W (w3+1)+v5)⟩).length=6:=rfl;generalize hB:xd7 _ _=B at *
 have hl6:len (bL tP B)=6:=by rw[S6,hB6]
 have ea:app [] (bL tP B)=bL tP B:=rfl;have es:∀q:Pln,slR tP (bL tP (B++[q])) 0 (0+6+1)=B++[q]:=λq=>by
  have:=fc2 tP (B++[q])
  rw[Qla,hB6] at this;exact this
 have eo:∀q:Pln,okS tP (bL tP (B++[q])) 0 (0+6+1)=true:=λq=>by
  have:=fc3 tP (B++[q])
  rw[Qla,hB6] at this;exact this
 have hlen:∀q:Pln,(B++[q]).length<=1000000000:=λq=>by rw[Qla,hB6];exact (by decide:6+1<=1000000000)
 have gF:∀q:Pln,Xa3 (B++[q])=true:=λq=>ze4 (hlen q)
 have pF:∀q:Pln,Xa2 (B++[q])=ful (B++[q]):=λq=>ze3 (hlen q)
 have q1:Nat.ble ((0+6)*32) room=true:=fa0 (by omega)
 have q2:Nat.ble (((0+6)+1)*32) room=true:=fa0 (by omega)
 have q3:Nat.beq (0+6) 6=true:=rfl;have hp:=af1 L;have gf:Jb1 (ma0 L)=true:=uf4 _ (by omega)
 simp only[hl6,ea,Hc5,es,eo,gF,pF,q1,q2,q3,Qlc,gf,ef1 (ma0 L) (by omega),f9,show Nat.beq 6 0=false from rfl,G0]
 have box:Rd (one (r1L tP)) (some (eL tP B,[])) Mc:=af2 ⟨hg,by rw[hB6];decide⟩
 have fcs:(Qc2 (ma0 L)).2==0->Rd (one (r1L tP)) (some (eL tP (Qc2 (ma0 L)).1,[])) Mc:=λh=>af2 (by
  unfold Qc2 at h ⊢;by_cases h0:Qc0 (ma0 L)=0
  ·rw[if_pos h0];exact yf5 h0 hp.2
  ·rw[if_neg h0] at h;exact absurd (by simpa using h) h0)
 have hcut:ful (B++[Cb7 L])=true->Mc (B++[Cb7 L]):=λhf=>⟨
  ⟨by rw[Qla,hB6];exact (by decide:6+1<=47),λp h=>by
   rcases Qlq.1 h with h|h
   ·exact hg.v p h
   ·rw[Qlh.1 h];exact wf4 L,(Ic8 hf).2.2⟩,by rw[Qla,hB6];exact (by decide:6+1<=12)⟩
 exact Rd.sl (λ_=>Rd.sl (λhf=>Rd5 (by rw[Qla,hB6];rfl) rfl (hcut hf)) λ_=>Rd.sl (λ_=>Rd.sl (λh=>fcs h) λ_=>box) λ_=>box) λ_=>Rd.sl (λ_=>Rd.sl (λh=>fcs h) λ_=>box) λ_=>box
theorem Jd3(x:List Int):Mc (pa9 x):=(Ce4 x).p
theorem Jd4(x:List Int):Db0 x=true:=(Ce4 x).g
theorem Zf0(x:List Int):inB (if 40<(x.length:Int) then 40 else (x.length:Int)) (x.length+1)=true:=by
 rw[Nd4];apply decide_eq_true
 split<;>omega
theorem if5(x:List Int):∃L,qb9 x=some (eL tP (pa9 L),[]):=by
 unfold qb9;rw[Zf0 x,ab5 tI (f:=λk=>gL tI x (0+k)) λ_ _=>rfl]
 simp only[i5,Jd4,f9];exact⟨_,rfl⟩
theorem Zf1(x:List Int):Mc (Ba8 x):=by
 obtain⟨L,h⟩:=if5 x;unfold Ba8;rw[h,Ga7 (one (r1L tP)) (sc8 tP (pa9 L))];exact Jd3 L
theorem Zf2(x:List Int):Kb0 x=true:=by
 obtain⟨L,h⟩:=if5 x;unfold Kb0;rw[h];exact Ta4 _ (sc8 tP (pa9 L))
def phA(R:List (List b7)):Nat:=match R with
 |[]=>0
 |_::_=>1
theorem yf6(R:List (List b7))(r:List b7):phA (R++[r])=1:=by cases R<;>rfl
theorem Zf3(R:List (List b7))(h:R.length<=1000000):(Nat.beq R.length (len R)&&Nat.ble ((R.length+1)*24) room)=true:=by
 rw[n7,Qlr,Qlam];exact Qlal (by unfold room;omega)
structure RI(y:Nat)(t:Nat)(s:E1):Prop where
 t:t=phA s.eh0*2+1\/t=phA s.eh0*2+2
 n:s.ns5=s.eh0.length
 y:s.eh0.length<=y
 r:∀r∈s.eh0,(tLs tI).ok r=true
theorem ue8(x:List (List Int))(y:Nat)(hy:y<=1000000):∃t s,lp (W4 ⟨x,(y:Int)⟩) ⟨0,0,0,[]⟩=(t,s)/\RI y t s:=by
 refine Z6 (step:=W4 ⟨x,(y:Int)⟩) (mk:=λj (R:List (List b7))=>(⟨phA R,(j:Int),R.length,R⟩:E1)) y
  (λj R=>j<=y/\R.length=j/\∀r∈R,(tLs tI).ok r=true) (RI y) (by omega) (λj R hj hi=>?_) (λj R hj hi=>?_) 0 [] ⟨Qle _,rfl,λr hr=>by cases hr⟩
 ·obtain⟨_,hl,hr⟩:=hi;have hn:W ((j:Int)+1)=((j+1:Nat):Int):=n8 hj (by omega)
  by_cases hx:j<x.length
  ·have h40:=Zf0 (gL (tLs tI) x j);have hok:(tLs tI).ok [(.tree 1 ((if 40<((gL (tLs tI) x j).length:Int) then 40 else ((gL (tLs tI) x j).length:Int)).toNat-0) (λk=>(λk=>tI.row (gL tI (gL (tLs tI) x j) k)) (0+k)))]=true:=by
    show Bool.and (Nat.beq 1 tI.es) (okL tI _ _)=true;rw[ab5 tI (f:=λk=>gL tI (gL (tLs tI) x j) (0+k)) λ_ _=>rfl]
    rfl
   cases R with
   |nil =>
    have e:W4 ⟨x,(y:Int)⟩ ⟨phA [],(j:Int),([]:List (List b7)).length,[]⟩=.next ⟨1,((j+1:Nat):Int),1,[[(.tree 1 ((if 40<((gL (tLs tI) x j).length:Int) then 40 else ((gL (tLs tI) x j).length:Int)).toNat-0) (λk=>(λk=>tI.row (gL tI (gL (tLs tI) x j) k)) (0+k)))]]⟩:=by
     show E4 Stp.next Stp.exit Stp.fail _ _=_;simp only[E4,Int.toNat_natCast,h40,hn,f9];rw[btD (g7 hx),btD (g7 hj),bt (f0 hx),bt (f0 hx)]
    rw[e];exact .nx ⟨[[_]],rfl,hj,by have:0=j:=hl;subst this;rfl,λr hr=>by rw[Qlh.1 hr];exact hok⟩
   |cons o os =>
    have e:W4 ⟨x,(y:Int)⟩ ⟨phA (o::os),(j:Int),(o::os).length,o::os⟩=.next ⟨1,((j+1:Nat):Int),(o::os).length+1,o::os++[[(.tree 1 ((if 40<((gL (tLs tI) x j).length:Int) then 40 else ((gL (tLs tI) x j).length:Int)).toNat-0) (λk=>(λk=>tI.row (gL tI (gL (tLs tI) x j) k)) (0+k)))]]⟩:=by
     show E5 Stp.next Stp.exit Stp.fail _ _=_;simp only[E5,Int.toNat_natCast,h40,hn,Zf3 (o::os) (by omega),f9]
     rw[btD (g7 hx),btD (g7 hj),bt (f0 hx),bt (f0 hx),G7]
    rw[e];exact .nx ⟨_,by rw[yf6,Qla];rfl,hj,by rw[Qla,hl];rfl,λr hr'=>by
     rcases Qlq.1 hr' with h|h
     ·exact hr r h
     ·rw[Qlh.1 h];exact hok⟩
  ·cases R with
   |nil =>
    have e:W4 ⟨x,(y:Int)⟩ ⟨phA [],(j:Int),([]:List (List b7)).length,[]⟩=.exit 2:=by
     show E4 Stp.next Stp.exit Stp.fail _ _=_;simp only[E4];rw[bfD (l9 hx)]
    rw[e];exact .ex ⟨.inr rfl,rfl,Qle _,hr⟩
   |cons o os =>
    have e:W4 ⟨x,(y:Int)⟩ ⟨phA (o::os),(j:Int),(o::os).length,o::os⟩=.exit 4:=by
     show E5 Stp.next Stp.exit Stp.fail _ _=_;simp only[E5];rw[bfD (l9 hx)]
    rw[e];exact .ex ⟨.inr rfl,rfl,by simp only;omega,hr⟩
 ·obtain⟨h1,hl,hr⟩:=hi;have hje:j=y:=by omega
  subst hje;by_cases hx:j<x.length
  ·cases R with
   |nil =>
    refine⟨1,?_,.inl rfl,rfl,Qle _,hr⟩;show E4 Stp.next Stp.exit Stp.fail _ _=_;simp only[E4];rw[btD (g7 hx),bfD (l9 (Qlg _))]
   |cons o os =>
    refine⟨3,?_,.inl rfl,rfl,by simp only;omega,hr⟩
    show E5 Stp.next Stp.exit Stp.fail _ _=_;simp only[E5];rw[btD (g7 hx),bfD (l9 (Qlg _))]
  ·cases R with
   |nil =>
    refine⟨2,?_,.inr rfl,rfl,Qle _,hr⟩;show E4 Stp.next Stp.exit Stp.fail _ _=_;simp only[E4];rw[bfD (l9 hx)]
   |cons o os =>
    refine⟨4,?_,.inr rfl,rfl,by simp only;omega,hr⟩
    show E5 Stp.next Stp.exit Stp.fail _ _=_;simp only[E5];rw[bfD (l9 hx)]
theorem if6(x:List (List Int))(y:Nat)(hy:y<=1000000):Rd (one (r1L (tLs tI))) (Va2 x (y:Int)) (λr=>r.length<=y):=by
 obtain⟨t,s,h,hR⟩:=ue8 x y hy;unfold Va2;simp only[i5,i8,h,Qlc,f9];obtain⟨ht,hn,hl,hr⟩:=hR;cases hs:s.eh0 with
 |nil =>
  rw[hs] at ht
  rcases ht with rfl|rfl<;>exact⟨_,[],rfl,rfl,Qle _⟩
 |cons o os =>
  have hrd:(one (r1L (tLs tI))).rd (.sl 0 0 s.ns5 0,[⟨22,1,o::os,true,false,0⟩])=some (slR (tLs tI) (o::os) 0 s.ns5):=by
   show Bool.rec (motive:=λ_=>Option (List (List Int))) none (some (slR (tLs tI) (o::os) 0 s.ns5)) (Bool.and (Nat.beq 1 1) (okS (tLs tI) (o::os) 0 s.ns5))=_
   have:okS (tLs tI) (o::os) 0 s.ns5=true:=by
    unfold okS okL;rw[Qli];intro k hk;have hk:=Qln.1 hk;rw[hn,hs] at hk;simp only[Qls];have e:l5 (o::os) k=(o::os)[k]:=by unfold l5;rw[C4,Qlb hk]
    rw[e];exact hr _ (by rw[hs];exact List.getElem_mem hk)
   rw[this];rfl
  have hlen:(slR (tLs tI) (o::os) 0 s.ns5).length<=y:=by unfold slR;rw[Md9,hn];exact hl
  rw[hs] at ht
  rcases ht with rfl|rfl<;>exact⟨_,_,rfl,hrd,hlen⟩
structure Ms(y:Nat)(s:List (List Pln)):Prop where
 n:s.length<=y
 c:∀c∈s,Mc c
structure RM(y:Nat)(t:Nat)(s:Q5):Prop where
 h:∃O,(t=phL O*2+1\/t=phL O*2+2)/\s.eh0=bL (tLs tP) O/\s.ns5=O.length/\Ms y O
theorem ke5(x:List (List Int))(y:Nat)(hy:y<=1000000):∃t s,lp (oa2 ⟨x,(y:Int)⟩) ⟨0,0,0,[]⟩=(t,s)/\RM y t s:=by
 refine Z6 (step:=oa2 ⟨x,(y:Int)⟩) (mk:=λj (O:List (List Pln))=>(⟨phL O,(j:Int),O.length,bL (tLs tP) O⟩:Q5)) y
  (λj O=>j<=y/\O.length=j/\∀c∈O,Mc c) (RM y) (by omega) (λj O hj hi=>?_) (λj O hj hi=>?_) 0 [] ⟨Qle _,rfl,λr hr=>by cases hr⟩
 ·obtain⟨_,hl,hr⟩:=hi;have hn:W ((j:Int)+1)=((j+1:Nat):Int):=n8 hj (by omega)
  by_cases hx:j<x.length
  ·have hM:=Jd3 (gL (tLs tI) x j);have gM:=Jd4 (gL (tLs tI) x j);have hnew:∀c∈O++[pa9 (gL (tLs tI) x j)],Mc c:=λc hc=>by
    rcases Qlq.1 hc with h|h
    ·exact hr c h
    ·rw[Qlh.1 h];exact hM
   cases O with
   |nil =>
    have e:oa2 ⟨x,(y:Int)⟩ ⟨phL [],(j:Int),([]:List (List Pln)).length,bL (tLs tP) []⟩=.next ⟨1,((j+1:Nat):Int),1,[[eL tP (pa9 (gL (tLs tI) x j))]]⟩:=by
     show O6 Stp.next Stp.exit Stp.fail _ _=_;simp only[O6,Int.toNat_natCast,i5,o5,gM,hn,f9];rw[btD (g7 hx),btD (g7 hj),bt (f0 hx)]
    rw[e];exact .nx ⟨[_],rfl,hj,by have:0=j:=hl;subst this;rfl,hnew⟩
   |cons o os =>
    have e:oa2 ⟨x,(y:Int)⟩ ⟨phL (o::os),(j:Int),(o::os).length,bL (tLs tP) (o::os)⟩=.next ⟨1,((j+1:Nat):Int),(o::os).length+1,bL (tLs tP) (o::os++[pa9 (gL (tLs tI) x j)])⟩:=by
     show O7 Stp.next Stp.exit Stp.fail _ _=_;simp only[O7,Int.toNat_natCast,i5,o5,gM,hn,ue2 (o::os) (by omega),ff8,f9]
     rw[btD (g7 hx),btD (g7 hj),bt (f0 hx)]
    rw[e];exact .nx ⟨_,by rw[Td9,Qla];rfl,hj,by rw[Qla,hl];rfl,hnew⟩
  ·cases O with
   |nil =>
    have e:oa2 ⟨x,(y:Int)⟩ ⟨phL [],(j:Int),([]:List (List Pln)).length,bL (tLs tP) []⟩=.exit 2:=by
     show O6 Stp.next Stp.exit Stp.fail _ _=_;simp only[O6];rw[bfD (l9 hx)]
    rw[e];exact .ex ⟨[],.inr rfl,rfl,rfl,Qle _,hr⟩
   |cons o os =>
    have e:oa2 ⟨x,(y:Int)⟩ ⟨phL (o::os),(j:Int),(o::os).length,bL (tLs tP) (o::os)⟩=.exit 4:=by
     show O7 Stp.next Stp.exit Stp.fail _ _=_;simp only[O7];rw[bfD (l9 hx)]
    rw[e];exact .ex ⟨o::os,.inr rfl,rfl,rfl,by omega,hr⟩
 ·obtain⟨h1,hl,hr⟩:=hi;have hje:j=y:=by omega
  subst hje;by_cases hx:j<x.length
  ·cases O with
   |nil =>
    refine⟨1,?_,[],.inl rfl,rfl,rfl,Qle _,hr⟩;show O6 Stp.next Stp.exit Stp.fail _ _=_;simp only[O6];rw[btD (g7 hx),bfD (l9 (Qlg _))]
   |cons o os =>
    refine⟨3,?_,o::os,.inl rfl,rfl,rfl,by omega,hr⟩
    show O7 Stp.next Stp.exit Stp.fail _ _=_;simp only[O7];rw[btD (g7 hx),bfD (l9 (Qlg _))]
  ·cases O with
   |nil =>
    refine⟨2,?_,[],.inr rfl,rfl,rfl,Qle _,hr⟩;show O6 Stp.next Stp.exit Stp.fail _ _=_;simp only[O6];rw[bfD (l9 hx)]
   |cons o os =>
    refine⟨4,?_,o::os,.inr rfl,rfl,rfl,by omega,hr⟩
    show O7 Stp.next Stp.exit Stp.fail _ _=_;simp only[O7];rw[bfD (l9 hx)]
theorem Me4(x:List (List Int))(y:Nat)(hy:y<=1000000):Rd (one (r1L (tLs tP))) (Fb1 x (y:Int)) (Ms y):=by
 obtain⟨t,s,h,O,ht,he,hn,hM⟩:=ke5 x y hy;unfold Fb1;simp only[i5,i8,h,he,hn,Qlc,f9];cases O with
 |nil=>rcases ht with rfl | rfl<;>exact⟨_,[],rfl,rfl,hM⟩
 |cons o os=>rcases ht with rfl | rfl<;>exact⟨_,o::os,rfl,af3 (tLs tP) 24 (o::os),hM⟩
theorem ke6(x:List (List Int))(y:Nat)(hy:y<=1000000):Rd (one (r1L (tLs tP))) (eb9 x (y:Int)) (Ms y):=by
 have h1:=if6 x y hy;have h2:=Me4 (mb5 x (y:Int)) y hy;unfold eb9;simp only[i5,o5,show Ob2 x (y:Int)=true from h1.g,show zc7 (mb5 x (y:Int)) (y:Int)=true from h2.g,f9]
 exact⟨_,_,rfl,sc8 (tLs tP) _,h2.p⟩
theorem yf7(x:List (List Int))(y:Nat)(hy:y<=1000000):Ms y (va5 x (y:Int)):=(ke6 x y hy).p
theorem yf8(x:List (List Int))(y:Nat)(hy:y<=1000000):xb8 x (y:Int)=true:=(ke6 x y hy).g
theorem Rc7{x:List (List Pln)}{y:List Pln}{z:Bool}(hy:y.length<=1000000)(hn:x.length<=1000000)(hx:∀q∈x,q.length<=1000000):T0 x y z=((w9 x y).2==0&&(w9 x y).1==z)/\O9 x y z=true:=by
 have e:Na0 x y z=some (b ((w9 x y).2==0&&(w9 x y).1==z),[]):=by
  unfold Na0;simp only[i5,o5,lc9 hy hn hx,rd5 hy hn hx,f9];cases (w9 x y).2==0<;>rfl
 unfold T0 O9;rw[e];exact⟨rfl,rfl⟩
theorem Ce5{x y:List (List Pln)}{z:Bool}(hx:x.length<=1000000)(hxl:∀q∈x,q.length<=1000000)(hy:y.length<=1000000)(hyl:∀q∈y,q.length<=1000000):fb1 x y z=((Sb1 x y).2==0&&(Sb1 x y).1==z)/\Q7 x y z=true:=by
 have e:fb0 x y z=some (b ((Sb1 x y).2==0&&(Sb1 x y).1==z),[]):=by
  unfold fb0;simp only[i5,o5,xf9 hx hxl hy hyl,yf0 hx hxl hy hyl,f9];cases (Sb1 x y).2==0<;>rfl
 unfold fb1 Q7;rw[e];exact⟨rfl,rfl⟩
theorem Rc8(x fs:List Pln):∀j,(A3 x fs j).length<=x.length+j
 |0=>by simp[A3]
 |j+1=>by
  have h1:=Rc8 x fs j;have h2:=eb1 (A3 x fs j++[gL tP fs j]);rw[Qla] at h2;simp only[List.length_singleton] at h2;show (lean (A3 x fs j++[gL tP fs j])).length<=_;omega
theorem yf9{x fs:List Pln}(h:x.length+fs.length<=48):xa5 x fs=true:=Qli.2 λj hj=>decide_eq_true (by
 have:=Qln.1 hj
 have:=Rc8 x fs j
 omega)
theorem zf0(x fs:List Pln)(j:Nat):(Ma5 x fs j).length<=x.length+j+1:=by
 have h1:=Rc8 x fs j;have h2:=eb1 (A3 x fs j++[V9 (gL tP fs j)]);rw[Qla] at h2;simp only[List.length_singleton] at h2;unfold Ma5;omega
structure Bnd(n m:Nat)(ps:List (List Pln)):Prop where
 n:ps.length<=n
 m:∀x∈ps,x.length<=m
theorem Ce6{q x:List Pln}{k m:Nat}(h1:1<=k)(hq:(lean q).length<=k)(hx:x.length<=m):(xa6 q x).length<=k/\∀y∈xa6 q x,y.length<=m+k:=by
 unfold xa6;split
 ·exact⟨by simpa using h1,λy hy=>by rw[Qlh.1 hy];omega⟩
 ·refine⟨Qld (rd3 _ _ _) hq,λy hy=>?_⟩
  obtain⟨j,hj,rfl,_⟩:=qb6.1 hy
  have:=zf0 x (lean q) j
  omega
theorem Ce7{q:List Pln}{k m:Nat}(h1:1<=k)(hq:(lean q).length<=k):∀ps:List (List Pln),(∀x∈ps,x.length<=m)->(ps.flatMap (xa6 q)).length<=k*ps.length
 |[],_=>by simp
 |x::ps,h=>by
  have a:=Ce7 h1 hq ps λx hx=>h x (List.mem_cons_of_mem _ hx)
  have c:=(Ce6 (x:=x) h1 hq (h x (by simp))).1
  simp only[List.flatMap_cons,Qla,List.length_cons];rw[Nat.mul_add];omega
theorem mc5{ps:List (List Pln)}{q:List Pln}{n m k:Nat}(h:Bnd n m ps)(h1:1<=k)(hq:q.length<=k)(hk:m+k<=48)(hn:k*n<=200):∃r,s6 ps q=some r/\Bnd (k*n) (m+k) r:=by
 have hl:(lean q).length<=k:=Qld (eb1 q) hq;have hnn:n<=k*n:=Nat.le_mul_of_pos_left n h1;unfold s6;split
 ·have hf:=Ce7 h1 hl ps h.m;have hf2:k*ps.length<=k*n:=Nat.mul_le_mul_left k h.n;have hc:(ps.all (Ia2 q)&&decide ((ps.flatMap (xa6 q)).length<=200))=true:=by
   rw[Qlx];refine⟨Qli.2 λx hx=>?_,decide_eq_true (by omega)⟩
   unfold Ia2;rw[yf9 (by have:=h.m x hx;omega),Bool.or_true]
  rw[if_pos hc];refine⟨_,rfl,by omega,λy hy=>?_⟩
  obtain⟨x,hx,hy⟩:=List.mem_flatMap.1 hy;exact (Ce6 h1 hl (h.m x hx)).2 y hy
 ·exact⟨ps,rfl,Qld h.n hnn,λx hx=>by have:=h.m x hx;omega⟩
theorem Me5(c:List Pln):Bnd 1 c.length (if ful c then [lean c] else []):=by
 split
 ·exact⟨by simp,λx hx=>by rw[Qlh.1 hx];exact eb1 c⟩
 ·exact⟨by simp,λx hx=>by cases hx⟩
theorem Me6{c:List Pln}{s:List (List Pln)}(hc:c.length<=13)(hn:s.length<=2)(hs:∀q∈s,q.length<=12):∃r,ea6 c s=some r/\Bnd 144 37 r:=by
 have h0:Bnd 1 13 (if ful c then [lean c] else []):=by
  have:=Me5 c
  exact⟨this.n,λx hx=>Qld (this.m x hx) hc⟩
 unfold ea6
 match s,hn,hs with
 |[],_,_=>exact⟨_,rfl,Qld h0.n (by omega),λx hx=>Qld (h0.m x hx) (by omega)⟩
 |[a],_,hs =>
  obtain⟨r,e,h⟩:=mc5 (q:=a) h0 (k:=12) (by omega) (hs a (by simp)) (by omega) (by omega)
  exact⟨r,e,Qld h.n (by omega),λx hx=>Qld (h.m x hx) (by omega)⟩
 |[a,d],_,hs =>
  obtain⟨r,e,h⟩:=mc5 (q:=a) h0 (k:=12) (by omega) (hs a (by simp)) (by omega) (by omega)
  obtain⟨r2,e2,h2⟩:=mc5 (q:=d) h (k:=12) (by omega) (hs d (by simp)) (by omega) (by omega)
  refine⟨r2,?_,Qld h2.n (by omega),λx hx=>Qld (h2.m x hx) (by omega)⟩
  show (s6 _ a).bind (λps=>s6 ps d)=some r2
  rw[e];exact e2
 |_::_::_::_,hn,_=>simp at hn
def Cov(s:List (List Pln))(c:List Pln):Prop:=ful c=true->∀z,Inr (c++ws) z->∃q∈s,ful q=true/\Inr (q++ws) z
theorem Cov.mono{s t:List (List Pln)}{c:List Pln}(h:Cov s c)(hs:∀q∈s,q∈t):Cov t c:=λhf z hz=>by
 obtain⟨q,hq,h2⟩:=h hf z hz;exact⟨q,hs q hq,h2⟩
theorem pc7{s:List (List Pln)}(hn:s.length<=16)(hs:∀q∈s,(chk q==0)=true):schk s=0:=by
 unfold schk;rw[if_neg (by omega),Qlt.2 λq hq=>by have:=hs q hq;rw[beq_iff_eq] at this;simp[this]]
open Classical in
theorem zc8{s:List (List Pln)}{c:List Pln}{r:List (List Pln)}(hc:(chk c==0)=true)(hs:schk s=0)(hm:ea6 c s=some r):w9 s c=(decide (Cov s c),0)/\Ma7 c s=(r,0):=by
 have e:Ma7 c s=(r,0):=by
  unfold Ma7;rw[beq_iff_eq] at hc;rw[hc,hs,hm];rfl
 refine⟨?_,e⟩;unfold w9;rw[e];have k:(((r.length:Nat):Int)==0)=decide (Cov s c):=by
  rw[Bool.eq_iff_iff,beq_iff_eq,decide_eq_true_eq];cases hf:ful c with
  |true =>
   have:=Ke4 hf hm
   constructor
   ·intro h0 _;exact this.1 (Qlah.1 (by omega))
   ·intro h;rw[this.2 (h hf)];rfl
  |false =>
   rw[Id8 hf] at hm;injection hm with hm;subst hm;exact⟨λ_ h=>(by rw[hf] at h;cases h),λ_=>rfl⟩
 rw[k];rfl
theorem Mc.chk{c:List Pln}(h:Mc c):(chk c==0)=true:=h.g.chk
theorem Mc.ful{c:List Pln}(h:Mc c):ful c=true:=h.g.ful
theorem Ms.schk{y:Nat}{s:List (List Pln)}(h:Ms y s)(hy:y<=16):schk s=0:=pc7 (Qld h.n hy) λq hq=>(h.c q hq).chk
theorem zc9{c:List Pln}{s:List (List Pln)}(hc:(chk c==0)=true)(hs:∀q∈s,(chk q==0)=true):mb4 c s=true↔∀q∈s,∀z,Ins (c++ws) z->Ins (q++ws) z->False:=by
 unfold mb4;rw[Bool.not_eq_true',Qlae];constructor
 ·intro h q hq
  have:=h q hq
  exact (jb9 hc (hs q hq)).1 (by simpa using this)
 ·intro h q hq;rw[(jb9 hc (hs q hq)).2 (h q hq)]
  decide
structure Und(c U:List Pln)(n:Nat)(ps:List (List Pln)):Prop where
 n:ps.length<=n
 d:∀x∈ps,x.Nodup/\(∀p∈x,p∈U)/\ful x=true/\∀z,Inr (x++ws) z->Inr (c++ws) z
theorem ke7{x fs:List Pln}:∀j,j<=fs.length->∀p∈A3 x fs j,p∈x\/p∈fs
 |0,_,p,hp=>.inl hp
 |j+1,hj,p,hp=>by
  have hp:p∈lean (A3 x fs j++[gL tP fs j]):=hp
  rcases Qlq.1 (Ua5 hp) with h|h
  ·exact ke7 j (by omega) p h
  ·rw[Qlh.1 h];exact .inr (va9 tP hj)
theorem ue9{x fs:List Pln}(hx:x.Nodup):∀j,(A3 x fs j).Nodup
 |0=>hx
 |_+1=>zc1 _
theorem if7{x fs U:List Pln}(hx:x.Nodup)(h1:∀p∈x,p∈U)(h2:∀p∈fs,p∈U)(hU:U.length<=47):xa5 x fs=true:=Qli.2 λj hj=>decide_eq_true (by
 have:=Qln.1 hj
 have:=wf7 (ue9 hx j (fs:=fs)) λp hp=>(ke7 j (by omega) p hp).elim (h1 p) (h2 p)
 omega)
theorem if8{x fs:List Pln}(hx:(chk x==0)=true)(hf:∀p∈fs,okp p=true){z0:Pt}(h1:Ins (x++ws) z0)(h2:Ins (fs++ws) z0)(h48:xa5 x fs=true){j:Nat}(hj:j<fs.length)(h:∀z,Inr (x++ws) z->0<=rmZ (gL tP fs j) z):Ma5 x fs j=[]:=by
 apply Qlo;intro hne;obtain⟨c1,c2,c3⟩:=(qd2 hx hf h1 h2 h48 hj).2 hne;obtain⟨_,z,hz⟩:=W8.1 c1;obtain⟨k1,k2⟩:=(c3 z).1 hz
 have:=h z (((pc5 hx hf h1 h2 h48 j (by omega)).2.1 z).1 k1.inr).1
 omega
noncomputable def if9(c:List Pln):List Pln:=if ful c then c.foldl (Qa9 (pts c)) [] else []
theorem Ac0:lean=if9:=by
 funext c;unfold lean if9;rw[ie8]
section
variable(L:List Pln->List Pln)
noncomputable def ke8(x fs:List Pln):Nat->List Pln
 |0=>x
 |j+1=>L (ke8 x fs j++[gL tP fs j])
noncomputable def Of2(x fs:List Pln)(j:Nat):List Pln:=L (ke8 L x fs j++[V9 (gL tP fs j)])
noncomputable def Of3(x fs:List Pln)(j:Nat):List (List Pln):=((List.range j).map (Of2 L x fs)).filter λc=>decide (0<c.length)
noncomputable def jf0(x fs:List Pln):Bool:=(List.range fs.length).all λj=>decide ((ke8 L x fs j).length<48)
noncomputable def zf1(q x:List Pln):List (List Pln):=if apart x q then [x] else Of3 L x (L q) (L q).length
noncomputable def sd4(ps:List (List Pln))(q:List Pln):Option (List (List Pln)) :=
 if ful q then (if ps.all (λx=>apart x q||jf0 L x (L q))&&decide ((ps.flatMap (zf1 L q)).length<=200) then some (ps.flatMap (zf1 L q)) else none) else some ps
noncomputable def jf1(c:List Pln)(s:List (List Pln)):Option (List (List Pln)) :=
 s.foldl (λst q=>st.bind λps=>sd4 L ps q) (some (if ful c then [L c] else []))
end
theorem sd5(x fs:List Pln):∀j,ke8 lean x fs j=A3 x fs j
 |0=>rfl
 |j+1=>by
  show lean (ke8 lean x fs j++_)=lean (A3 x fs j++_);rw[sd5 x fs j]
theorem zf2:Of2 lean=Ma5:=by funext x fs j;unfold Of2 Ma5;rw[sd5]
theorem zf3:Of3 lean=Ia6:=by funext x fs j;unfold Of3 Ia6;rw[zf2]
theorem jf2:jf0 lean=xa5:=by funext x fs;unfold jf0 xa5;simp only[sd5]
theorem zf4:zf1 lean=xa6:=by funext q x;unfold zf1 xa6;rw[zf3]
theorem ke9:sd4 lean=s6:=by
 funext ps q;unfold sd4 s6;rw[zf4,jf2];rfl
theorem Oa9:ea6=jf1 if9:=by
 funext c s;rw[<- Ac0];unfold ea6 jf1;rw[ke9]
noncomputable def bx(x y z u v w:Int):List Pln:=[⟨⟨1,0,0⟩,u⟩,⟨⟨-1,0,0⟩,-x⟩,⟨⟨0,1,0⟩,v⟩,⟨⟨0,-1,0⟩,-y⟩,⟨⟨0,0,1⟩,w⟩,⟨⟨0,0,-1⟩,-z⟩]
theorem ex1:ea6 (bx 0 0 0 2 1 1) [bx 1 0 0 3 1 1]=some [lean (bx 0 0 0 1 1 1)]:=by rw[Oa9,Ac0];kernel_rfl
theorem ex2:ea6 (bx 0 0 0 3 1 1) [bx 1 0 0 2 1 1]=some [lean (bx 0 0 0 1 1 1),lean (bx 2 0 0 3 1 1)]:=by rw[Oa9,Ac0];kernel_rfl
theorem ex3:ea6 (bx 0 0 0 1 1 1) []=some [lean (bx 0 0 0 1 1 1)]:=by rw[Oa9,Ac0];kernel_rfl
theorem ex4:ea6 (bx 0 0 0 1 1 1) [bx 1 0 0 2 1 1]=some [lean (bx 0 0 0 1 1 1)]:=by rw[Oa9,Ac0];kernel_rfl
theorem ex5:ea6 (bx 0 0 0 2 1 1) [bx 0 0 0 1 1 1,bx 1 0 0 2 1 1]=some []:=by rw[Oa9];kernel_rfl
theorem ex6:ea6 (bx 0 0 0 2 1 1) [bx 0 0 0 1 1 1]=some [lean (bx 1 0 0 2 1 1)]:=by rw[Oa9,Ac0];kernel_rfl
theorem ex7:ea6 (bx 0 0 0 1 1 1) [bx 0 0 0 2 1 1]=some []:=by rw[Oa9];kernel_rfl
theorem ex8:ea6 (bx 1 0 0 2 1 1) [bx 0 0 0 2 1 1]=some []:=by rw[Oa9];kernel_rfl
theorem ex9:ea6 (bx 0 0 0 2 1 1) [bx 1 0 0 2 1 1]=some [lean (bx 0 0 0 1 1 1)]:=by rw[Oa9,Ac0];kernel_rfl
theorem exA:mb4 (bx 0 0 0 1 1 1) [bx 1 0 0 2 1 1,bx 0 1 0 1 2 1]=true:=by kernel_rfl
theorem exC:chk (bx 0 0 0 1 1 1)=0/\chk (bx 1 0 0 2 1 1)=0/\chk (bx 0 0 0 2 1 1)=0/\chk (bx 0 0 0 3 1 1)=0/\chk (bx 1 0 0 3 1 1)=0:=by refine⟨?_,?_,?_,?_,?_⟩<;>kernel_rfl
theorem bx1:(O8 0 0 0 1 1 1=bx 0 0 0 1 1 1/\L9 0 0 0 1 1 1=true)/\(O8 1 0 0 2 1 1=bx 1 0 0 2 1 1/\L9 1 0 0 2 1 1=true)/\(O8 0 0 0 2 1 1=bx 0 0 0 2 1 1/\L9 0 0 0 2 1 1=true):=by refine⟨⟨?_,?_⟩,⟨?_,?_⟩,?_,?_⟩<;>kernel_rfl
theorem bx2:(O8 1 0 0 3 1 1=bx 1 0 0 3 1 1/\L9 1 0 0 3 1 1=true)/\(O8 0 0 0 3 1 1=bx 0 0 0 3 1 1/\L9 0 0 0 3 1 1=true)/\(O8 2 0 0 3 1 1=bx 2 0 0 3 1 1/\L9 2 0 0 3 1 1=true)/\O8 0 1 0 1 2 1=bx 0 1 0 1 2 1/\L9 0 1 0 1 2 1=true:=by refine⟨⟨?_,?_⟩,⟨?_,?_⟩,⟨?_,?_⟩,?_,?_⟩<;>kernel_rfl
theorem Ra5(x y z u v w:Int):(bx x y z u v w).length=6:=rfl
theorem Kb2{x:List Pln}{y z:List (List Pln)}(hx:chk x=0)(hy:schk y=0)(hm:ea6 x y=some (z.map lean))(hz:∀c∈z,c.length<=1000)(hzn:z.length<=1000):qa9 x y z=true/\ra0 x y z=true:=by
 have hy':=Id7 hy;have hyl:∀q∈y,q.length<=1000000:=λq hq=>by have:=ue5 (hy'.2 q hq);omega
 have hxl:=ue5 hx;have e:Ma7 x y=(z.map lean,0):=by unfold Ma7;rw[hx,hy,hm];rfl
 have h:=hb9 (step:=va6 ⟨z,z.map lean,(z.length:Int)⟩) (mk:=λj=>(⟨(j:Int)⟩:Q6)) (c:=λ_=>false) (u:=1) (fin:=2) (tLs tP) z (by omega)
  (λj hj=>by
   have hc:=hz _ (va9 (tLs tP) hj);have hll:=eb1 (gL (tLs tP) z j);have hg:gL (tLs tP) (z.map lean) j=lean (gL (tLs tP) z j):=by simp[gL,Qlf,Qlb hj]
   have hj2:j<(z.map lean).length:=by rw[List.length_map];exact hj
   have s1:=Kf9 (lean (gL (tLs tP) z j)) (by omega);have s2:=Lf0 (lean (gL (tLs tP) z j)) (by omega)
   have r1:=vf5 (gL (tLs tP) z j) (by omega);have r2:=vf6 (gL (tLs tP) z j) (by omega)
   simp only[va6,qa8,Int.toNat_natCast,i5,o5,hg,r1,r2,s1,s2,n8 hj (show z.length<=4611686018427387904 by omega),f9,G0,Qlan]
   rw[btD (g7 hj),bt (f0 hj2),bt (f0 hj)])
  (by simp only[va6,qa8];rw[bfD (l9 (Qlg _))]) 0 (Qle _)
 rw[Qlab,show (z.any λ_=>false)=false by simp] at h
 have eo:Ma9 x y z=some (b true,[]):=by
  unfold Ma9;simp only[i5,o5,i8,Ud1 (x:=x) (y:=y) (by omega) (by omega) hyl,Ud2 (x:=x) (y:=y) (by omega) (by omega) hyl,e,f9,Qlc]
  rw[show (⟨0⟩:Q6)=⟨((0:Nat):Int)⟩ from rfl,h]
  rw[show ((((z.map lean).length:Nat):Int) != (z.length:Int))=false by rw[List.length_map];simp]
  simp only[Qlm,if_false,G0,ue3,ue4,f9,show ((0:Int) != 0)=false from rfl]
 unfold qa9 ra0;rw[eo];exact⟨rfl,rfl⟩
theorem jf3{s:List (List Pln)}{c:List Pln}{r:List (List Pln)}(hc:chk c=0)(hs:schk s=0)(hm:ea6 c s=some r):w9 s c=(((r.length:Nat):Int)==0,0):=by
 have e:Ma7 c s=(r,0):=by unfold Ma7;rw[hc,hs,hm];rfl
 unfold w9;rw[e];rfl
theorem Vc6:Na1=some (b true,[]):=by
 obtain⟨⟨a1,a2⟩,⟨a3,a4⟩,a5,a6⟩:=bx1;obtain⟨⟨c1,c2⟩,⟨c3,c4⟩,⟨c5,c6⟩,c7,c8⟩:=bx2;obtain⟨k1,k2,k3,k4,k5⟩:=exC;have s1:∀{a:List Pln},chk a=0->schk [a]=0:=λh=>pc7 (by simp) (by simpa using h)
 have s2:∀{a c:List Pln},chk a=0->chk c=0->schk [a,c]=0:=λh h'=>pc7 (by simp) (by simpa using ⟨h,h'⟩)
 have l1:=Kb2 (z:=[bx 0 0 0 1 1 1]) k3 (s1 k5) ex1 (by simp[Ra5]) (by simp)
 have l2:=Kb2 (z:=[bx 0 0 0 1 1 1,bx 2 0 0 3 1 1]) k4 (s1 k2) ex2 (by simp[Ra5]) (by simp)
 have l3:=Kb2 (z:=[bx 0 0 0 1 1 1]) k1 (pc7 (s:=[]) (by simp) (by simp)) ex3 (by simp[Ra5]) (by simp)
 have l4:=Kb2 (z:=[bx 0 0 0 1 1 1]) k1 (s1 k2) ex4 (by simp[Ra5]) (by simp)
 have m1:=Rc7 (x:=[bx 0 0 0 1 1 1,bx 1 0 0 2 1 1]) (y:=bx 0 0 0 2 1 1) (z:=true) (by simp[Ra5]) (by simp) (by simp[Ra5])
 have m2:=Rc7 (x:=[bx 0 0 0 1 1 1]) (y:=bx 0 0 0 2 1 1) (z:=false) (by simp[Ra5]) (by simp) (by simp[Ra5])
 have m3:=Ce5 (x:=[bx 0 0 0 2 1 1]) (y:=[bx 0 0 0 1 1 1,bx 1 0 0 2 1 1]) (z:=true) (by simp) (by simp[Ra5]) (by simp) (by simp[Ra5])
 have m4:=Ce5 (x:=[bx 0 0 0 2 1 1]) (y:=[bx 1 0 0 2 1 1]) (z:=false) (by simp) (by simp[Ra5]) (by simp) (by simp[Ra5])
 have q1:=jf3 k3 (s2 k1 k2) ex5;have q2:=jf3 k3 (s1 k1) ex6;have q3:=jf3 k1 (s1 k3) ex7;have q4:=jf3 k2 (s1 k3) ex8;have q5:=jf3 k3 (s1 k2) ex9;have i1:inR [bx 0 0 0 2 1 1] [bx 0 0 0 1 1 1,bx 1 0 0 2 1 1]=(true,0):=Kc2 (by simp[q1])
 have i2:inR [bx 0 0 0 1 1 1,bx 1 0 0 2 1 1] [bx 0 0 0 2 1 1]=(true,0):=Kc2 (by simp[q3,q4])
 have i3:inR [bx 0 0 0 2 1 1] [bx 1 0 0 2 1 1]=(false,0):=by
  have q5':w9 [bx 1 0 0 2 1 1] (bx 0 0 0 2 1 1)=(false,0):=q5;unfold inR;rw[List.find?_cons_of_pos (by rw[q5'];rfl)]
  exact q5'
 have e1:Sb1 [bx 0 0 0 2 1 1] [bx 0 0 0 1 1 1,bx 1 0 0 2 1 1]=(true,0):=by unfold Sb1;rw[s1 k3,s2 k1 k2,i1,i2];rfl
 have e2:Sb1 [bx 0 0 0 2 1 1] [bx 1 0 0 2 1 1]=(false,0):=by unfold Sb1;rw[s1 k3,s1 k2,i3];rfl
 rw[q1] at m1;rw[q2] at m2;rw[e1] at m3;rw[e2] at m4;have z1:X7 [[],[],[],[],[],[],[],[],[],[],[],[],[],[],[],[],[]]=2:=(lc7 (by simp) (by simp)).trans (by kernel_rfl)
 have z2:X8 [[],[],[],[],[],[],[],[],[],[],[],[],[],[],[],[],[]]=true:=lc8 (by simp) (by simp)
 have z3:X7 [[(⟨(⟨2,0,0⟩:V3),1⟩:Pln)]]=12:=(lc7 (by simp) (by simp)).trans (by kernel_rfl)
 have z4:X8 [[(⟨(⟨2,0,0⟩:V3),1⟩:Pln)]]=true:=lc8 (by simp) (by simp)
 have t1:=Kc0 (c:=bx 0 0 0 1 1 1) (s:=[bx 1 0 0 2 1 1,bx 0 1 0 1 2 1]) (by simp[Ra5]) (by simp) (by simp[Ra5])
 have t2:=Kc1 (c:=bx 0 0 0 1 1 1) (s:=[bx 1 0 0 2 1 1,bx 0 1 0 1 2 1]) (by simp[Ra5]) (by simp) (by simp[Ra5])
 rw[exA] at t1;unfold Na1;simp only[a1,a2,a3,a4,a5,a6,c1,c2,c3,c4,c5,c6,c7,c8,i5,o5,Qlc,f9,l1.1,l1.2,l2.1,l2.2,l3.1,l3.2,l4.1,l4.2,m1.1,m1.2,m2.1,m2.2,m3.1,m3.2,m4.1,m4.2,z1,z2,z3,z4,t1,t2];rfl
theorem ve0:fb2=true:=by unfold fb2;rw[Vc6];rfl
theorem ve1:fb3=true:=by unfold fb3;rw[Vc6];rfl
noncomputable def vb2:List (Nat×Sum):=[(37,mc4),(38,Vc5),(39,Kc3),(40,mb3),(55,Ba3),(57,tc7),(45,Ob1),(42,eb5),(54,Fb2)]
theorem mc6:i7 prog G vb2:=⟨ad8,Ud9,Ad6,Eb6,Ca5,od2,mc0,ub4,bc2,trivial⟩
structure ha9 where
 bs5:Bool
 G4:List Pln
 (Fb6 Da2 Q9:List (List Pln))
 Bd3:Int
structure I1 where
 va7:Int
noncomputable def gb5(p:ha9)(s:I1):St:=⟨ra 5 (b p.bs5::eL tP p.G4::eL (tLs tP) p.Fb6::eL (tLs tP) p.Da2::ra 19 (eL (tLs tP) p.Q9::i p.Bd3::i s.va7::ra 64 [])),[]⟩
noncomputable def aa7{α:Type}(k:I1->α)(e:Nat->α)(z:α)(p:ha9)(s:I1):α:=let t1:=(na7 (rt tP (gL (tLs tP) p.Q9 s.va7.toNat)));let t2:=(lb8 (rt tP (gL (tLs tP) p.Q9 s.va7.toNat)) (rt tP p.G4));let t3:=(xa7 (rt tP (gL (tLs tP) p.Q9 s.va7.toNat)) (rt (tLs tP) p.Fb6));let t4:=(xa7 (rt tP (gL (tLs tP) p.Q9 s.va7.toNat)) (lsL (tLs tP) (s.va7.toNat-0) (λk=>(λk=>(tLs tP).row (gL (tLs tP) p.Da2 k)) (0+k))));(sl (decide (s.va7<p.Bd3)) (sl (inB s.va7 (List.length p.Q9)) (sl (okE tP (gL (tLs tP) p.Q9 s.va7.toNat)) (sl (na8 (rt tP (gL (tLs tP) p.Q9 s.va7.toNat))) (sl (!t1) (e 1) (sl (okE tP (gL (tLs tP) p.Q9 s.va7.toNat)) (sl (okE tP p.G4) (sl (lb9 (rt tP (gL (tLs tP) p.Q9 s.va7.toNat)) (rt tP p.G4)) (sl (!t2) (e 1) (sl (okE tP (gL (tLs tP) p.Q9 s.va7.toNat)) (sl (okE (tLs tP) p.Fb6) (sl (oa1 (rt tP (gL (tLs tP) p.Q9 s.va7.toNat)) (rt (tLs tP) p.Fb6)) (sl (!t3) (e 1) (sl (inB s.va7 ((List.length p.Da2)+1)) (sl (okE tP (gL (tLs tP) p.Q9 s.va7.toNat)) (sl (okL (tLs tP) (s.va7.toNat-0) (λk=>(λk=>(tLs tP).row (gL (tLs tP) p.Da2 k)) (0+k))) (sl (oa1 (rt tP (gL (tLs tP) p.Q9 s.va7.toNat)) (lsL (tLs tP) (s.va7.toNat-0) (λk=>(λk=>(tLs tP).row (gL (tLs tP) p.Da2 k)) (0+k)))) (sl (!t4) (e 1) (k ⟨W (s.va7+1)⟩)) z) z) z) z)) z) z) z)) z) z) z)) z) z) z) (e 2))
noncomputable def S4(p:ha9)(s:I1):Stp I1:=aa7 .next .exit .fail p s
noncomputable def Na2:Lo ha9 I1:=⟨En vb2,0,Rf0,[1,1,1,1,1,0,1,4,4],[5,6,7,8,28,29,30],.p,[⟨ru2 5 (sBq::sLq tP::.s (.c 1 (nL (tLs tP)))::.s (.c 1 (nL (tLs tP)))::ru2 19 (.s (.c 1 (nL (tLs tP)))::sIq::sIq::ru2 64 [])),[],λa H=>(⟨aBq a 5,aLq tP a 6,rL (tLs tP) (slT a 7),rL (tLs tP) (slT a 8),rL (tLs tP) (slT a 28),aIq a 29⟩,⟨aIq a 30⟩)⟩],S4,[(none,λp s=>⟨[b false],[]⟩),(some 0,λp s=>upq (gb5 p s) [(31,b (decide (s.va7<p.Bd3)))])],gb5⟩
theorem cc5:Na2.Ok:=Lo.ok [] (by kernel_rfl) .nil rfl (.cons (λa H=>by kernel_rfl) .nil) λp s=>(.of @aa7 (λF _ _ _ _ _=>by unfold aa7;(repeat' apply l6 (f:=F))<;>rfl) (by kernel_rfl))
noncomputable def ra1(x:List Int)(y:List (List Int)):Option (b7×List b8):=let t1:=fb2;let t2:=(Ba8 (rt tI x));let t3:=(va5 (rt (tLs tI) y) 2);let t4:=(Ua9 (rt tP t2) (rt (tLs tP) t3));let t5:=(lp (S4 (⟨t1,rt tP t2,rt (tLs tP) t3,rt (tLs tP) t4.1,rt (tLs tP) t4.1,(↑(List.length t4.1):Int)⟩:ha9)) (⟨0⟩:I1));let t6:=(aa2 (rt (tLs tP) (rt (tLs tP) t4.1)) (rt tP (rt tP t2)));let t7:=(T0 [] (rt tP (rt tP t2)) true);let t8:=(xa7 (rt tP (rt tP t2)) (rt (tLs tP) (rt (tLs tP) t3)));let a0:=(o8 (λk=>(tLs tP).row (gL (tLs tP) (rt (tLs tP) t3) k)) (List.range (List.length (rt (tLs tP) t3))));let t10:=(T0 (lsL (tLs tP) (0+(len a0)) (λk=>l5 (app [] a0) (0+k))) (rt tP (rt tP t2)) true);let a1:=(o8 (λk=>(tLs tP).row (gL (tLs tP) (rt (tLs tP) t4.1) k)) (List.range (List.length (rt (tLs tP) t4.1))));let t9:=(T0 (lsL (tLs tP) (0+(len a1)) (λk=>l5 (app [] a1) (0+k))) (rt tP (rt tP t2)) true);let a2:=(Aa6 (rt (tLs tP) (rt (tLs tP) t4.1)) (rt tP (rt tP t2)));let a3:=(oa1 (rt tP (rt tP t2)) (rt (tLs tP) (rt (tLs tP) t3)));let a4:=((0+(len a0))+(len a1));let a5:=(okE (tLs tP) (rt (tLs tP) t4.1));let a6:=(λk=>l5 (app (app [] a0) a1) (0+k));let t11:=(T0 (lsL (tLs tP) a4 a6) (rt tP (rt tP t2)) true);let a7:=(okE (tLs tP) (rt (tLs tP) t3));let w0:Option (b7×List b8):=(sl (t6.2==9) (some (b true,[])) (sl (t6.2==0) (sl (okE tP (rt tP t2)) (sl a7 (sl a3 (some (b (t6.1==t8),[])) none) none) none) (some (b false,[]))));(sl fb3 (sl (okE tI x) (sl (Kb0 (rt tI x)) (sl (okE (tLs tI) y) (sl (xb8 (rt (tLs tI) y) 2) (sl (okE tP t2) (sl (okE (tLs tP) t3) (sl (Va0 (rt tP t2) (rt (tLs tP) t3)) (sl (t4.2 != 0) (some (b false,[])) (sl ((cnE tP t2)&&((cnE (tLs tP) t3)&&((cnE (tLs tP) t4.1)&&((cnE (tLs tP) t4.1)&&true)))) (sl (Nat.beq t5.1 1) (some (b false,[])) (sl (Nat.beq t5.1 2) (sl (Nat.beq (len a0) 0) (sl (Nat.beq (len a1) 0) (sl a5 (sl (okE tP (rt tP t2)) (sl a2 (sl t1 (sl (okE tP (rt tP t2)) (sl (O9 [] (rt tP (rt tP t2)) true) (sl t7 w0 (some (b false,[]))) none) none) (some (b false,[]))) none) none) none) (sl (Nat.beq 0 0&&Nat.ble ((0+(len a1))*24) room) (sl (decide ((↑(0+(len a1)):Int)>16)) (some (b t1,[])) (sl a5 (sl (okE tP (rt tP t2)) (sl a2 (sl t1 (sl (okL (tLs tP) (0+(len a1)) (λk=>l5 (app [] a1) (0+k))) (sl (okE tP (rt tP t2)) (sl (O9 (lsL (tLs tP) (0+(len a1)) (λk=>l5 (app [] a1) (0+k))) (rt tP (rt tP t2)) true) (sl t9 w0 (some (b false,[]))) none) none) none) (some (b false,[]))) none) none) none)) none)) (sl (Nat.beq 0 0&&Nat.ble ((0+(len a0))*24) room) (sl (Nat.beq (len a1) 0) (sl (decide ((↑(0+(len a0)):Int)>16)) (some (b t1,[])) (sl a5 (sl (okE tP (rt tP t2)) (sl a2 (sl t1 (sl (okL (tLs tP) (0+(len a0)) (λk=>l5 (app [] a0) (0+k))) (sl (okE tP (rt tP t2)) (sl (O9 (lsL (tLs tP) (0+(len a0)) (λk=>l5 (app [] a0) (0+k))) (rt tP (rt tP t2)) true) (sl t10 w0 (some (b false,[]))) none) none) none) (some (b false,[]))) none) none) none)) (sl (Nat.beq (0+(len a0)) (len (app [] a0))&&Nat.ble (a4*24) room) (sl (decide ((↑a4:Int)>16)) (some (b t1,[])) (sl a5 (sl (okE tP (rt tP t2)) (sl a2 (sl t1 (sl (okL (tLs tP) a4 a6) (sl (okE tP (rt tP t2)) (sl (O9 (lsL (tLs tP) a4 a6) (rt tP (rt tP t2)) true) (sl t11 w0 (some (b false,[]))) none) none) none) (some (b false,[]))) none) none) none)) none)) none)) none)) none)) none) none) none) none) none) none) none) none)
noncomputable def Da0(x:List Int)(y:List (List Int)):Bool:=N6 (one r1B) (ra1 x y)
noncomputable def Da1(x:List Int)(y:List (List Int)):Bool:=okO (one r1B) (ra1 x y)
noncomputable def Ac1:Sum:=oa3 (P0 tI) (P0 (tLs tI)) (λx y=>.guard (Da1 x y) (.ret ((one r1B).enc (Da0 x y),[])))
theorem rc0:g9 prog G 10 Ac1:=mb9 (bd b10 mc6) (one r1B) (o:=ra1) λx y=>wa1 (.s .p (.s .p (.s .p (.s .p (.s .p (.s (.s .p (.b (.u Na2.ls))) .p)))))) [Na2.pr] (by kernel_rfl) (.cons cc5 .nil) (by kernel_rfl)
end Go.Ev.Ce
