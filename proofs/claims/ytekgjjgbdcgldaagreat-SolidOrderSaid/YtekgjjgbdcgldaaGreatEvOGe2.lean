/- Own work. -/
import Derived.Test.YtekgjjgbdcgldaaGreatEvOE6
import Derived.Shelf.SlSortCmp.WholeK
set_option linter.all false
def Qja:=@List.mem_cons
def Qjb:=@Nat.zero_add
def Qjc:=@List.length_take
def Qjd:=@List.length_append
def Qje:=@List.mem_cons_of_mem
def Qjf:=@Int.le_of_lt
def Qjg:=@List.mem_cons_self
def Qjh:=@Int.mul_nonneg
def Qji:=@Nat.le_refl
def Qjj:=@List.getElem?_eq_getElem
def Qjk:=@Eq.trans
def Qjl:=@Nat.beq_refl
def Qjm:=@List.length_set
def Qjn:=@List.take_succ_eq_append_getElem
def Qjo:=@Int.natCast_dvd_natCast
def Qjp:=@Bool.and_true
def Qjq:=@List.pairwise_cons
def Qjr:=@Int.mul_le_mul_of_nonneg_right
def Qjs:=@List.take_append_of_le_length
def Qjt:=@Nat.eq_of_beq_eq_true
def Qju:=@Bool.and_eq_true
def Qjv:=@List.length_drop
def Qjw:=@List.getD_eq_getElem?_getD
def Qjx:=@Array.getElem?_append_left
def Qjy:=@List.getElem?_map
def Qjz:=@Nat.gcd_dvd_right
def Qjaa:=@Nat.zero_le
def Qjab:=@Int.mul_pos
def Qjac:=@List.any_eq_true
def Qjad:=@List.findIdx_lt_length_of_exists
def Qjae:=@List.filter_cons
def Qjaf:=@Nat.gcd_dvd_left
def Qjag:=@Nat.mul_le_mul_right
def Qjah:=@List.append_nil
def Qjai:=@List.eq_nil_of_length_eq_zero
def Qjaj:=@Int.dvd_natAbs
def Qjak:=@List.filter_append
def Qjal:=@Nat.dvd_trans
def Qjam:=@List.findIdx_cons
def Qjan:=@List.append_assoc
def Qjao:=@Nat.blt_eq
def Qjap:=@List.drop_eq_getElem_cons
def Qjaq:=@List.all_eq_true
def Qjar:=@Int.mul_eq_zero
def Qjas:=@Array.getElem?_eq_none
def Qjat:=@List.take_of_length_le
def Qjau:=@List.drop_eq_nil_of_le
def Qjav:=@Nat.le_of_ble_eq_true
def Qjaw:=@Array.getElem?_modify
def Qjax:=@List.drop_zero
def Qjay:=@List.getElem_set_self
def Qjaz:=@List.length_replicate
def Qjba:=@Nat.lt_irrefl
namespace Go.Ev.Ce
open Go Go.Ev Go.Ev.L Go.Proofs
theorem se6(x:List Pln)(y:Pln)(hx:x.length<=1000000):ra5 x y=true:=(Qe0 x y hx).g
theorem qf1(x:List Pln)(y:Pln)(hx:x.length<=1000000):J2 x y≠[]/\(J2 x y).length<=x.length+1/\∀p∈J2 x y,p=y\/p∈x:=(Qe0 x y hx).p
structure Fc(ph:Nat)(out:List Pln)(m:Nat):Prop where
 h:(ph=0/\out=[])\/ph=1
 l:out.length<=m
theorem Fc.more{ph m m':Nat}{out:List Pln}(h:Fc ph out m)(hm:m<=m'):Fc ph out m':=⟨h.h,Nat.le_trans h.l hm⟩
theorem ef8 (l : List V3) (hl : l.length ≤ 48) (a c : Nat) (ha : a < l.length) (hc : c < a) (h0 : Nat) (out : List Pln) (m : Nat) (hm : m ≤ 900000) (hf : Fc h0 out m) :
  ∃t s,lp (Z1 ⟨l,(a:Int),(c:Int)⟩) ⟨h0,0,out⟩=(t,s)/\(t=s.ph+1/\Fc s.ph s.va5 (m+100)):=by
 refine W9 (step:=Z1 ⟨l,(a:Int),(c:Int)⟩) (mk:=λj (x:Nat×List Pln)=>(⟨x.1,(j:Int),x.2⟩:B5)) c (λj x=>Fc x.1 x.2 (m+2*j)/\j<=48) (λt s=>t=s.ph+1/\Fc s.ph s.va5 (m+100)) (by omega) (λj x hj hx=>?_) (λj x hj hx=>?_) 0 (h0,out) ⟨hf,by omega⟩
 ·obtain⟨h,o⟩:=x;obtain⟨⟨hx,hx2⟩,_⟩:=hx;have hn:=o3 hj (show c<=4611686018427387904 by omega)
  have hh:∀p,ma8 p l=true:=λp=>se5 p l (by omega)
  have hg1:∀y,ra5 o y=true:=λy=>se6 o y (by simp only at hx2;omega)
  have hp1:∀y,J2 o y≠[]/\(J2 o y).length<=o.length+1:=λy=>by have:=qf1 o y (by simp only at hx2;omega);exact⟨this.1,this.2.1⟩
  have hg2:∀y z,ra5 (J2 o y) z=true:=λy z=>se6 _ z (by have:=(hp1 y).2;simp only at hx2;omega)
  have hp2:∀y z,(J2 (J2 o y) z).length<=o.length+2:=λy z=>by
   have:=(qf1 (J2 o y) z (by have:=(hp1 y).2;simp only at hx2;omega)).2.1
   have:=(hp1 y).2
   omega
  simp only at hx hx2
  have stay:Fc h o (m+2*(j+1))/\j+1<=48:=⟨⟨hx,by omega⟩,by omega⟩
  have put1:∀y,Fc 1 (J2 o y) (m+2*(j+1))/\j+1<=48:=λy=>⟨⟨.inr rfl,by have:=(hp1 y).2;omega⟩,by omega⟩
  have put2:∀y z,Fc 1 (J2 (J2 o y) z) (m+2*(j+1))/\j+1<=48:=λy z=>⟨⟨.inr rfl,by have:=hp2 y z;omega⟩,by omega⟩
  rcases hx with⟨rfl,rfl⟩|rfl
  ·show Nx (K7 Stp.next Stp.exit Stp.fail _ _) _ _;simp only[K7,Wa6,Int.toNat_natCast,i6,p6,hh,hg1,hg2,hn];rw[btD (g9 hj),bt (f7 ha),bt (f7 (show c<l.length by omega)),bt (f7 (show j<l.length by omega))]
   simp only[g8];refine Nx.sl (λ_=>.nx ⟨(0,[]),rfl,stay⟩) λ_=>Nx.sl (λ_=>Nx.sl (λ_=>.nx ⟨(1,_),rfl,put2 _ _⟩) λ_=>.nx ⟨(1,_),rfl,put1 _⟩) λ_=>Nx.sl (λ_=>.nx ⟨(1,_),rfl,put1 _⟩) λ_=>.nx ⟨(0,[]),rfl,stay⟩
  ·show Nx (K8 Stp.next Stp.exit Stp.fail _ _) _ _;simp only[K8,Wa6,Int.toNat_natCast,i6,p6,hh,hg1,hg2,hn];rw[btD (g9 hj),bt (f7 ha),bt (f7 (show c<l.length by omega)),bt (f7 (show j<l.length by omega))]
   simp only[g8];refine Nx.sl (λ_=>.nx ⟨(1,o),rfl,stay⟩) λ_=>Nx.sl (λ_=>Nx.sl (λ_=>.nx ⟨(1,_),rfl,put2 _ _⟩) λ_=>.nx ⟨(1,_),rfl,put1 _⟩) λ_=>Nx.sl (λ_=>.nx ⟨(1,_),rfl,put1 _⟩) λ_=>.nx ⟨(1,o),rfl,stay⟩
 ·obtain⟨h,o⟩:=x;obtain⟨⟨hx,hx2⟩,h48⟩:=hx
  simp only at hx hx2
  rcases hx with⟨rfl,rfl⟩|rfl
  ·refine⟨1,?_,rfl,⟨.inl ⟨rfl,rfl⟩,by show 0<=_;omega⟩⟩
   show K7 Stp.next Stp.exit Stp.fail _ _=_;simp only[K7];rw[bfD (by omega)]
  ·refine⟨2,?_,rfl,⟨.inr rfl,by show o.length<=_;omega⟩⟩
   show K8 Stp.next Stp.exit Stp.fail _ _=_;simp only[K8];rw[bfD (by omega)]
theorem ef9 (l : List V3) (hl : l.length ≤ 48) (a : Nat) (ha : a < l.length) (h0 : Nat) (out : List Pln) (m : Nat) (hm : m ≤ 800000) (hf : Fc h0 out m) :
  ∃t s,lp (Z2 ⟨(a:Int)⟩) ⟨h0,l,0,out⟩=(t,s)/\(t=s.ph+1/\Fc s.ph s.va5 (m+5000)/\s.j6=l):=by
 refine W9 (step:=Z2 ⟨(a:Int)⟩) (mk:=λj (x:Nat×List Pln)=>(⟨x.1,l,(j:Int),x.2⟩:B7)) a (λj x=>Fc x.1 x.2 (m+100*j)/\j<=48) (λt s=>t=s.ph+1/\Fc s.ph s.va5 (m+5000)/\s.j6=l) (by omega) (λj x hj hx=>?_) (λj x hj hx=>?_) 0 (h0,out) ⟨hf,by omega⟩
 ·obtain⟨h,o⟩:=x;obtain⟨hx,_⟩:=hx;have hn:=o3 hj (show a<=4611686018427387904 by omega)
  simp only at hx
  obtain⟨t,s,e1,e2,e3⟩:=ef8 l hl a j ha hj h o (m+100*j) (by omega) hx
  obtain⟨s1,s2,s3⟩:=s
  simp only at e2 e3
  have go:Fc s1 s3 (m+100*(j+1))/\j+1<=48:=⟨e3.more (by omega),by omega⟩
  rcases hx.h with⟨rfl,rfl⟩|rfl
  ·show Nx (K9 Stp.next Stp.exit Stp.fail _ _) _ _;simp only[K9,i6,i8,hn];rw[btD (g9 hj),e1,e2]
   rcases e3.h with⟨rfl,rfl⟩|rfl
   ·exact .nx ⟨(0,[]),rfl,go⟩
   ·exact .nx ⟨(1,s3),rfl,go⟩
  ·show Nx (L0 Stp.next Stp.exit Stp.fail _ _) _ _;simp only[L0,i6,i8,hn];rw[btD (g9 hj),e1,e2]
   rcases e3.h with⟨rfl,rfl⟩|rfl
   ·exact .nx ⟨(0,[]),rfl,go⟩
   ·exact .nx ⟨(1,s3),rfl,go⟩
 ·obtain⟨h,o⟩:=x;obtain⟨hx,h48⟩:=hx
  simp only at hx
  have h2:=hx.more (show m+100*j<=m+5000 by omega)
  rcases hx.h with⟨rfl,rfl⟩|rfl
  ·refine⟨1,?_,rfl,h2,rfl⟩;show K9 Stp.next Stp.exit Stp.fail _ _=_;simp only[K9];rw[bfD (by omega)]
  ·refine⟨2,?_,rfl,h2,rfl⟩;show L0 Stp.next Stp.exit Stp.fail _ _=_;simp only[L0];rw[bfD (by omega)]
theorem ff0 (l : List V3) (hl : l.length ≤ 48) :
  ∃t s,lp (xa3 ⟨⟩) ⟨0,l,0,[]⟩=(t,s)/\(t=s.ph+1/\Fc s.ph s.va5 250000):=by
 refine W9 (step:=xa3 ⟨⟩) (mk:=λj (x:Nat×List Pln)=>(⟨x.1,l,(j:Int),x.2⟩:C7)) l.length (λj x=>Fc x.1 x.2 (5000*j)/\j<=48) (λt s=>t=s.ph+1/\Fc s.ph s.va5 250000) (by omega) (λj x hj hx=>?_) (λj x hj hx=>?_) 0 (0,[]) ⟨⟨.inl ⟨rfl,rfl⟩,Qji _⟩,by omega⟩
 ·obtain⟨h,o⟩:=x;obtain⟨hx,_⟩:=hx;have hn:=o3 hj (show l.length<=4611686018427387904 by omega)
  simp only at hx
  obtain⟨t,s,e1,e2,e3,e4⟩:=ef9 l hl j hj h o (5000*j) (by omega) hx
  obtain⟨s1,s2,s3,s4⟩:=s
  simp only at e2 e3 e4
  subst e4;have go:Fc s1 s4 (5000*(j+1))/\j+1<=48:=⟨e3.more (by omega),by omega⟩
  rcases hx.h with⟨rfl,rfl⟩|rfl
  ·show Nx (L1 Stp.next Stp.exit Stp.fail ⟨⟩ _) _ _;simp only[L1,i6,i8,hn];rw[btD (g9 hj),e1,e2]
   rcases e3.h with⟨rfl,rfl⟩|rfl
   ·exact .nx ⟨(0,[]),rfl,go⟩
   ·exact .nx ⟨(1,s4),rfl,go⟩
  ·show Nx (L2 Stp.next Stp.exit Stp.fail ⟨⟩ _) _ _;simp only[L2,i6,i8,hn];rw[btD (g9 hj),e1,e2]
   rcases e3.h with⟨rfl,rfl⟩|rfl
   ·exact .nx ⟨(0,[]),rfl,go⟩
   ·exact .nx ⟨(1,s4),rfl,go⟩
 ·obtain⟨h,o⟩:=x;obtain⟨hx,h48⟩:=hx
  simp only at hx
  have h2:=hx.more (show 5000*j<=250000 by omega)
  rcases hx.h with⟨rfl,rfl⟩|rfl
  ·refine⟨1,?_,rfl,h2⟩;show L1 Stp.next Stp.exit Stp.fail ⟨⟩ _=_;simp only[L1];rw[bfD (by omega)]
  ·refine⟨2,?_,rfl,h2⟩;show L2 Stp.next Stp.exit Stp.fail ⟨⟩ _=_;simp only[L2];rw[bfD (by omega)]
theorem Qe1(l:List Pln)(n:Int):(two (r1L tP) r1I).rd (.tup [eL tP l,i n],[])=some (l,n):=by
 have h:(r1L tP).rd [] (eL tP l)=some l:=by
  show Bool.rec (motive:=λ_=>Option (List Pln)) none (some (rt tP l)) (Bool.and (Nat.beq tP.es tP.es) (okE tP l))=_
  rw[i6,p6,Qjl];rfl
 simp only[two,h];rfl
theorem Qe2(l:List V3)(hl:l.length<=48):Rd (two (r1L tP) r1I) (Ja9 l) (λr=>r.1.length<=250000):=by
 obtain⟨t,s,e1,e2,e3⟩:=ff0 l hl;unfold Ja9;simp only[i6,i8,p6,Ad6 l (show l.length<=1000000000 by omega),g8]
 refine Rd.sl (λ_=>⟨_,([],nb6 l),rfl,rfl,Qjaa _⟩) λ_=>?_
 rw[e1,e2];obtain⟨s1,s2,s3,s4⟩:=s
 simp only at e3 ⊢
 rcases e3.h with⟨rfl,rfl⟩|rfl
 ·exact⟨_,([],0),rfl,rfl,Qjaa _⟩
 ·exact⟨_,(s4,0),rfl,Qe1 s4 0,e3.l⟩
theorem ff1(l:List V3)(hl:l.length<=48):Gb4 l=true:=(Qe2 l hl).g
def phV(out:List V3):Nat:=match out with
 |[]=>0
 |_::_=>1
theorem ff2(out:List V3)(x:V3):phV (out++[x])=1:=by cases out<;>rfl
theorem Zd9(l:List V3)(x1 x2 x3:Int):app (bL tV l) [[i x1,i x2,i x3]]=bL tV (l++[⟨x1,x2,x3⟩]):=Ua7 tV l [⟨x1,x2,x3⟩]
theorem Hf9{l:List V3}{m:Nat}(h:m<l.length):(((Nat.blt (0+m) (len (bL tV l)))&&(Nat.ble (0+3) (len (l9 (bL tV l) (0+m)))))&&(qa3 [CK.int .i64,CK.int .i64,CK.int .i64] (l0 (l9 (bL tV l) (0+m)) 0)))=true:=by
 rw[Qjb,P7 tV h,P6,show Nat.blt m l.length=true from by rw[Qjao];exact h]
 rfl
theorem If0{l:List V3}{m:Nat}(h:m<l.length):(((Nat.blt (0+m) (len (bL tV l)))&&(Nat.ble (2+1) (len (l9 (bL tV l) (0+m)))))&&(qa3 [CK.int .i64] (l0 (l9 (bL tV l) (0+m)) 2)))=true:=by
 rw[Qjb,P7 tV h,P6,show Nat.blt m l.length=true from by rw[Qjao];exact h]
 rfl
theorem If1{n:Nat}{l:List V3}(hn:l.length=n)(h:n<=1000000000):(Nat.beq n (len (bL tV l))&&Nat.ble ((n+1)*24) room)=true:=by
 subst hn;rw[P6,Qjl,Bool.true_and,Nat.ble_eq];unfold room;omega
theorem ff3 (x : List Int) (N : Nat) (h4 : 4 ≤ N) (h8 : N ≤ 8) (j0 : Int) (hj0 : 0 ≤ j0 ∧ j0 ≤ 10) :
  ∃idx out,lp (Ta7 ⟨(N:Int)⟩) ⟨0,0,x,j0,0,[]⟩=(2,⟨1,(N:Int),x,idx,N,bL tV out⟩)/\out.length=N:=by
 have key:=W9 (step:=Ta7 ⟨(N:Int)⟩) (mk:=λj (a:Int×List V3)=>(⟨phV a.2,(j:Int),x,a.1,a.2.length,bL tV a.2⟩:E7)) N
  (λj a=>a.2.length=j/\0<=a.1/\a.1<=10+4*j/\j<=N) (λt s=>t=2/\∃idx out,s=⟨1,(N:Int),x,idx,N,bL tV out⟩/\out.length=N) (by omega) (λj a hj ha=>?_) (λj a hj ha=>?_) 0 (j0,[]) ⟨rfl,hj0.1,by omega,by omega⟩
 ·obtain⟨t,s,e1,rfl,idx,out,e2,e3⟩:=key;exact⟨idx,out,by rw[<- e2];exact e1,e3⟩
 ·obtain⟨at0,out⟩:=a;obtain⟨ho,ha1,ha2,_⟩:=ha
  simp only at ho ha1 ha2
  have hn:=o3 hj (show N<=4611686018427387904 by omega)
  obtain⟨v1,j1,d1,_,_,c1,b1⟩:=va9 17 x at0 ha1 (by omega) (by omega) (by omega)
  obtain⟨v2,j2,d2,_,_,c2,b2⟩:=va9 17 x j1 (by omega) (by omega) (by omega) (by omega)
  obtain⟨v3,j3,d3,_,_,c3,b3⟩:=va9 17 x j2 (by omega) (by omega) (by omega) (by omega)
  obtain⟨v4,j4,d4,_,_,c4,b4⟩:=va9 6 x j3 (by omega) (by omega) (by omega) (by omega)
  have leaf : ∀ (E : Nat → Prop) (x1 x2 x3 : Int), Nx (.next (⟨1, ((j + 1 : Nat) : Int), x, j4, j + 1, bL tV (out ++ [⟨x1, x2, x3⟩])⟩ : E7)) E
    (λs=>∃a':Int×List V3,s=⟨phV a'.2,((j+1:Nat):Int),x,a'.1,a'.2.length,bL tV a'.2⟩/\a'.2.length=j+1/\0<=a'.1/\a'.1<=10+4*((j+1:Nat):Int)/\j+1<=N):=λE x1 x2 x3=>by
   have hl:(out++[(⟨x1,x2,x3⟩:V3)]).length=j+1:=by simp[ho]
   exact .nx ⟨(j4,out++[⟨x1,x2,x3⟩]),by simp only[ff2,hl],hl,by show 0<=j4;omega,by show j4<=_;omega,by omega⟩
  cases out with
  |nil =>
   have hj0':j=0:=by simpa using ho.symm
   subst hj0';show Nx (xa4 Stp.next Stp.exit Stp.fail _ _) _ _;simp only[xa4,i6,i8,d1,d2,d3,d4,hn];rw[btD (g9 hj)];have f1:decide (((0:Nat):Int)>1)=false:=rfl;have f2:decide (((0:Nat):Int)>0)=false:=rfl;have f3:decide (((0:Nat):Int)>2)=false:=rfl;have lf:∀(E:Nat->Prop) (x1 x2 x3:Int),Nx (.next (⟨1,((0+1:Nat):Int),x,j4,1,[[i x1,i x2,i x3]]⟩:E7)) E _:=leaf;simp only[f1,f2,f3,C8,Qjl,Qjp,g8];refine Nx.sl (λ_=>?_) (λ_=>?_)<;>refine Nx.sl (λ_=>?_) (λ_=>?_)
   all_goals first
    |exact lf _ _ _ _
    |(refine Nx.sl (λ_=>?_) (λ_=>?_)<;>exact lf _ _ _ _)
  |cons o os =>
   have h1:1<=j:=by simp only[List.length_cons] at ho;omega
   generalize hO:o::os=O at *
   have hph:phV O=1:=by subst hO;rfl
   have w1:W ((j:Int)-1)=((j-1:Nat):Int):=by rw[ia4 (by omega) (by omega)];omega
   have i1:inB ((j-1:Nat):Int) j=true:=f7 (by omega)
   have r1:=Hf9 (l:=O) (m:=j-1) (by omega)
   have r1':=If0 (l:=O) (m:=j-1) (by omega)
   have rr:=If1 ho (by omega)
   have f2:∀{inst:Decidable ((j:Int)>0)},@decide ((j:Int)>0) inst=true:=decide_eq_true (by omega)
   show Nx (sel (Nat.beq (phV O) 1) (Q1 Stp.next Stp.exit Stp.fail _ _) _) _ _;rw[hph];show Nx (Q1 Stp.next Stp.exit Stp.fail _ _) _ _;by_cases h2:2<=j
   ·have w2:W ((j:Int)-2)=((j-2:Nat):Int):=by rw[ia4 (by omega) (by omega)];omega
    have i2:inB ((j-2:Nat):Int) j=true:=f7 (by omega)
    have r2:=Hf9 (l:=O) (m:=j-2) (by omega)
    simp only[Q1,i6,i8,d1,d2,d3,d4,hn,ho,w1,w2,i1,i2,Int.toNat_natCast,r1,r1',r2,rr,Zd9];rw[btD (g9 hj)];simp only[Qjl,Qjp,g8]
    repeat' (first | exact leaf _ _ _ _ | refine Nx.sl (λ_=>?_) (λ_=>?_))
   ·have hj1:j=1:=by omega
    subst hj1;simp only[Q1,i6,i8,d1,d2,d3,d4,hn,ho,w1,i1,Int.toNat_natCast,r1,r1',rr,Zd9];have f1:decide (((1:Nat):Int)>1)=false:=rfl;rw[btD (g9 hj)];simp only[f1,C8,Qjl,Qjp,g8]
    repeat' (first | exact leaf _ _ _ _ | refine Nx.sl (λ_=>?_) (λ_=>?_))
 ·obtain⟨at0,out⟩:=a;obtain⟨ho,ha1,ha2,hjN⟩:=ha
  simp only at ho ha1 ha2
  have hj':j=N:=by omega
  subst hj';cases out with
  |nil=>simp only[List.length_nil] at ho;omega
  |cons o os =>
   refine⟨2,?_,rfl,at0,o::os,by rw[ho];rfl,ho⟩
   show Q1 Stp.next Stp.exit Stp.fail _ _=_;simp only[Q1];rw[bfD (by omega)]
theorem Qe3{l:List V3}{n:Nat}{r:List (List b7)}{P:List V3->Prop}(hn:n=l.length)(hr:r=bL tV l)(h:P l):Rd (one (r1L tV)) (some (.sl 0 0 n 0,[⟨27,3,r,true,false,0⟩])) P:=by
 subst hn hr;refine⟨_,l,rfl,?_,h⟩;show Bool.rec (motive:=λ_=>Option (List V3)) none (some (slR tV (bL tV l) 0 l.length)) (Bool.and true (okS tV (bL tV l) 0 l.length))=_
 rw[Rb4,Rb5];rfl
theorem Ad7(x:List Int):Rd (one (r1L tV)) (bb2 x) (λr=>4<=r.length/\r.length<=8):=by
 obtain⟨v,j,e1,a1,b1,c1,d1⟩:=va9 5 x 0 (by omega) (by omega) (by omega) (by omega)
 have hN:W (4+v)=(((4+v).toNat:Nat):Int):=by rw[ia4 (by omega) (by omega)];omega
 obtain⟨idx,out,e2,e3⟩:=ff3 x (4+v).toNat (by omega) (by omega) j (by omega)
 unfold bb2;simp only[i6,i8,e1,hN,e2];have h4:4<=(4+v).toNat:=by omega
 have h8:(4+v).toNat<=8:=by omega
 generalize (4+v).toNat=N at *
 have s1:lsL tV N (λk=>l9 (bL tV out) (0+k))=out:=by rw[<- e3];exact Rb4 tV out
 have s2:okL tV N (λk=>l9 (bL tV out) (0+k))=true:=by rw[<- e3];exact Rb5 tV out
 have gf:hb7 out=true:=le5 out (by omega)
 rw[s1,s2,gf];simp only[Qjl,Qjp,g8,show Nat.beq 2 1=false from rfl,C8]
 refine Rd.sl (λ_=>?_) λ_=>Qe3 e3.symm rfl ⟨by omega,by omega⟩
 have i0:inB 0 N=true:=f7 (j:=0) (by omega)
 have i1:inB 1 N=true:=f7 (j:=1) (by omega)
 have i2:inB 2 N=true:=f7 (j:=2) (by omega)
 have i3:inB 3 N=true:=f7 (j:=3) (by omega)
 have sp:∀(v:V3) (x1 x2 x3:Int),da7 (tV.row v) 0 [i x1,i x2,i x3]=tV.row ⟨x1,x2,x3⟩:=λ_ _ _ _=>rfl
 have rl:∀v:V3,Nat.ble (0+3) (len (tV.row v))=true:=λ_=>rfl
 have ck:∀v:V3,qa3 [CK.int .i64,CK.int .i64,CK.int .i64] (l0 (tV.row v) 0)=true:=λ_=>rfl
 have gr:∀(l:List V3) (k:Nat),l.length=N->k<4->l9 (bL tV l) k=tV.row (gL tV l k):=λl k hl hk=>P7 tV (by omega)
 have bl:∀(l:List V3) (k:Nat),l.length=N->k<4->Nat.blt k (len (bL tV l))=true:=λl k hl hk=>by rw[P6,Qjao];omega
 have ls:∀(l:List V3) (k:Nat) (v:V3),l.length=N->(l.set k v).length=N:=λl k v hl=>by rw[Qjm];exact hl
 rw[gr out 0 e3 (by omega),gr out 1 e3 (by omega)]
 simp only[sp,dc0];rw[gr _ 2 (ls out 1 _ e3) (by omega)]
 simp only[sp,dc0];rw[gr _ 3 (ls _ 2 _ (ls out 1 _ e3)) (by omega)]
 simp only[sp,dc0,rl,ck,i0,i1,i2,i3,bl out 0 e3 (by omega),bl out 1 e3 (by omega),bl _ 2 (ls out 1 _ e3) (by omega),bl _ 3 (ls _ 2 _ (ls out 1 _ e3)) (by omega),Qjp,g8]
 exact Qe3 (by simp only[Qjm];omega) rfl (by simp only[Qjm];omega)
theorem Qe4(x:List Int):ub2 x=true:=(Ad7 x).g
theorem Qe5(x:List Int):4<=(la4 x).length/\(la4 x).length<=8:=(Ad7 x).p
theorem Qe6{l:List Pln}{P:List Pln->Prop}(h:P l):Rd (one (r1L tP)) (some (eL tP l,[])) P:=⟨_,l,rfl,qc3 tP l,h⟩
theorem Yc5{l:List Pln}{k:Nat}(h:k<l.length):ldR tP (bL tP l) (0+k)=true:=by rw[Qjb];exact ie4 tP h
theorem Ec4{l:List Pln}{k:Nat}(h:k<l.length):rdR tP (bL tP l) (0+k)=gL tP l k:=by rw[Qjb];exact ie3 tP h
theorem Qe7{α:Type}(t:Ty α)(k:Nat)(l:List α):(one (r1L t)).rd (.sl 0 0 l.length 0,[⟨k,t.es,bL t l,true,false,0⟩])=some l:=by
 show Bool.rec (motive:=λ_=>Option (List α)) none (some (slR t (bL t l) 0 l.length)) (Bool.and (Nat.beq t.es t.es) (okS t (bL t l) 0 l.length))=_
 rw[Rb4,Rb5,Qjl];rfl
theorem Qe8{l:List Pln}{n:Nat}{r:List (List b7)}{P:List Pln->Prop}(hn:n<=l.length)(hr:r=bL tP l)(h:P (l.take n)):Rd (one (r1L tP)) (some (.sl 0 0 n 0,[⟨73,4,r,true,false,0⟩])) P:=by
 subst hr;have e1:slR tP (bL tP l) 0 n=l.take n:=cc9 tP (by rw[Qjc];omega) λk hk=>by
  rw[Qjb,P7 tP (by omega)]
  congr 1;simp[gL,Qjw,List.getElem?_take,hk]
 have e2:okS tP (bL tP l) 0 n=true:=Ua6 tP (f:=λk=>gL tP l k) λk hk=>by rw[Qjb,P7 tP (by omega)]
 refine⟨_,l.take n,rfl,?_,h⟩;show Bool.rec (motive:=λ_=>Option (List Pln)) none (some (slR tP (bL tP l) 0 n)) (Bool.and true (okS tP (bL tP l) 0 n))=_
 rw[e1,e2];rfl
set_option maxRecDepth 100000
structure jb8 where
 (Da5 Da6 Da7 Yb4:Int)
 i7:List Pt
noncomputable def hc7:List (Nat×Sum):=[(153,Gb2)]
theorem Vc4:i9 prog G hc7:=⟨Sb8,trivial⟩
structure Ca8 where
 Xe4:List Pt
 is8:Int
 i7:List Pt
 (ca8 ca9 da0 da1:Int)
structure U9 where
 (is4 is9:Int)
noncomputable def Ob5(p:Ca8)(s:U9):St:=⟨.unk::.unk::.ptr 1 0 0 0::.unk::i s.is4::.unk::.unk::eL tX p.Xe4::i p.is8::i s.is9::ra 12 [],[⟨0,1,[[eL tX p.i7]],true,false,0⟩,⟨0,4,[[i p.ca8,i p.ca9,i p.da0,i p.da1]],true,false,0⟩]⟩
noncomputable def ta0{α:Type}(k:U9->α)(e:Nat->α)(z:α)(p:Ca8)(s:U9):α:=let t1:=(ya8 (⟨(⟨p.ca8,p.ca9,p.da0⟩:V3),p.da1⟩:Pln) (gL tX p.Xe4 s.is9.toNat));(sl (decide (s.is9<p.is8)) (sl (inB s.is9 (List.length p.Xe4)) (sl (t1==0) (k ⟨W (s.is4+1),W (s.is9+1)⟩) (k ⟨s.is4,W (s.is9+1)⟩)) z) (e 1))
noncomputable def xa5(p:Ca8)(s:U9):Stp U9:=ta0 .next .exit .fail p s
noncomputable def qb7:Lo Ca8 U9:=⟨En hc7,1,mf4,[1,1,0,1,4,4],[2,4,7,8,9],.p,[⟨sUq::sUq::sPq 1::sUq::sIq::sUq::sUq::sLq tX::sIq::sIq::ru2 12 [],[⟨0,1,true,some [[.c 4 (nL tX)]]⟩,⟨0,4,true,some [kLq 4]⟩],λa H=>(⟨aLq tX a 7,aIq a 8,hLq tX H 0 0 0,hIq H 1 0 0,hIq H 1 0 1,hIq H 1 0 2,hIq H 1 0 3⟩,⟨aIq a 4,aIq a 9⟩)⟩],xa5,[(some 0,λp s=>upq (Ob5 p s) [(10,b (decide (s.is9<p.is8)))])],Ob5⟩
theorem Lc9:qb7.Ok:=Lo.ok [] (by kernel_rfl) .nil rfl (.cons (λa H=>by kernel_rfl) .nil) λp s=>(.of @ta0 (λF _ _ _ _ _=>by unfold ta0;(repeat' apply m0 (f:=F))<;>rfl) (by kernel_rfl))
structure Ea7 where
 alt:Nat
 bs0:Bool
 i7:List Pt
noncomputable def Ea8{α:Type}(kk:Ea7->α)(x:jb8):α:=let t1:=(lp (xa5 (⟨rt tX x.i7,(↑(List.length x.i7):Int),rt tX x.i7,x.Da5,x.Da6,x.Da7,x.Yb4⟩:Ca8)) (⟨0,0⟩:U9));(sl ((cnE tX x.i7)&&((cnE tX x.i7)&&true)) (sl (Nat.beq t1.1 1) (kk ⟨1,decide (t1.2.is4<3),rt tX x.i7⟩) (kk ⟨0,false,[]⟩)) (kk ⟨0,false,[]⟩))
noncomputable def ua8(x:jb8):Ea7:=Ea8 (λr=>r) x
noncomputable def Ab8(x:jb8)(r:Ea7):DT (b7×List b8):=(.ite (Nat.beq r.alt 1) (.ret (b r.bs0,[⟨0,1,[[eL tX r.i7]],true,false,0⟩])) .fail)
theorem td2{α β:Type}(F:α->β)(kk:Ea7->α)(x:jb8):F (Ea8 kk x)=Ea8 (λr=>F (kk r)) x:=by unfold Ea8;(repeat' apply m0 (f:=F))<;>rfl
noncomputable def Kb7:Sum:=Ya5 ⟨[.agg (kLq 4),sPq 0],[⟨0,1,true,some [[.c 4 (nL tX)]]⟩],λa H=>(⟨cIq a 0 0,cIq a 0 1,cIq a 0 2,cIq a 0 3,hLq tX H 0 0 0⟩,())⟩ (λx=>Ab8 x (ua8 x))
theorem hc8:i5 prog G 152 Kb7:=O5 (enc:=λx=>⟨[.agg [i x.Da5,i x.Da6,i x.Da7,i x.Yb4],.ptr 0 0 0 0],[⟨0,1,[[eL tX x.i7]],true,false,0⟩]⟩) (λa H=>by kernel_rfl) (bd Qf6 Vc4) λx=>va6 (.s .p (.s .p (.s (.s .p (.b (.u qb7.ls))) .p))) [qb7.pr] (by kernel_rfl) (.cons Lc9 .nil) (Qjk (b:=Ea8 (λr=>(Ab8 x r).run) x) (by kernel_rfl) (td2 (λr=>(Ab8 x r).run) (λr=>r) x).symm)
structure ca1 where
 ns0:Nat
 eh0:List (List b7)
 C6:List Pt
noncomputable def Ka1:List (Nat×Sum):=[(152,Kb7)]
theorem ub3:i9 prog G Ka1:=⟨hc8,trivial⟩
structure N7 where
 ns0:Nat
 is7:Int
 eh0:List (List b7)
structure r7 where
 is8:Int
 C6:List Pt
noncomputable def Ca9(p:N7)(s:r7):St:=⟨.sl 0 0 p.ns0 0::.fn 152 [.ptr 1 0 0 0]::ra 5 (i p.is7::i s.is8::ra 10 []),[⟨73,4,p.eh0,true,false,0⟩,⟨0,1,[[eL tX s.C6]],true,false,0⟩]⟩
noncomputable def I1{α:Type}(k:r7->α)(e:Nat->α)(z:α)(p:N7)(s:r7):α:=let t1:=(ua8 ⟨(rdR tP p.eh0 (0+s.is8.toNat)).n.x,(rdR tP p.eh0 (0+s.is8.toNat)).n.y,(rdR tP p.eh0 (0+s.is8.toNat)).n.z,(rdR tP p.eh0 (0+s.is8.toNat)).b,rt tX s.C6⟩);(sl (decide (s.is8<p.is7)) (sl (inB s.is8 p.ns0) (sl (ldR tP p.eh0 (0+s.is8.toNat)) (sl ((cnE tX s.C6)&&true) (sl (Nat.beq t1.alt 1) (sl t1.bs0 (e 1) (k ⟨W (s.is8+1),t1.i7⟩)) z) z) z) z) (e 2))
noncomputable def L3(p:N7)(s:r7):Stp r7:=I1 .next .exit .fail p s
noncomputable def la6:Lo N7 r7:=⟨En Ka1,2,Vd1,[1,0,1,4,4],[0,1,7,8],.p,[⟨.s (.o (.sl 0 0 (some 0) none))::.fn 152 [.o (.ptr 1 0 0 0)]::ru2 5 (sIq::sIq::ru2 10 []),[⟨73,4,true,none⟩,⟨0,1,true,some [[.c 4 (nL tX)]]⟩],λa H=>(⟨slN (slT a 0),aIq a 7,elT H 0⟩,⟨aIq a 8,hLq tX H 1 0 0⟩)⟩],L3,[(none,λp s=>let t1:=(ua8 ⟨(rdR tP p.eh0 (0+s.is8.toNat)).n.x,(rdR tP p.eh0 (0+s.is8.toNat)).n.y,(rdR tP p.eh0 (0+s.is8.toNat)).n.z,(rdR tP p.eh0 (0+s.is8.toNat)).b,rt tX s.C6⟩);⟨[i s.is8],[⟨73,4,p.eh0,true,false,0⟩,⟨0,1,[[eL tX t1.i7]],true,false,0⟩]⟩),(some 0,λp s=>upq (Ca9 p s) [(9,b (decide (s.is8<p.is7)))])],Ca9⟩
theorem qb8:la6.Ok:=Lo.ok [] (by kernel_rfl) .nil rfl (.cons (λa H=>by kernel_rfl) .nil) λp s=>(.of @I1 (λF _ _ _ _ _=>by unfold I1;(repeat' apply m0 (f:=F))<;>rfl) (by kernel_rfl))
structure ca2 where
 alt:Nat
 is0:Int
 C6:List Pt
noncomputable def J3{α:Type}(kk:ca2->α)(x:ca1):α:=let t1:=(lp (L3 (⟨x.ns0,(↑x.ns0:Int),x.eh0⟩:N7)) (⟨0,rt tX x.C6⟩:r7));let t2:=(ua8 ⟨(rdR tP x.eh0 (0+t1.2.is8.toNat)).n.x,(rdR tP x.eh0 (0+t1.2.is8.toNat)).n.y,(rdR tP x.eh0 (0+t1.2.is8.toNat)).n.z,(rdR tP x.eh0 (0+t1.2.is8.toNat)).b,rt tX t1.2.C6⟩);(sl ((cnE tX x.C6)&&true) (sl (Nat.beq t1.1 1) (kk ⟨1,t1.2.is8,t2.i7⟩) (sl (Nat.beq t1.1 2) (kk ⟨1,-1,t1.2.C6⟩) (kk ⟨0,0,[]⟩))) (kk ⟨0,0,[]⟩))
noncomputable def ca3(x:ca1):ca2:=J3 (λr=>r) x
noncomputable def oa7(x:ca1)(r:ca2):DT (b7×List b8):=(.ite (Nat.beq r.alt 1) (.ret (i r.is0,[⟨73,4,x.eh0,true,false,0⟩,⟨0,1,[[eL tX r.C6]],true,false,0⟩])) .fail)
theorem Db7{α β:Type}(F:α->β)(kk:ca2->α)(x:ca1):F (J3 kk x)=J3 (λr=>F (kk r)) x:=by unfold J3;(repeat' apply m0 (f:=F))<;>rfl
noncomputable def Oa7:Sum:=Ya5 ⟨[.s (.o (.sl 0 0 (some 0) none)),.fn 152 [.o (.ptr 1 0 0 0)]],[⟨73,4,true,none⟩,⟨0,1,true,some [[.c 4 (nL tX)]]⟩],λa H=>(⟨slN (slT a 0),elT H 0,hLq tX H 1 0 0⟩,())⟩ (λx=>oa7 x (ca3 x))
theorem Ab9:i5 prog G 139 Oa7:=O5 (enc:=λx=>⟨[.sl 0 0 x.ns0 0,.fn 152 [.ptr 1 0 0 0]],[⟨73,4,x.eh0,true,false,0⟩,⟨0,1,[[eL tX x.C6]],true,false,0⟩]⟩) (λa H=>by kernel_rfl) (bd cf6 ub3) λx=>va6 (.s .p (.s (.s .p (.b (.u la6.ls))) .p)) [la6.pr] (by kernel_rfl) (.cons qb8 .nil) (Qjk (b:=J3 (λr=>(oa7 x r).run) x) (by kernel_rfl) (Db7 (λr=>(oa7 x r).run) (λr=>r) x).symm)
structure ca4 where
 ns0:Nat
 eh0:List (List b7)
 C6:List Pt
noncomputable def Ka2:List (Nat×Sum):=[(139,Oa7),(152,Kb7)]
theorem ub4:i9 prog G Ka2:=⟨Ab9,hc8,trivial⟩
structure N8 where
 ns0:Nat
structure w8 where
 (is5 is6:Int)
 eh0:List (List b7)
 C6:List Pt
noncomputable def Da0(p:N8)(s:w8):St:=⟨.sl 0 0 p.ns0 0::.fn 152 [.ptr 1 0 0 0]::ra 3 (i s.is5::i s.is6::ra 35 []),[⟨73,4,s.eh0,true,false,0⟩,⟨0,1,[[eL tX s.C6]],true,false,0⟩]⟩
noncomputable def I4{α:Type}(k:w8->α)(e:Nat->α)(z:α)(p:N8)(s:w8):α:=let t1:=(ua8 ⟨(rdR tP s.eh0 (0+s.is6.toNat)).n.x,(rdR tP s.eh0 (0+s.is6.toNat)).n.y,(rdR tP s.eh0 (0+s.is6.toNat)).n.z,(rdR tP s.eh0 (0+s.is6.toNat)).b,rt tX s.C6⟩);(sl (decide (s.is6<(↑p.ns0:Int))) (sl (inB s.is6 p.ns0) (sl (ldR tP s.eh0 (0+s.is6.toNat)) (sl ((cnE tX s.C6)&&true) (sl (Nat.beq t1.alt 1) (sl (!t1.bs0) (sl (inB s.is5 p.ns0) (sl ((Nat.blt (0+s.is5.toNat) (len s.eh0))&&(Nat.ble (0+4) (len (l9 s.eh0 (0+s.is5.toNat))))) (k ⟨W (s.is5+1),W (s.is6+1),setAt s.eh0 (0+s.is5.toNat) (da7 (l9 s.eh0 (0+s.is5.toNat)) 0 [i (rdR tP s.eh0 (0+s.is6.toNat)).n.x,i (rdR tP s.eh0 (0+s.is6.toNat)).n.y,i (rdR tP s.eh0 (0+s.is6.toNat)).n.z,i (rdR tP s.eh0 (0+s.is6.toNat)).b]),t1.i7⟩) z) z) (k ⟨s.is5,W (s.is6+1),s.eh0,t1.i7⟩)) z) z) z) z) (e 1))
noncomputable def E5(p:N8)(s:w8):Stp w8:=I4 .next .exit .fail p s
noncomputable def la7:Lo N8 w8:=⟨En Ka2,2,mf3,[1,1,1,0,1,4,4],[0,1,5,6],.p,[⟨.s (.o (.sl 0 0 (some 0) none))::.fn 152 [.o (.ptr 1 0 0 0)]::ru2 3 (sIq::sIq::ru2 35 []),[⟨73,4,true,none⟩,⟨0,1,true,some [[.c 4 (nL tX)]]⟩],λa H=>(⟨slN (slT a 0)⟩,⟨aIq a 5,aIq a 6,elT H 0,hLq tX H 1 0 0⟩)⟩],E5,[(some 0,λp s=>upq (Da0 p s) [(16,i s.is6),(17,.sl 0 0 p.ns0 0),(18,i (↑p.ns0:Int)),(19,b (decide (s.is6<(↑p.ns0:Int))))])],Da0⟩
theorem qb9:la7.Ok:=Lo.ok [] (by kernel_rfl) .nil rfl (.cons (λa H=>by kernel_rfl) .nil) λp s=>(.of @I4 (λF _ _ _ _ _=>by unfold I4;(repeat' apply m0 (f:=F))<;>rfl) (by kernel_rfl))
structure ca5 where
 (alt ns0:Nat)
 eh0:List (List b7)
 C6:List Pt
noncomputable def J4{α:Type}(kk:ca5->α)(x:ca4):α:=let t1:=(ca3 ⟨x.ns0,x.eh0,rt tX x.C6⟩);let t2:=(lp (E5 (⟨x.ns0⟩:N8)) (⟨t1.is0,W (t1.is0+1),x.eh0,rt tX t1.C6⟩:w8));(sl ((cnE tX x.C6)&&true) (sl (Nat.beq t1.alt 1) (sl (t1.is0==(-1)) (kk ⟨1,x.ns0,x.eh0,t1.C6⟩) (sl ((cnE tX t1.C6)&&true) (sl (Nat.beq t2.1 1) (sl (inB t2.2.is5 (x.ns0+1)) (sl (inB t2.2.is5 (x.ns0+1)) (kk ⟨1,t2.2.is5.toNat-0,app (K1 t2.2.eh0 (0+t2.2.is5.toNat)) (app (List.replicate (x.ns0-t2.2.is5.toNat) [i 0,i 0,i 0,i 0]) (l0 t2.2.eh0 ((0+t2.2.is5.toNat)+(x.ns0-t2.2.is5.toNat)))),t2.2.C6⟩) (kk ⟨0,0,[],[]⟩)) (kk ⟨0,0,[],[]⟩)) (kk ⟨0,0,[],[]⟩)) (kk ⟨0,0,[],[]⟩))) (kk ⟨0,0,[],[]⟩)) (kk ⟨0,0,[],[]⟩))
noncomputable def J5(x:ca4):ca5:=J4 (λr=>r) x
noncomputable def oa8(x:ca4)(r:ca5):DT (b7×List b8):=(.ite (Nat.beq r.alt 1) (.ret (.sl 0 0 r.ns0 0,[⟨73,4,r.eh0,true,false,0⟩,⟨0,1,[[eL tX r.C6]],true,false,0⟩])) .fail)
theorem Db8{α β:Type}(F:α->β)(kk:ca5->α)(x:ca4):F (J4 kk x)=J4 (λr=>F (kk r)) x:=by unfold J4;(repeat' apply m0 (f:=F))<;>rfl
noncomputable def qa9:Sum:=Ya5 ⟨[.s (.o (.sl 0 0 (some 0) none)),.fn 152 [.o (.ptr 1 0 0 0)]],[⟨73,4,true,none⟩,⟨0,1,true,some [[.c 4 (nL tX)]]⟩],λa H=>(⟨slN (slT a 0),elT H 0,hLq tX H 1 0 0⟩,())⟩ (λx=>oa8 x (J5 x))
theorem Ka3:i5 prog G 150 qa9:=O5 (enc:=λx=>⟨[.sl 0 0 x.ns0 0,.fn 152 [.ptr 1 0 0 0]],[⟨73,4,x.eh0,true,false,0⟩,⟨0,1,[[eL tX x.C6]],true,false,0⟩]⟩) (λa H=>by kernel_rfl) (bd Gf8 ub4) λx=>va6 (.s .p (.s .p (.s .p (.s (.s .p (.b (.u la7.ls))) .p)))) [la7.pr] (by kernel_rfl) (.cons qb9 .nil) (Qjk (b:=J4 (λr=>(oa8 x r).run) x) (by kernel_rfl) (Db8 (λr=>(oa8 x r).run) (λr=>r) x).symm)
structure la8 where
 ns0:Nat
 eh0:List (List b7)
noncomputable def xa6:List (Nat×Sum):=[]
theorem Kb8:i9 prog G xa6:=trivial
structure F8 where
 (ns0 os4 ns4:Nat)
structure r9 where
 (is3 is5:Int)
 eh0:List (List b7)
noncomputable def Oa8(p:F8)(s:r9):St:=⟨.sl 0 0 p.ns0 0::.unk::.unk::i s.is3::.sl 0 p.os4 p.ns4 0::i s.is5::ra 55 [],[⟨73,4,s.eh0,true,false,0⟩]⟩
noncomputable def O8{α:Type}(k:r9->α)(e:Nat->α)(z:α)(p:F8)(s:r9):α:=(sl (decide (s.is5<(↑p.ns4:Int))) (sl (inB s.is5 p.ns4) (sl (ldR tP s.eh0 (p.os4+s.is5.toNat)) (sl (inB (W (s.is5-1)) p.ns4) (sl (ldR tP s.eh0 (p.os4+(W (s.is5-1)).toNat)) (sl (!(((rdR tP s.eh0 (p.os4+s.is5.toNat)).n.x==(rdR tP s.eh0 (p.os4+(W (s.is5-1)).toNat)).n.x)&&(((rdR tP s.eh0 (p.os4+s.is5.toNat)).n.y==(rdR tP s.eh0 (p.os4+(W (s.is5-1)).toNat)).n.y)&&(((rdR tP s.eh0 (p.os4+s.is5.toNat)).n.z==(rdR tP s.eh0 (p.os4+(W (s.is5-1)).toNat)).n.z)&&(((rdR tP s.eh0 (p.os4+s.is5.toNat)).b==(rdR tP s.eh0 (p.os4+(W (s.is5-1)).toNat)).b)&&true))))) (sl (inB s.is5 p.ns4) (sl (ldR tP s.eh0 (p.os4+s.is5.toNat)) (sl (inB s.is3 p.ns0) (sl ((Nat.blt (0+s.is3.toNat) (len s.eh0))&&(Nat.ble (0+4) (len (l9 s.eh0 (0+s.is3.toNat))))) (k ⟨W (s.is3+1),W (s.is5+1),setAt s.eh0 (0+s.is3.toNat) (da7 (l9 s.eh0 (0+s.is3.toNat)) 0 [i (rdR tP s.eh0 (p.os4+s.is5.toNat)).n.x,i (rdR tP s.eh0 (p.os4+s.is5.toNat)).n.y,i (rdR tP s.eh0 (p.os4+s.is5.toNat)).n.z,i (rdR tP s.eh0 (p.os4+s.is5.toNat)).b])⟩) z) z) z) z) (k ⟨s.is3,W (s.is5+1),s.eh0⟩)) z) z) z) z) (e 1))
noncomputable def w6(p:F8)(s:r9):Stp r9:=O8 .next .exit .fail p s
noncomputable def ua9:Lo F8 r9:=⟨En xa6,1,Me9,[1,1,0,1,4,4,1,0,4,1,2,1,0,1,4,4],[0,3,4,5],.p,[⟨.s (.o (.sl 0 0 (some 0) none))::sUq::sUq::sIq::.s (.o (.sl 0 0 none none))::sIq::ru2 55 [],[⟨73,4,true,none⟩],λa H=>(⟨slN (slT a 0),slO (slT a 4),slN (slT a 4)⟩,⟨aIq a 3,aIq a 5,elT H 0⟩)⟩],w6,[(some 2,λp s=>upq (Oa8 p s) [(29,i s.is5),(30,.sl 0 p.os4 p.ns4 0),(31,i (↑p.ns4:Int)),(32,b (decide (s.is5<(↑p.ns4:Int))))])],Oa8⟩
theorem Db9:ua9.Ok:=Lo.ok [] (by kernel_rfl) .nil rfl (.cons (λa H=>by kernel_rfl) .nil) λp s=>(.of @O8 (λF _ _ _ _ _=>by unfold O8;(repeat' apply m0 (f:=F))<;>rfl) (by kernel_rfl))
structure T3 where
 ns0:Nat
 eh0:List (List b7)
structure y6 where
 is3:Int
noncomputable def Oa9(p:T3)(s:y6):St:=⟨.sl 0 0 p.ns0 0::.unk::.unk::i s.is3::ra 57 [],[⟨73,4,p.eh0,true,false,0⟩]⟩
noncomputable def O9{α:Type}(k:y6->α)(e:Nat->α)(z:α)(p:T3)(s:y6):α:=let t1:=(lp (w6 (⟨p.ns0,0+s.is3.toNat,p.ns0-s.is3.toNat⟩:F8)) (⟨s.is3,1,p.eh0⟩:r9));(sl (decide (s.is3<(↑p.ns0:Int))) (sl (inB s.is3 p.ns0) (sl (ldR tP p.eh0 (0+s.is3.toNat)) (sl (inB (W (s.is3-1)) p.ns0) (sl (ldR tP p.eh0 (0+(W (s.is3-1)).toNat)) (sl (((rdR tP p.eh0 (0+s.is3.toNat)).n.x==(rdR tP p.eh0 (0+(W (s.is3-1)).toNat)).n.x)&&(((rdR tP p.eh0 (0+s.is3.toNat)).n.y==(rdR tP p.eh0 (0+(W (s.is3-1)).toNat)).n.y)&&(((rdR tP p.eh0 (0+s.is3.toNat)).n.z==(rdR tP p.eh0 (0+(W (s.is3-1)).toNat)).n.z)&&(((rdR tP p.eh0 (0+s.is3.toNat)).b==(rdR tP p.eh0 (0+(W (s.is3-1)).toNat)).b)&&true)))) (sl (inB s.is3 (p.ns0+1)) (sl (Nat.beq t1.1 1) (sl (inB t1.2.is3 (p.ns0+1)) (sl (inB t1.2.is3 (p.ns0+1)) (e 1) z) z) z) z) (k ⟨W (s.is3+1)⟩)) z) z) z) z) (e 2))
noncomputable def R8(p:T3)(s:y6):Stp y6:=O9 .next .exit .fail p s
noncomputable def va0:Lo T3 y6:=⟨En xa6,1,Me9,[1,1,0,1,4,4],[0,3],.s .p (.s (.b (.s .p (.c (.s .p (.s (.s .p (.b (.u ua9.ls))) .p)) .p))) .p),[⟨.s (.o (.sl 0 0 (some 0) none))::sUq::sUq::sIq::ru2 57 [],[⟨73,4,true,none⟩],λa H=>(⟨slN (slT a 0),elT H 0⟩,⟨aIq a 3⟩)⟩],R8,[(none,λp s=>let t1:=(lp (w6 (⟨p.ns0,0+s.is3.toNat,p.ns0-s.is3.toNat⟩:F8)) (⟨s.is3,1,p.eh0⟩:r9));⟨[.sl 0 0 (t1.2.is3.toNat-0) 0],[⟨73,4,app (K1 t1.2.eh0 (0+t1.2.is3.toNat)) (app (List.replicate (p.ns0-t1.2.is3.toNat) [i 0,i 0,i 0,i 0]) (l0 t1.2.eh0 ((0+t1.2.is3.toNat)+(p.ns0-t1.2.is3.toNat)))),true,false,0⟩]⟩),(some 0,λp s=>upq (Oa9 p s) [(10,i s.is3),(11,.sl 0 0 p.ns0 0),(12,i (↑p.ns0:Int)),(13,b (decide (s.is3<(↑p.ns0:Int))))])],Oa9⟩
theorem Eb0:va0.Ok:=Lo.ok [ua9.pr] (by kernel_rfl) (.cons Db9 .nil) rfl (.cons (λa H=>by kernel_rfl) .nil) λp s=>(.of @O9 (λF _ _ _ _ _=>by unfold O9;(repeat' apply m0 (f:=F))<;>rfl) (by kernel_rfl))
structure la9 where
 (alt ns0:Nat)
 eh0:List (List b7)
noncomputable def Q3{α:Type}(kk:la9->α)(x:la8):α:=let t1:=(lp (R8 (⟨x.ns0,x.eh0⟩:T3)) (⟨1⟩:y6));let t2:=(lp (w6 (⟨x.ns0,0+t1.2.is3.toNat,x.ns0-t1.2.is3.toNat⟩:F8)) (⟨t1.2.is3,1,x.eh0⟩:r9));(sl (decide ((↑x.ns0:Int)<2)) (kk ⟨1,x.ns0,x.eh0⟩) (sl (Nat.beq t1.1 1) (kk ⟨1,t2.2.is3.toNat-0,app (K1 t2.2.eh0 (0+t2.2.is3.toNat)) (app (List.replicate (x.ns0-t2.2.is3.toNat) [i 0,i 0,i 0,i 0]) (l0 t2.2.eh0 ((0+t2.2.is3.toNat)+(x.ns0-t2.2.is3.toNat))))⟩) (sl (Nat.beq t1.1 2) (kk ⟨1,x.ns0,x.eh0⟩) (kk ⟨0,0,[]⟩))))
noncomputable def Z3(x:la8):la9:=Q3 (λr=>r) x
noncomputable def xa7(x:la8)(r:la9):DT (b7×List b8):=(.ite (Nat.beq r.alt 1) (.ret (.sl 0 0 r.ns0 0,[⟨73,4,r.eh0,true,false,0⟩])) .fail)
theorem Ub6{α β:Type}(F:α->β)(kk:la9->α)(x:la8):F (Q3 kk x)=Q3 (λr=>F (kk r)) x:=by unfold Q3;(repeat' apply m0 (f:=F))<;>rfl
noncomputable def Aa3:Sum:=Ya5 ⟨[.s (.o (.sl 0 0 (some 0) none))],[⟨73,4,true,none⟩],λa H=>(⟨slN (slT a 0),elT H 0⟩,())⟩ (λx=>xa7 x (Z3 x))
theorem Wa7:i5 prog G 154 Aa3:=O5 (enc:=λx=>⟨[.sl 0 0 x.ns0 0],[⟨73,4,x.eh0,true,false,0⟩]⟩) (λa H=>by kernel_rfl) (bd Gf9 Kb8) λx=>va6 (.s .p (.s .p (.s (.s .p (.b (.u va0.ls))) .p))) [va0.pr] (by kernel_rfl) (.cons Eb0 .nil) (Qjk (b:=Q3 (λr=>(xa7 x r).run) x) (by kernel_rfl) (Ub6 (λr=>(xa7 x r).run) (λr=>r) x).symm)
noncomputable def kd0:List (Nat×Sum):=[]
theorem Vc5:i9 prog G kd0:=trivial
noncomputable def Sa0(x:Int)(y:Int):Option (b7×List b8):=(sl (decide (x<y)) (some (i (-1),[])) (sl (decide (x>y)) (some (i 1,[])) (some (i 0,[]))))
noncomputable def va1(x:Int)(y:Int):Int:=O3 (one r1I) (Sa0 x y)
noncomputable def va2(x:Int)(y:Int):Bool:=okO (one r1I) (Sa0 x y)
noncomputable def rc0:Sum:=ra8 cI cI (λx y=>.guard (va2 x y) (.ret ((one r1I).enc (va1 x y),[])))
theorem kd1:i5 prog G 141 rc0:=sb9 (bd Qf3 Vc5) (one r1I) (o:=Sa0) λx y=>y8 (by kernel_rfl)
noncomputable def Mc0:List (Nat×Sum):=[(141,rc0)]
theorem Ec5:i9 prog G Mc0:=⟨kd1,trivial⟩
noncomputable def Da1(x:Pln)(y:Pln):Option (b7×List b8):=let t1:=(va1 x.n.x y.n.x);let t2:=(va1 x.n.y y.n.y);let t3:=(va1 x.n.z y.n.z);let t4:=(va1 x.b y.b);(sl (va2 x.n.x y.n.x) (sl (t1==0) (sl (va2 x.n.y y.n.y) (sl (t2==0) (sl (va2 x.n.z y.n.z) (sl (t3==0) (sl (va2 x.b y.b) (sl (t4==0) (some (i t4,[])) (some (i t4,[]))) none) (some (i t3,[]))) none) (some (i t2,[]))) none) (some (i t1,[]))) none)
noncomputable def Ta8(x:Pln)(y:Pln):Int:=O3 (one r1I) (Da1 x y)
noncomputable def Ta9(x:Pln)(y:Pln):Bool:=okO (one r1I) (Da1 x y)
noncomputable def rb0:Sum:=ra8 (ha7 tP) (ha7 tP) (λx y=>.guard (Ta9 x y) (.ret ((one r1I).enc (Ta8 x y),[])))
theorem Mc1:i5 prog G 122 rb0:=sb9 (bd Pf3 Ec5) (one r1I) (o:=Da1) λx y=>y8 (by kernel_rfl)
noncomputable def td3:List (Nat×Sum):=[(109,tb6),(110,mc2),(111,Va1)]
theorem kd2:i9 prog G td3:=⟨Jb6,uc8,rb9,trivial⟩
noncomputable def bb4(x:List Pln)(y:List Pln):Option (b7×List b8):=let t1:=(za9 [rt tP x,rt tP y]);let t2:=(gb4 [rt tP x,rt tP y]);let t3:=(oa1 (rt tP t2));(sl ((okE tP x)&&((okE tP y)&&true)) (sl (Aa0 [rt tP x,rt tP y]) (sl (!t1) (some (b true,[])) (sl ((okE tP x)&&((okE tP y)&&true)) (sl (gb5 [rt tP x,rt tP y]) (sl (okE tP t2) (sl (oa2 (rt tP t2)) (some (b (!t3),[])) none) none) none) none)) none) none)
noncomputable def Ma5(x:List Pln)(y:List Pln):Bool:=O3 (one r1B) (bb4 x y)
noncomputable def Ma6(x:List Pln)(y:List Pln):Bool:=okO (one r1B) (bb4 x y)
noncomputable def Ub7:Sum:=ra8 (P8 tP) (P8 tP) (λx y=>.guard (Ma6 x y) (.ret ((one r1B).enc (Ma5 x y),[])))
theorem rc1:i5 prog G 56 Ub7:=sb9 (bd b56 kd2) (one r1B) (o:=bb4) λx y=>y8 (by kernel_rfl)
structure Fe6 where
 (Da5 Da6 Da7 Yb4:Int)
 g7:List Pln
structure Fe7 where
 alt:Nat
 bs0:Bool
structure od5 where
 ta9:List Pt
 g7:List Pln
structure Yc6 where
 ta9:List Pt
 is7:Int
structure Yc7 where
 is8:Int
 g7:List Pln
structure od6 where
 alt:Nat
 is0:Int
 g7:List Pln
structure Vc6 where
 ta9:List Pt
 g7:List Pln
structure Vc7 where
 alt:Nat
 bs0:Bool
 g7:List Pln
noncomputable def ae0:List (Nat×Sum):=[]
theorem Ld1:i9 prog G ae0:=trivial
structure Ub8 where
 (k9 ve6 ve7 ve8 ve9 we0:Int)
noncomputable def Bb0{α:Type}(kk:Ub8->α)(x:V3)(y:V3):α:=(kk ⟨y.x,W (0-x.x),y.y,W (0-x.y),y.z,W (0-x.z)⟩)
noncomputable def kd3(x:V3)(y:V3):Ub8:=Bb0 (λr=>r) x y
noncomputable def hc9(r:Ub8):DT (b7×List b8):=.ret (.sl 0 0 6 0,[⟨73,4,[[i 1,i 0,i 0,i r.k9],[i (-1),i 0,i 0,i r.ve6],[i 0,i 1,i 0,i r.ve7],[i 0,i (-1),i 0,i r.ve8],[i 0,i 0,i 1,i r.ve9],[i 0,i 0,i (-1),i r.we0]],true,false,0⟩])
theorem le8{α β:Type}(F:α->β)(kk:Ub8->α)(x:V3)(y:V3):F (Bb0 kk x y)=Bb0 (λr=>F (kk r)) x y:=by unfold Bb0;(repeat' apply m0 (f:=F))<;>rfl
noncomputable def kd4:Sum:=ra8 (ha7 tV) (ha7 tV) (λx y=>hc9 (kd3 x y))
theorem ae1:i5 prog G 63 kd4:=Ga2 (bd b63 Ld1) λx y=>y8 (Qjk (b:=Bb0 (λr=>(hc9 r).run) x y) (by kernel_rfl) (le8 (λr=>(hc9 r).run) (λr=>r) x y).symm)
noncomputable def has(c:List Pln)(v:V3):Bool:=(chk c==0)&&(inV v&&inn c ⟨v.x,v.y,v.z,1⟩)
theorem ae2{a c:List Pln}(ha:(chk a==0)=true)(hc:(chk c==0)=true):Bds (a++c++ws)/\(a++c++ws).length<=200:=by
 rw[beq_iff_eq,Ja5] at ha hc;refine⟨λp hp=>?_,by rw[Qjd,Qjd,show ws.length=6 from rfl];omega⟩
 rcases List.mem_append.1 hp with hp|hp
 ·rcases List.mem_append.1 hp with hp|hp
  ·exact uc9 (ha.2 p hp)
  ·exact uc9 (hc.2 p hp)
 ·exact of6 p hp
noncomputable def apart(a c:List Pln):Bool:=!((chk a==0)&&(chk c==0))||!Uc8 (a++c++ws)
theorem ae3{a c:List Pln}(ha:a.length<=100000000)(hc:c.length<=100000000):bb4 a c=some (b (apart a c),[]):=by
 have hn:[a,c].length<=1000000000:=by simp
 have hl:∀x∈[a,c],x.length<=1000000000:=by
  intro x hx;simp only[Qja,List.not_mem_nil,or_false] at hx
  rcases hx with rfl|rfl<;>omega
 have hf:[a,c].flatten=a++c:=by simp
 have hfl:[a,c].flatten.length<=1000000000:=by rw[hf,Qjd];omega
 unfold bb4 apart;simp only[i6,p6,Yd0 _ hn hl,Yd1 _ hn hl,Hf3 _ hn hfl,Hf4 _ hn hfl,hf,List.all_cons,List.all_nil,Qjp];cases h1:chk a==0 with
 |false=>rfl
 |true =>
  cases h2:chk c==0 with
  |false=>rfl
  |true =>
   obtain⟨q1,q2⟩:=ae2 h1 h2;rw[Pe2 _ q1 q2,Pe3 _ q1 q2];rfl
theorem se7{a c:List Pln}(ha:a.length<=100000000)(hc:c.length<=100000000):Ma5 a c=apart a c:=by unfold Ma5;rw[ae3 ha hc];rfl
theorem se8{a c:List Pln}(ha:a.length<=100000000)(hc:c.length<=100000000):Ma6 a c=true:=by unfold Ma6;rw[ae3 ha hc];rfl
noncomputable def lies(a c:List Pln):Bool:=ful a&&((chk c==0)&&(pts a).all (inn c))
end Go.Ev.Ce
namespace Go.Ev.L
open Go Go.Ev Go.Sort Go.Proofs
section
variable{α:Type}[Inhabited α]{P:Program}{G:Nat->List Value}{g:FuncId}{S:Sum}{t:Ty α}{enc:α->List Value}{cf:α->α->Int}
theorem ff4 (hc : i5 P G g S) (hS : ∀ x y, (S [.agg (t.row x), .agg (t.row y)] []).run = some (i (cf x y), [])) (hG : ∀ n, G n = []) (he : ∀ x, t.row x = (enc x).map .v) (k blk off size : Nat) (w : World) :
  CmpLays P g #[] enc k cf blk off size w:=by
 intro m os dk _ x y;generalize sortWorldK enc k w blk off m dk os=w0;have hrow:∀(z:α),ka0 (λ_=>⟨0,0,0⟩) [] (λ_ _=>False) w0 (.agg (t.row z)) (.agg (enc z).toArray):=λz=>by
  refine .agg _ _ (by rw[he];simp) λi u u' hu hu'=>?_
  rw[he,Qjy] at hu;have hu':(enc z)[i]?=some u':=by simpa using hu'
  rw[hu'] at hu;injection hu with hu;subst hu;exact .v _
 obtain⟨_,h⟩:=hc _ _ _ _ (hS x y) (λk=>w0.heap.size<=k) (λ_=>⟨0,0,0⟩) (λ_ _=>False) w0 [.agg (enc x).toArray,.agg (enc y).toArray]
  ⟨λid b hb=>by simp at hb,λid id' b b' hb=>by simp at hb,λb o hf=>hf.elim,λk hk=>hk⟩ rfl
  (λi u u' hu hu'=>by
   match i,hu,hu' with
   |0,hu,hu'=>cases hu;cases hu';exact .val (hrow x)
   |1,hu,hu'=>cases hu;cases hu';exact .val (hrow y))
  (λn c v hv=>by rw[hG] at hv;simp at hv)
 refine h.mono λe w' ⟨r',h1,ρ',F',h2,h3,h4⟩=>?_
 have h5:=ja5 h4;subst h5;refine⟨h1,w'.drawn-w0.drawn,w'.heap.extract w0.heap.size w'.heap.size,?_⟩;have hd:=h2.ext.drawn;have hs:=h2.ext.size;have hheap:w'.heap=w0.heap++w'.heap.extract w0.heap.size w'.heap.size:=by
  apply Array.ext_getElem?;intro j
  rcases Nat.lt_or_ge j w0.heap.size with hj|hj
  ·rw[Qjx hj,h2.ext.block j hj (by omega)]
  ·rw[Array.getElem?_append_right hj,Array.getElem?_extract];have e:w0.heap.size+(j-w0.heap.size)=j:=by omega
   rw[e];split
   ·rfl
   ·rw[Qjas (by omega)]
 obtain⟨hp,tp,dr,os',out⟩:=w';have e1:=h2.ext.os;have e2:=h2.ext.tape;have e3:=h2.ext.output
 simp only at e1 e2 e3 hd hheap
 subst e1 e2 e3;unfold grow World.drewN
 simp only
 congr 1;omega
noncomputable def Qe9(t:Ty α)(g:Nat)(et:Nat)(srt:List α->List α):Sum:=λargs blks=>match args,blks with
 |[.sl 0 0 n 0,.fn g' []],[⟨et',es',el,true,false,0⟩] =>
  Bool.rec (motive:=λ_=>DT (b7×List b8)) .fail (.guard (Bool.and (Nat.ble n room) (Bool.and (Nat.ble n (len el)) (okS t el 0 n))) (.ret (.v (.tuple #[]),[⟨et',es',app (bL t (srt (slR t el 0 n))) (l0 el n),true,false,0⟩])))
   (Bool.and (Nat.beq g' g) (Bool.and (Nat.beq et' et) (Nat.beq es' t.es)))
 |_,_=>.fail
theorem Ec6(l:List α)(j:Nat)(h:j<l.length):l.toArray[j]! = l[j]:=by
 rw[getElem!_pos l.toArray j (by simpa using h)]
 simp
theorem ff5 {f : FuncId} {et : Nat} {srt : List α → List α} (hcall : xb1 P f) (hes : 0 < t.es) (he : ∀ x, t.row x = (enc x).map .v) (hx : ∀ r, t.ok r = true → r = t.row (t.rd r)) (h1 : ∀ x, ∀ v ∈ enc x, v.oneCell' = true)
  (hlen:∀l,(srt l).length=l.length) (hcl:∀blk off size w,CmpLays P g #[] enc t.es cf blk off size w)
  (hcon:∀(blk cap:Nat) (d:Array α) (w:World),(∀off size,CmpLays P g #[] enc t.es cf blk off size w)->HoldsK enc t.es w blk 0 d->blk<w.heap.size->d.size<4611686018427387904 ->
   Calls P f #[.slice (some ⟨blk,0,none⟩) d.size cap,.func (.func g) #[] #[]] w λe w'=>e=.returned (.tuple #[])/\∃n os,w'=sortWorldK enc t.es w blk 0 n (srt d.toList).toArray os) :
  i5 P G f (Qe9 t g et srt):=by
 intro args blks r out hr W ρ F w args' hH hl hargs hG;refine⟨hcall,?_⟩;unfold Qe9 at hr
 split at hr
 case h_2=>cases hr
 rename_i n g' et' es' el;cases hb0:Bool.and (Nat.beq g' g) (Bool.and (Nat.beq et' et) (Nat.beq es' t.es)) with
 |false=>rw[hb0] at hr;cases hr
 |true =>
 rw[hb0] at hr;rw[Qju,Qju] at hb0;have q1:=Qjt hb0.1;have q2:=Qjt hb0.2.1;have q3:=Qjt hb0.2.2;subst q1 q2 q3;obtain⟨hg0,hr⟩:=DT.run_guard_some hr;rw[Qju,Qju] at hg0;have hroom:n<=room:=Qjav hg0.1;have hn:=Qjav hg0.2.1;rw[o0] at hn;have hok:=hg0.2.2;injection hr with hr;injection hr with p1 p2;subst p1 p2
 match args',hl with
 |[v0,v1],_ =>
 obtain⟨a,cap,b,rfl,hb,hd,_,hncap,hspot,hcap,hq⟩:=Pa2 (hargs 0 _ _ rfl rfl);obtain⟨vs1,rfl,hvs1,_⟩:=Qb7 (hargs 1 _ _ rfl rfl);have hvs1:vs1=#[]:=Array.eq_empty_of_size_eq_zero (by simpa using hvs1.symm)
 subst hvs1;rw[vb4] at *
 have hb:b=⟨et',t.es,el,true,false,0⟩:=by simpa using hb.symm
 subst hb;obtain⟨ha,hsz,hne⟩:=hq rfl;have ha:a=⟨(ρ 0).blk,(ρ 0).off+0*t.es,none⟩:=ha.resolve_left λh=>by omega
 obtain⟨cc,tt,fr,hB⟩:=hH.blk 0 _ rfl rfl;obtain⟨hfr,hW,hoff,hsize,hnF,het⟩:=hB.own rfl;subst hfr;rw[hoff,Nat.zero_mul,Nat.add_zero] at ha;subst ha;generalize hbk:(ρ 0).blk=blk at *
 -- the rows asq data
 have hrow:∀j,j<n->l9 el j=(enc (gL t (slR t el 0 n) j)).map .v:=λj hj=>by
  have h2:t.ok (l9 el (0+j))=true:=Qjaq.1 hok j (by simpa using hj)
  rw[Qjb] at h2;rw[<- he,slR,pe3 t _ hj,Qjb];exact hx _ h2
 have hld:(slR t el 0 n).length=n:=Gd4 ..;have hk:∀x,(enc x).length=t.es:=λx=>by have:=t.h0 x;rw[o0,he] at this;simpa using this
 have hlt:blk<w.heap.size:=by
  have:=hB.obj
  rcases Nat.lt_or_ge blk w.heap.size with h|h
  ·exact h
  ·rw[hbk,Qjas h] at this;cases this
 have hobj:w.heap[blk]?=some (.cells cc tt (0,0)):=by rw[<- hbk];exact hB.obj
 have hgd:∀(l:List α) (j:Nat) (h:j<l.length),gL t l j=l[j]:=λl j h=>by simp[gL,Qjw,Qjj h]
 have hdm:∀q,q<n*t.es->q / t.es<n/\q % t.es<t.es/\(q / t.es)*t.es+q % t.es=q:=λq hq=>⟨Nat.div_lt_of_lt_mul (by rw[Nat.mul_comm];exact hq),Nat.mod_lt _ hes,Nat.div_add_mod' q t.es⟩
 have hrowAt:∀j,j<el.length->el[j]?=some (l9 el j):=λj hj=>by
  unfold l9;rw[D0,Qjj hj]
 have hH0:HoldsK enc t.es w blk 0 (slR t el 0 n).toArray:=by
  intro q hq;have hq:q<n*t.es:=by rw[size_flatK] at hq;simpa [hld] using hq
  obtain⟨e1,e2,e3⟩:=hdm q hq;rw[get_flatK _ _ _ _ (by simpa [hld] using hq),Ec6 _ _ (by rw[hld];exact e1),<- hgd _ _ (by rw[hld];exact e1)]
  have hcx:(l9 el (q / t.es))[q % t.es]?=some (.v ((enc (gL t (slR t el 0 n) (q / t.es)))[q % t.es]!)):=by
   rw[hrow _ e1,Qjy,Qjj (by rw[hk];exact e2),getElem!_pos _ _ (by rw[hk];exact e2)]
   rfl
  obtain⟨x',h5,h6⟩:=hB.cell (q / t.es) _ (q % t.es) _ (hrowAt _ (by omega)) hcx
  have h6:x'=(enc (gL t (slR t el 0 n) (q / t.es)))[q % t.es]! :=by cases h6;rfl
  subst h6;rw[hoff] at h5;simp only[e3,Qjb] at h5;constructor
  ·simp only[World.cell?,hobj,Qjb];simpa using h5
  ·simp[World.frozen?,hobj]
 have hds:(slR t el 0 n).toArray.size=n:=by simpa using hld
 have hmax:n<4611686018427387904:=by unfold room at hroom;omega
 have hcalls:=hcon blk cap (slR t el 0 n).toArray w (λoff size=>hcl blk off size w) hH0 hlt (by rw[hds];exact hmax)
 rw[hds] at hcalls;refine hcalls.mono λe w' ⟨h5,m,os,h6⟩=>⟨_,h5,ρ,F,?_⟩
 generalize hsd:srt (slR t el 0 n)=sd at *
 have hsl:sd.length=n:=by rw[<- hsd,hlen,hld]
 have h6:w'=grow (mapBlock (Sort.ahead w m) blk (putCells id 0 (flatK enc t.es sd.toArray))) os:=h6;have hw'size:w'.heap.size=w.heap.size+os.size:=by rw[h6];simp[mapBlock]
 have hold:∀k,k<w.heap.size->k≠blk->w'.heap[k]?=w.heap[k]?:=λk h7 h8=>by
  rw[h6];simp only[grow,mapBlock];rw[Qjx (by simpa using h7),Qjaw]
  simp[Ne.symm h8]
 have hnew:w'.heap[blk]?=some (.cells (putCells id 0 (flatK enc t.es sd.toArray) cc) tt (0,0)):=by
  rw[h6];simp only[grow,mapBlock];rw[Qjx (by simpa using hlt),Qjaw]
  simp[hobj,onCells]
 have hcells:∀b o,F b o->w'.cell? ⟨b,o,none⟩=w.cell? ⟨b,o,none⟩:=λb o hf=>by
  have h7:b≠blk:=λh8=>hnF o (h8 ▸ hf)
  have:=Qb5 (hH.frz b o hf)
  simp only[World.cell?,hold b this h7]
 have hpc:∀q,q<cc.size->(putCells id 0 (flatK enc t.es sd.toArray) cc)[q]?=if q<n*t.es then some ((enc sd.toArray[q / t.es]!)[q % t.es]!) else cc[q]?:=λq hq=>by
  simp only[putCells,Array.getElem?_mapIdx,Array.getElem?_eq_getElem hq,Option.map_some,size_flatK,Qjaa,true_and,Qjb,Nat.sub_zero,id]
  have:sd.toArray.size=n:=by simpa using hsl
  rw[this];split
  ·next h7=>rw[get_flatK _ _ _ _ (by rw[this];exact h7)]
  ·rfl
 have hel:(app (bL t sd) (l0 el n)).length=el.length:=by
  rw[H6,Qjd,<- o0 (bL t sd),P6,hsl,M9,Qjv];omega
 have hnrow:∀(j:Nat) r,(app (bL t sd) (l0 el n))[j]?=some r->(j<n/\r=t.row (gL t sd j))\/(n<=j/\el[j]?=some r):=λj r hr=>by
  have hlb:(bL t sd).length=n:=by rw[<- o0,P6,hsl]
  rw[H6] at hr
  rcases Nat.lt_or_ge j n with h7|h7
  ·rw[List.getElem?_append_left (by omega)] at hr
   left;refine⟨h7,?_⟩;unfold bL at hr;rw[p9,Qjy,Qjj (by omega)] at hr
   injection hr with hr;rw[<- hr,hgd sd j (by omega)]
  ·rw[List.getElem?_append_right (by omega),hlb,M9,List.getElem?_drop] at hr
   right;exact⟨h7,by rw[<- hr];congr 1;omega⟩
 have hcs:el.length*t.es<=cc.size:=by have:=hB.len;rw[hsize] at this;exact this
 refine⟨⟨⟨?_,?_,?_,by omega,λk h7 h8=>hold k h7 λh9=>h8 (h9 ▸ hW),hcells,?_⟩,λid b hb=>?_,λ_ _ h=>h,λ_ _ h=>.inl h,λid b' hb' hn'=>?_⟩,⟨λid b hb hd'=>?_,λid id' b b' hb hb' h7 h8 h9 h10=>?_,λb o hf=>by rw[hcells b o hf];exact hH.frz b o hf,λk hk'=>hH.new k (by omega)⟩,.ofv _⟩
 ·rw[h6];rfl
 ·rw[h6];rfl
 ·rw[h6];rfl
 ·rw[h6];exact Nat.le_add_right _ _
 ·match id,hb with
  |0,hb =>
   cases hb;exact⟨_,rfl,rfl,Qji _,λ_=>⟨rfl,rfl,by simp only[hel];exact Qji _⟩⟩
 ·match id,hb' with
  |0,hb'=>cases hb';exact absurd rfl (hn' ⟨et',t.es,el,true,false,0⟩ rfl)
 ·match id,hb with
  |0,hb =>
   cases hb;refine⟨_,tt,(0,0),by rw[hbk];exact hnew,?_,?_,?_,?_,λ_=>⟨rfl,by rw[hbk];exact hW,hoff,?_,by rw[hbk];exact hnF,het⟩,λh=>by cases h⟩
   ·rw[hoff,hsize];simp[putCells]
   ·simp only[hel];exact hB.len
   ·intro j r hr
    rcases hnrow j r hr with⟨_,h8⟩|⟨_,h8⟩
    ·rw[h8,<- o0];exact t.h0 _
    ·exact hB.rows j r h8
   ·intro j r c x hr hc;rw[hoff,Qjb]
    rcases hnrow j r hr with⟨h7,h8⟩|⟨h7,h8⟩
    ·subst h8;have hclt:c<t.es:=by
      have:=(List.getElem?_eq_some_iff.1 hc).1
      rw[<- o0,t.h0] at this;exact this
     have hq:j*t.es+c<n*t.es:=by
      have:=Qjag t.es (show j+1<=n from h7)
      rw[Nat.add_mul,Nat.one_mul] at this;omega
     have hqn:n*t.es<=el.length*t.es:=Qjag _ hn;have e1:(j*t.es+c) / t.es=j:=by rw[Nat.mul_comm,Nat.mul_add_div hes,Nat.div_eq_of_lt hclt,Nat.add_zero]
     have e2:(j*t.es+c) % t.es=c:=by rw[Nat.mul_comm,Nat.mul_add_mod,Nat.mod_eq_of_lt hclt]
     rw[he,Qjy,Qjj (by rw[hk];exact hclt)] at hc
     injection hc with hc;subst hc;refine⟨(enc (gL t sd j))[c]'(by rw[hk];exact hclt),?_,.v _ (h1 _ _ (List.getElem_mem _))⟩
     rw[hpc _ (Nat.lt_of_lt_of_le hq (Nat.le_trans hqn hcs)),if_pos hq,e1,e2,Ec6 _ _ (by omega),hgd sd j (by omega),getElem!_pos _ _ (by rw[hk];exact hclt)]
    ·obtain⟨x',h9,h10⟩:=hB.cell j r c x h8 hc;rw[hoff,Qjb] at h9;have hq:¬ j*t.es+c<n*t.es:=by
      have:=Qjag t.es h7
      omega
     have hlt':j*t.es+c<cc.size:=(Array.getElem?_eq_some_iff.1 h9).1;exact⟨x',by rw[hpc _ hlt',if_neg hq];exact h9,h10.adv (λ_ _ h=>h) hcells⟩
   ·rw[hsize];simp[putCells]
 ·match id,hb,id',hb' with
  |0,hb,0,hb'=>exact absurd rfl h10
end
end Go.Ev.L
namespace Go.Proofs
open Go.Shelf
set_option maxRecDepth 100000 in
def Ce.sortLay_ren:Go.Shelf.Ren:=⟨fun | 6=>121 | 15=>180 | 14=>179 | 28=>207 | 29=>208 | 20=>199 | 21=>200 | 22=>201 | 23=>202 | 24=>203 | 25=>204 | 26=>205 | 27=>206 | 46=>223 | 47=>224 | 48=>225 | 49=>226 | 50=>227 | 57=>233 | n=>n,fun | 22=>24 | 24=>73 | 25=>148 | 3=>3 | 39=>173 | 0=>0 | 53=>197 | 55=>199 | 4=>4 | 46=>191 | 45=>190 | 50=>50 | 5=>5 | 9=>9 | 66=>210 | 70=>214 | 76=>218 | 77=>219 | n=>n,fun | n=>n⟩
set_option maxRecDepth 100000 in
theorem Ce.sortLay:Go.Proofs.SlLaysF0.n6 Tryz.prog Ce.sortLay_ren:={
 mixed:=by kernel_rfl
 f6:=⟨Tryz.f121.name,by decide,Tryz.func121.trans (congrArg some (by kernel_rfl))⟩
 f14:=⟨Tryz.f179.name,by decide,Tryz.func179.trans (congrArg some (by kernel_rfl))⟩
 f15:=Tryz.func180.trans (congrArg some (by kernel_rfl))
 f20:=⟨Tryz.f199.name,by decide,Tryz.func199.trans (congrArg some (by kernel_rfl))⟩
 f21:=⟨Tryz.f200.name,by decide,Tryz.func200.trans (congrArg some (by kernel_rfl))⟩
 f22:=⟨Tryz.f201.name,by decide,Tryz.func201.trans (congrArg some (by kernel_rfl))⟩
 f23:=⟨Tryz.f202.name,by decide,Tryz.func202.trans (congrArg some (by kernel_rfl))⟩
 f24:=⟨Tryz.f203.name,by decide,Tryz.func203.trans (congrArg some (by kernel_rfl))⟩
 f25:=⟨Tryz.f204.name,by decide,Tryz.func204.trans (congrArg some (by kernel_rfl))⟩
 f26:=⟨Tryz.f205.name,by decide,Tryz.func205.trans (congrArg some (by kernel_rfl))⟩
 f27:=⟨Tryz.f206.name,by decide,Tryz.func206.trans (congrArg some (by kernel_rfl))⟩
 f28:=Tryz.func207.trans (congrArg some (by kernel_rfl))
 f29:=Tryz.func208.trans (congrArg some (by kernel_rfl))
 f46:=⟨Tryz.f223.name,by decide,Tryz.func223.trans (congrArg some (by kernel_rfl))⟩
 f47:=Tryz.func224.trans (congrArg some (by kernel_rfl))
 f48:=Tryz.func225.trans (congrArg some (by kernel_rfl))
 f49:=⟨Tryz.f226.name,by decide,Tryz.func226.trans (congrArg some (by kernel_rfl))⟩
 f50:=⟨Tryz.f227.name,by decide,Tryz.func227.trans (congrArg some (by kernel_rfl))⟩
 f57:=⟨Tryz.f233.name,by decide,Tryz.func233.trans (congrArg some (by kernel_rfl))⟩
 t0:=Tryz.underlying0
 a0:=Tryz.isAgg0
 z0:=Tryz.sizeOf0
 v0:=Tryz.zeroValue0
 t3:=Tryz.underlying3
 a3:=Tryz.isAgg3
 z3:=Tryz.sizeOf3
 v3:=Tryz.zeroValue3
 t4:=Tryz.underlying4
 a4:=Tryz.isAgg4
 z4:=Tryz.sizeOf4
 v4:=Tryz.zeroValue4
 t5:=Tryz.underlying5
 a5:=Tryz.isAgg5
 z5:=Tryz.sizeOf5
 v5:=Tryz.zeroValue5
 t9:=Tryz.underlying9
 a9:=Tryz.isAgg9
 z9:=Tryz.sizeOf9
 v9:=Tryz.zeroValue9
 t22:=Tryz.underlying24
 a22:=Tryz.isAgg24
 z22:=Tryz.sizeOf24
 v22:=Tryz.zeroValue24
 t25:=Tryz.underlying148
 a25:=Tryz.isAgg148
 z25:=Tryz.sizeOf148
 v25:=Tryz.zeroValue148
 t39:=Tryz.underlying173
 a39:=Tryz.isAgg173
 z39:=Tryz.sizeOf173
 v39:=Tryz.zeroValue173
 t45:=Tryz.underlying190
 a45:=Tryz.isAgg190
 z45:=Tryz.sizeOf190
 v45:=Tryz.zeroValue190
 t46:=Tryz.underlying191
 a46:=Tryz.isAgg191
 z46:=Tryz.sizeOf191
 v46:=Tryz.zeroValue191
 t50:=Tryz.underlying50
 a50:=Tryz.isAgg50
 z50:=Tryz.sizeOf50
 v50:=Tryz.zeroValue50
 t53:=Tryz.underlying197
 a53:=Tryz.isAgg197
 z53:=Tryz.sizeOf197
 v53:=Tryz.zeroValue197
 t55:=Tryz.underlying199
 a55:=Tryz.isAgg199
 z55:=Tryz.sizeOf199
 v55:=Tryz.zeroValue199
 t66:=Tryz.underlying210
 a66:=Tryz.isAgg210
 z66:=Tryz.sizeOf210
 v66:=Tryz.zeroValue210
 t70:=Tryz.underlying214
 a70:=Tryz.isAgg214
 z70:=Tryz.sizeOf214
 v70:=Tryz.zeroValue214
 t76:=Tryz.underlying218
 a76:=Tryz.isAgg218
 z76:=Tryz.sizeOf218
 v76:=Tryz.zeroValue218
 t77:=Tryz.underlying219
 a77:=Tryz.isAgg219
 z77:=Tryz.sizeOf219
 v77:=Tryz.zeroValue219 }
end Go.Proofs
namespace Go.Ev.Ce
open Go Go.Ev Go.Ev.L Go.Proofs Go.Sort
def Bb1(x y:Int):Int:=if x<y then -1 else if x>y then 1 else 0
def ma0(x y:Pln):Int :=
 if Bb1 x.n.x y.n.x=0 then if Bb1 x.n.y y.n.y=0 then if Bb1 x.n.z y.n.z=0 then Bb1 x.b y.b else Bb1 x.n.z y.n.z else Bb1 x.n.y y.n.y else Bb1 x.n.x y.n.x
theorem Yc8(x y:Int):Bb1 x y<0↔x<y:=by unfold Bb1;split<;>(try split)<;>omega
theorem Ld2(x y:Int):Bb1 x y=0↔x=y:=by unfold Bb1;split<;>(try split)<;>omega
def LtP(x y:Pln):Prop:=x.n.x<y.n.x\/x.n.x=y.n.x/\(x.n.y<y.n.y\/x.n.y=y.n.y/\(x.n.z<y.n.z\/x.n.z=y.n.z/\x.b<y.b))
instance(x y:Pln):Decidable (LtP x y):=by unfold LtP;exact inferInstance
theorem Ld3(x y:Pln):ma0 x y<0↔LtP x y:=by
 have h1:=Yc8 x.n.x y.n.x;have h2:=Ld2 x.n.x y.n.x;have h3:=Yc8 x.n.y y.n.y;have h4:=Ld2 x.n.y y.n.y;have h5:=Yc8 x.n.z y.n.z;have h6:=Ld2 x.n.z y.n.z;have h7:=Yc8 x.b y.b;unfold ma0 LtP;split
 ·split
  ·split<;>omega
  ·omega
 ·omega
theorem hb9(x y:Pln):ltOf ma0 x y=decide (LtP x y):=by
 unfold ltOf;rw[decide_eq_decide];exact Ld3 x y
theorem If2:SWO (ltOf ma0) where
 irrefl x:=by rw[hb9];simp[LtP]
 trans x y z h1 h2:=by rw[hb9,decide_eq_true_eq] at *;unfold LtP at *;omega
 ntrans x y z h1 h2:=by rw[hb9,decide_eq_false_iff_not] at *;unfold LtP at *;omega
theorem Uf8(x y:Pln)(h1:ltOf ma0 x y=false)(h2:ltOf ma0 y x=false):x=y:=by
 rw[hb9,decide_eq_false_iff_not] at *
 unfold LtP at *
 obtain⟨⟨a,b,c⟩,d⟩:=x;obtain⟨⟨a',b',c'⟩,d'⟩:=y
 simp only at *
 have:a=a'/\b=b'/\c=c'/\d=d':=by omega
 obtain⟨rfl,rfl,rfl,rfl⟩:=this;rfl
theorem ae4(x y:Int):Sa0 x y=some (i (Bb1 x y),[]):=by
 unfold Sa0 Bb1;simp only[xb6,decide_eq_true_eq]
 split<;>(try split)<;>rfl
theorem ff6(x y:Int):va1 x y=Bb1 x y:=by unfold va1;rw[ae4];rfl
theorem ff7(x y:Int):va2 x y=true:=by unfold va2;rw[ae4];rfl
theorem kd5(x y:Pln):Da1 x y=some (i (ma0 x y),[]):=by
 unfold Da1 ma0;simp only[ff6,ff7,xb6,beq_iff_eq,if_true]
 repeat' (first | rfl | split)
theorem If3(x y:Pln):Ta8 x y=ma0 x y:=by unfold Ta8;rw[kd5];rfl
theorem If4(x y:Pln):Ta9 x y=true:=by unfold Ta9;rw[kd5];rfl
theorem If5(x y:Pln):(rb0 [.agg (tP.row x),.agg (tP.row y)] []).run=some (i (ma0 x y),[]):=by
 have:(rb0 [.agg (tP.row x),.agg (tP.row y)] []).run=sel (Ta9 x y) (some (i (Ta8 x y),[])) none:=by kernel_rfl
 rw[this,If4,If3]
def Jc3(p:Pln):List Value:=[.int .i64 p.n.x,.int .i64 p.n.y,.int .i64 p.n.z,.int .i64 p.b]
instance:Inhabited Pln:=⟨⟨⟨0,0,0⟩,0⟩⟩
def Wa8(l:List Pln):List Pln:=l.mergeSort λx y=>!ltOf ma0 y x
theorem mc5(l:List Pln):(Wa8 l).length=l.length:=List.length_mergeSort l
noncomputable def xa8:Sum:=Qe9 tP 122 73 Wa8
theorem Re0:Ce.sortLay_ren.f 6=121:=by kernel_rfl
theorem Ad8:Ce.sortLay_ren.t 24=73:=by kernel_rfl
set_option maxRecDepth 100000 in
theorem Sa1:i5 prog G 121 xa8:=by
 refine ff5 (enc:=Jc3) (cf:=ma0) ⟨_,Tryz.func121,by kernel_rfl,of_decide_eq_true (by kernel_rfl)⟩ (by decide) (λ_=>rfl) (λr h=>fb5 (n:=4) h) (λx v hv=>?_) mc5
  (λblk off size w=>ff4 Mc1 If5 (λ_=>rfl) (λ_=>rfl) _ _ _ _ _) (λblk cap d w hcl hH hb hs=>?_)
 ·simp[Jc3] at hv
  rcases hv with rfl|rfl|rfl|rfl<;>rfl
 ·have eg:∀args w,(callFunc 122 args).run Tryz.prog w=.ok (.enter 122 args) w:=enters_of Tryz.func122 (by kernel_rfl) rfl
  have:=AnyQ.slices_SortFunc Ce.sortLay 4 (by rw[Ad8];exact Tryz.isAgg73) (by rw[Ad8];exact Tryz.sizeOf73) Jc3 (λ_=>rfl) (λx v hv=>by simp[Jc3] at hv;rcases hv with rfl | rfl | rfl | rfl<;>rfl) ma0 If2 122 #[] blk 0 cap d w eg (hcl 0 d.size) hH hb hs
  rw[Re0] at this;refine this.mono λe w' ⟨h1,d',n,os,h2,h3,h4⟩=>⟨h1,n,os,?_⟩
  have h5:=sorted_unique_holds If2 Uf8 d d' h2 h3;rw[h4];show _=sortWorldK Jc3 4 w blk 0 n (d.toList.mergeSort λx y=>!ltOf ma0 y x).toArray os
  rw[<- h5]
end Go.Ev.Ce
namespace Go.Ev.Ce
open Go Go.Ev Go.Ev.L Go.Proofs
set_option maxRecDepth 100000
noncomputable def Yb9:List (Nat×Sum):=[]
theorem Ub9:i9 prog G Yb9:=trivial
structure ta1 where
 (alt ns0:Nat)
 eh0:List (List b7)
noncomputable def V9{α:Type}(kk:ta1->α)(x:Pln×List Pln):α:=(sl (Nat.beq 0 0&&Nat.ble ((0+(len (p5 (λk=>(tP).row (gL tP (x.1::x.2) k)) (List.range (List.length x.2+1)))))*32) room) (kk ⟨1,(0+(len (p5 (λk=>(tP).row (gL tP (x.1::x.2) k)) (List.range (List.length x.2+1))))),(app [] (p5 (λk=>(tP).row (gL tP (x.1::x.2) k)) (List.range (List.length x.2+1))))⟩) (kk ⟨0,0,[]⟩))
noncomputable def ta2(x:Pln×List Pln):ta1:=V9 (λr=>r) x
noncomputable def Fa8(r:ta1):DT (b7×List b8):=(.ite (Nat.beq r.alt 1) (.ret (.sl 0 0 r.ns0 0,[⟨73,4,r.eh0,true,false,0⟩])) .fail)
theorem ic0{α β:Type}(F:α->β)(kk:ta1->α)(x:Pln×List Pln):F (V9 kk x)=V9 (λr=>F (kk r)) x:=by unfold V9;(repeat' apply m0 (f:=F))<;>rfl
noncomputable def nb8:Sum:=X7 (Ie5 tP) (λx=>Fa8 (ta2 x))
theorem Zb0:i5 prog G 151 nb8:=Fb2 (bd uf1 Ub9) λx=>y8 (Qjk (b:=V9 (λr=>(Fa8 r).run) x) (by kernel_rfl) (ic0 (λr=>(Fa8 r).run) (λr=>r) x).symm)
noncomputable def Ld4:List (Nat×Sum):=[(55,Wa5),(113,jb4),(151,nb8),(150,qa9),(121,xa8),(154,Aa3)]
theorem td4:i9 prog G Ld4:=⟨ab6,Ab1,Zb0,Ka3,Sa1,Wa7,trivial⟩
noncomputable def nb9(x:Pln×List Pln):Option (b7×List b8):=let t1:=(ya9 (rt tP (x.1::x.2)));let t2:=(Ea4 (rt tP (x.1::x.2)));let t3:=(ta2 (hC tP (λk=>(tP).row (gL tP (x.1::x.2) k)),tC tP (List.length x.2) (λk=>(tP).row (gL tP (x.1::x.2) k))));let t4:=(J5 ⟨t3.ns0,t3.eh0,rt tX t2⟩);let t5:=(Z3 ⟨t4.ns0,app (bL tP (Wa8 (slR tP t4.eh0 0 t4.ns0))) (l0 t4.eh0 t4.ns0)⟩);(sl (okE tP (x.1::x.2)) (sl (za0 (rt tP (x.1::x.2))) (sl (!t1) (some (.v (.slice none 0 0),[])) (sl (okE tP (x.1::x.2)) (sl (Ea5 (rt tP (x.1::x.2))) (sl (okL tP (List.length x.2+1) (λk=>(tP).row (gL tP (x.1::x.2) k))) (sl (Nat.beq t3.alt 1) (sl ((cnE tX t2)&&true) (sl (Nat.beq t4.alt 1) (sl (Bool.and (Nat.ble t4.ns0 room) (Bool.and (Nat.ble t4.ns0 (len t4.eh0)) (okS tP t4.eh0 0 t4.ns0))) (sl (Nat.beq t5.alt 1) (some (.sl 0 0 t5.ns0 0,[⟨73,4,t5.eh0,true,false,0⟩])) none) none) none) none) none) none) none) none)) none) none)
noncomputable def Rc4(x:Pln×List Pln):List Pln:=O3 (one (r1L tP)) (nb9 x)
noncomputable def Rc5(x:Pln×List Pln):Bool:=okO (one (r1L tP)) (nb9 x)
noncomputable def ae5:Sum:=X7 (Ie5 tP) (λx=>.guard (Rc5 x) (.ret ((one (r1L tP)).enc (Rc4 x),[])))
theorem Ld5:i5 prog G 98 ae5:=Ha5 (bd b98 td4) (one (r1L tP)) (o:=nb9) λx=>y8 (by kernel_rfl)
noncomputable def onc(X:List Pt)(p:Pln):Nat:=X.countP λx=>rm p x==0
noncomputable def keep(X:List Pt)(p:Pln):Bool:=!decide ((onc X p:Int)<3)
theorem kd6(p:Pln)(X:List Pt)(hX:X.length<=1000000000):ua8 ⟨p.n.x,p.n.y,p.n.z,p.b,X⟩=⟨1,!keep X p,X⟩:=by
 have h:=Ac6 (step:=xa5 ⟨X,(X.length:Int),X,p.n.x,p.n.y,p.n.z,p.b⟩) (mk:=λj (n:Nat)=>(⟨(n:Int),(j:Int)⟩:U9)) (f:=λn x=>if rm p x==0 then n+1 else n) (fin:=1) tX X (λj n=>n<=j) hX
  (λj n hj hi=>by
   have hW:W ((n:Int)+1)=((n+1:Nat):Int):=by rw[ia4 (by omega) (by omega)];omega
   refine⟨?_,by show (if rm p (gL tX X j)==0 then n+1 else n)<=j+1;split<;>omega⟩
   simp only[xa5,ta0,Int.toNat_natCast,Jd1,hW,o3 hj (show X.length<=4611686018427387904 by omega)]
   rw[btD (g9 hj),bt (f7 hj)];cases rm p (gL tX X j)==0<;>rfl)
  (λn _=>by simp only[xa5,ta0];rw[bfD (m9 (Qjba _))]) 0 (Qjaa _) 0 (Qji _)
 have h:=h.1;have e:∀(l:List Pt) (n:Nat),l.foldl (λn x=>if rm p x==0 then n+1 else n) n=n+l.countP λx=>rm p x==0:=by
  intro l
  induction l with
  |nil=>intro n;rfl
  |cons x l ih =>
   intro n;rw[List.foldl_cons,ih,List.countP_cons]
   split<;>omega
 rw[Qjax,e,Qjb] at h;unfold ua8 Ea8 keep onc;simp only[i6,i8];rw[show (⟨0,0⟩:U9)=⟨((0:Nat):Int),((0:Nat):Int)⟩ from rfl,h]
 show Ea7.mk 1 (decide _) X=Ea7.mk 1 (!(!(decide _))) X;rw[Bool.not_not]
theorem ff8(l:List Pln)(X:List Pt)(hl:l.length<=1000000000)(hX:X.length<=1000000000):ca3 ⟨l.length,bL tP l,X⟩=⟨1,if l.any (λp=>!keep X p) then ((l.findIdx (λp=>!keep X p):Nat):Int) else -1,X⟩:=by
 have h:=Ta1 (step:=L3 ⟨l.length,(l.length:Int),bL tP l⟩) (mk:=λj=>(⟨(j:Int),X⟩:r7)) (c:=λp=>!keep X p) (u:=1) (fin:=2) tP l hl
  (λj hj=>by
   simp only[L3,I1,Int.toNat_natCast,i6,i8,Yc5 hj,Ec4 hj,kd6 _ _ hX,o3 hj (show l.length<=4611686018427387904 by omega)]
   rw[btD (g9 hj),bt (f7 hj)]
   rfl)
  (by simp only[L3,I1];rw[bfD (m9 (Qjba _))]) 0 (Qjaa _)
 rw[Qjax] at h;unfold ca3 J3;simp only[i6,i8];rw[show (⟨0,X⟩:r7)=⟨((0:Nat):Int),X⟩ from rfl,h]
 cases ha:l.any λp=>!keep X p with
 |false=>rfl
 |true =>
  have hf:l.findIdx (λp=>!keep X p)<l.length:=by
   rw[Qjac] at ha;obtain⟨p,hp,hc⟩:=ha;exact Qjad ⟨p,hp,hc⟩
  simp only[if_true,Qjb,Int.toNat_natCast,Ec4 hf,kd6 _ _ hX,i6];rfl
theorem Ec7{α:Type}(c:α->Bool):∀l:List α,(l.take (l.findIdx c)).filter (λx=>!c x)=l.take (l.findIdx c)
 |[]=>rfl
 |x::l=>by
  rw[Qjam];cases h:c x with
  |true=>rfl
  |false =>
   simp only[cond_false,List.take_succ_cons,Qjae,h,Bool.not_false,if_true];rw[Ec7 c l]
theorem le9{α:Type}(l:List α)(j:Nat)(h:j<l.length):l.take (j+1)=l.take j++[l[j]]:=by rw[Qjn h]
theorem Yc9{α:Type}(t:Ty α){l:List α}{j:Nat}(h:j<l.length):l.take (j+1)=l.take j++[gL t l j]:=by rw[le9 l j h,Wa0 t h]
theorem Mc2{α:Type}(t:Ty α){l r:List α}{j:Nat}(h:l.drop j=r.drop j):gL t l j=gL t r j:=by
 have h1:=Dc6 t l j 0;have h2:=Dc6 t r j 0;rw[Nat.add_zero] at h1 h2;rw[<- h1,<- h2,h]
theorem Ec8{α:Type}{l r:List α}{j:Nat}(h:l.drop j=r.drop j)(k:Nat):l.drop (j+k)=r.drop (j+k):=by rw[<- List.drop_drop,<- List.drop_drop,h]
structure Del(l:List Pln)(f:Pln->Bool)(cur:List Pln)(m j:Nat):Prop where
 len:cur.length=l.length
 t:cur.take m=(l.take j).filter f
 d:cur.drop j=l.drop j
 le:m<=j
 lm:m<=l.length
theorem ae6 (l : List Pln) (X : List Pt) (hl : l.length ≤ 1000000000) (hX : X.length ≤ 1000000000) (m j : Nat) (cur : List Pln) (hd : Del l (keep X) cur m j) :
  ∃t s,lp (E5 ⟨l.length⟩) ⟨(m:Int),(j:Int),bL tP cur,X⟩=(t,s)/\(t=1/\∃m' cur' k,s=⟨((m':Nat):Int),((k:Nat):Int),bL tP cur',X⟩/\Del l (keep X) cur' m' k/\l.length<=k):=by
 refine W9 (step:=E5 ⟨l.length⟩) (mk:=λj (x:Nat×List Pln)=>(⟨(x.1:Int),(j:Int),bL tP x.2,X⟩:w8)) l.length (λj x=>Del l (keep X) x.2 x.1 j) (λt s=>t=1/\∃m' cur' k,s=⟨((m':Nat):Int),((k:Nat):Int),bL tP cur',X⟩/\Del l (keep X) cur' m' k/\l.length<=k) hl (λj x hj hx=>?_) (λj x hj hx=>?_) j (m,cur) hd
 ·obtain⟨m,cur⟩:=x;obtain⟨h1,h2,h3,h4,h5⟩:=hx
  simp only at h1 h2 h3 h4 h5
  have hjc:j<cur.length:=by omega
  have hmc:m<cur.length:=by omega
  have hg:gL tP cur j=gL tP l j:=Mc2 tP h3;have hWm:W ((m:Int)+1)=((m+1:Nat):Int):=by rw[ia4 (by omega) (by omega)];omega
  have hb:Nat.blt m cur.length=true:=by rw[Qjao];exact hmc
  have hrow:l9 (bL tP cur) m=tP.row (gL tP cur m):=P7 tP hmc;have sp:∀(v:Pln) (x1 x2 x3 x4:Int),da7 (tP.row v) 0 [i x1,i x2,i x3,i x4]=tP.row ⟨⟨x1,x2,x3⟩,x4⟩:=λ_ _ _ _ _=>rfl
  have rl:∀v:Pln,Nat.ble (0+4) (len (tP.row v))=true:=λ_=>rfl
  simp only[E5,I4,Int.toNat_natCast,i6,i8,Yc5 hjc,Ec4 hjc,kd6 _ _ hX,o3 hj (show l.length<=4611686018427387904 by omega),hWm]
  rw[btD (g9 hj),bt (f7 hj)];simp only[Qjb,hrow,P6,hb,sp,dc0,f7 (show m<l.length by omega),hg]
  have ht:=Yc9 tP hj;have hd1:cur.drop (j+1)=l.drop (j+1):=Ec8 h3 1;cases hk:keep X (gL tP l j) with
  |true =>
   refine .nx ⟨(m+1,cur.set m (gL tP l j)),rfl,⟨by rw[Qjm];exact h1,?_,?_,by omega,by show m+1<=l.length;omega⟩⟩
   ·show (cur.set m (gL tP l j)).take (m+1)=_;rw[ht,Qjak,Qjn (by rw[Qjm];exact hmc),Qjay,List.take_set_of_le (Qji _),h2,Qjae,hk,if_pos rfl,List.filter_nil]
   ·show (cur.set m (gL tP l j)).drop (j+1)=_;rw[List.drop_set_of_lt (by omega),hd1]
  |false =>
   refine .nx ⟨(m,cur),rfl,⟨h1,?_,hd1,by omega,h5⟩⟩
   show cur.take m=_;rw[ht,Qjak,h2,Qjae,hk,if_neg (by simp),List.filter_nil,Qjah]
 ·obtain⟨m,cur⟩:=x;refine⟨1,?_,rfl,m,cur,j,rfl,hx,hj⟩;simp only[E5,I4];rw[bfD (by omega)]
theorem se9(l:List Pln)(n:Nat):K1 (bL tP l) n=bL tP (l.take n):=by unfold bL;rw[M8,p9,p9,List.map_take]
theorem Ld6(l:List Pln)(n:Nat):l0 (bL tP l) n=bL tP (l.drop n):=by unfold bL;rw[M9,p9,p9,List.map_drop]
theorem te0(n:Nat):List.replicate n [i 0,i 0,i 0,i 0]=bL tP (List.replicate n ⟨⟨0,0,0⟩,0⟩):=by unfold bL;rw[p9,List.map_replicate];rfl
theorem Ad9 (l : List Pln) (X : List Pt) (hl : l.length ≤ 1000000000) (hX : X.length ≤ 1000000000) :
  ∃m r,J5 ⟨l.length,bL tP l,X⟩=⟨1,m,bL tP r,X⟩/\m<=r.length/\r.take m=l.filter (keep X)/\r.length=l.length:=by
 unfold J5 J4;simp only[i6,i8,ff8 l X hl hX];cases ha:l.any λp=>!keep X p with
 |false =>
  refine⟨l.length,l,rfl,Qji _,?_,rfl⟩;rw[List.take_length]
  symm
  rw[List.filter_eq_self];intro p hp
  have:=List.any_eq_false.1 ha p hp
  simpa using this
 |true =>
  have hf:l.findIdx (λp=>!keep X p)<l.length:=by
   rw[Qjac] at ha;obtain⟨p,hp,hc⟩:=ha;exact Qjad ⟨p,hp,hc⟩
  have hk:keep X (gL tP l (l.findIdx λp=>!keep X p))=false:=by
   have:=List.findIdx_getElem (xs:=l) (p:=λp=>!keep X p) (w:=hf)
   rw[Wa0 tP hf];simpa using this
  have ht:=Ec7 (λp=>!keep X p) l
  simp only[Bool.not_not] at ht;generalize hF:l.findIdx (λp=>!keep X p)=F at *
  have hW:W ((F:Int)+1)=((F+1:Nat):Int):=o3 hf (by omega)
  have hne:((F:Int)==-1)=false:=by rw[beq_eq_false_iff_ne];omega
  obtain⟨t,s,e1,rfl,m,cur,k,e2,e3,e4⟩:=ae6 l X hl hX F (F+1) l ⟨rfl,by rw[Yc9 tP hf,Qjak,ht,Qjae,hk,if_neg (by simp),List.filter_nil,Qjah],rfl,by omega,by omega⟩
  have hm:m<=l.length:=e3.lm;have hin:inB (m:Int) (l.length+1)=true:=f7 (by omega)
  have hfin:cur.take m=l.filter (keep X):=by rw[e3.t,Qjat e4]
  simp only[if_true,hW,hne,e1,e2,Int.toNat_natCast,hin,Qjb,Nat.sub_zero];refine⟨m,cur.take m++(List.replicate (l.length-m) ⟨⟨0,0,0⟩,0⟩++cur.drop (m+(l.length-m))),?_,?_,?_,?_⟩
  ·rw[se9,te0,Ld6,Ua7,Ua7];rfl
  ·rw[Qjd,Qjd,Qjc,Qjaz,e3.len];omega
  ·rw[Qjs (by rw[Qjc,e3.len];omega),List.take_take,Nat.min_self,hfin]
  ·rw[Qjd,Qjd,Qjc,Qjaz,Qjv,e3.len];omega
def eqP(x y:Pln):Bool:=x.n.x==y.n.x&&(x.n.y==y.n.y&&(x.n.z==y.n.z&&(x.b==y.b&&true)))
theorem Gb5(x y:Pln):eqP x y=true↔x=y:=by
 unfold eqP;simp only[Qjp,Qju,beq_iff_eq];refine⟨λ⟨h1,h2,h3,h4⟩=>?_,λh=>by subst h;exact⟨rfl,rfl,rfl,rfl⟩⟩
 obtain⟨⟨x1,x2,x3⟩,x4⟩:=x;obtain⟨⟨y1,y2,y3⟩,y4⟩:=y
 simp only at h1 h2 h3 h4
 subst h1 h2 h3 h4;rfl
def ddF:Pln->List Pln->List Pln
 |_,[]=>[]
 |a,x::l=>if eqP x a then ddF x l else x::ddF x l
def dd:List Pln->List Pln
 |[]=>[]
 |x::l=>x::ddF x l
theorem te1:∀(a:Pln) (l:List Pln),(ddF a l).length<=l.length
 |_,[]=>Qji _
 |a,x::l=>by
  have:=te1 x l
  unfold ddF
  split<;>simp only[List.length_cons]<;>omega
structure Cmp(l:List Pln)(n:Nat)(cur:List Pln)(m j:Nat)(R:List Pln):Prop where
 len:cur.length=l.length
 t:cur.take m++ddF (gL tP l (j-1)) ((l.take n).drop j)=R
 d:cur.drop (j-1)=l.drop (j-1)
 le:m+1<=j
theorem Ld7 (l : List Pln) (n o : Nat) (hn : n ≤ l.length) (hl : l.length ≤ 1000000000) (ho : o < n) (m : Nat) (cur : List Pln) (R : List Pln) (hd : Cmp l n cur m (o + 1) R) :
  ∃t s,lp (w6 ⟨n,0+o,n-o⟩) ⟨(m:Int),((1:Nat):Int),bL tP cur⟩=(t,s)/\(t=1/\∃m' cur' k,s=⟨((m':Nat):Int),k,bL tP cur'⟩/\cur'.length=l.length/\cur'.take m'=R/\m'<=n):=by
 refine W9 (step:=w6 ⟨n,0+o,n-o⟩) (mk:=λj (x:Nat×List Pln)=>(⟨(x.1:Int),(j:Int),bL tP x.2⟩:r9)) (n-o) (λj x=>Cmp l n x.2 x.1 (o+j) R/\1<=j/\x.1<=n) (λt s=>t=1/\∃m' cur' k,s=⟨((m':Nat):Int),k,bL tP cur'⟩/\cur'.length=l.length/\cur'.take m'=R/\m'<=n) (by omega) (λj x hj hx=>?_) (λj x hj hx=>?_) 1 (m,cur) ⟨hd,Qji _,by have:=hd.le;show m<=n;omega⟩
 ·obtain⟨m,cur⟩:=x;obtain⟨⟨h1,h2,h3,h4⟩,hj1,hmn⟩:=hx
  simp only at h1 h2 h3 h4 hmn
  have hoj:o+j<n:=by omega
  have hjc:o+j<cur.length:=by omega
  have hjc':o+(j-1)<cur.length:=by omega
  have hmc:m<cur.length:=by omega
  have hg':gL tP cur (o+(j-1))=gL tP l (o+j-1):=by rw[show o+(j-1)=o+j-1 by omega];exact Mc2 tP h3
  have hd1:cur.drop (o+j)=l.drop (o+j):=by have:=Ec8 h3 1;rw[show o+j-1+1=o+j by omega] at this;exact this
  have hg:gL tP cur (o+j)=gL tP l (o+j):=Mc2 tP hd1;have hWm:W ((m:Int)+1)=((m+1:Nat):Int):=by rw[ia4 (by omega) (by omega)];omega
  have hWj:W ((j:Int)-1)=((j-1:Nat):Int):=by rw[ia4 (by omega) (by omega)];omega
  have hb:Nat.blt m cur.length=true:=by rw[Qjao];exact hmc
  have hrow:l9 (bL tP cur) m=tP.row (gL tP cur m):=P7 tP hmc;have sp:∀(v:Pln) (x1 x2 x3 x4:Int),da7 (tP.row v) 0 [i x1,i x2,i x3,i x4]=tP.row ⟨⟨x1,x2,x3⟩,x4⟩:=λ_ _ _ _ _=>rfl
  have rl:∀v:Pln,Nat.ble 4 (len (tP.row v))=true:=λ_=>rfl
  simp only[w6,O8,Int.toNat_natCast,Qjb,hWj,ie4 tP hjc,ie4 tP hjc',ie3 tP hjc,ie3 tP hjc',o3 hj (show n-o<=4611686018427387904 by omega),hWm,hg,hg',hrow,P6,hb,sp,rl,dc0,f7 (show m<n by omega)]
  rw[btD (g9 hj)];simp only[f7 hj,f7 (show j-1<n-o by omega),g8,Bool.and_self]
  rw[show ((gL tP l (o+j)).n.x==(gL tP l (o+j-1)).n.x&&((gL tP l (o+j)).n.y==(gL tP l (o+j-1)).n.y&&((gL tP l (o+j)).n.z==(gL tP l (o+j-1)).n.z&&((gL tP l (o+j)).b==(gL tP l (o+j-1)).b&&true))))=eqP (gL tP l (o+j)) (gL tP l (o+j-1)) from rfl]
  have hcons:(l.take n).drop (o+j)=gL tP l (o+j)::(l.take n).drop (o+(j+1)):=by
   rw[Qjap (by rw[Qjc];omega),List.getElem_take,Wa0 tP (by omega)]
   rfl
  rw[hcons] at h2;have hlast:o+(j+1)-1=o+j:=by omega
  unfold ddF at h2;cases he:eqP (gL tP l (o+j)) (gL tP l (o+j-1)) with
  |true =>
   rw[he] at h2;simp only[if_true] at h2;refine .nx ⟨(m,cur),rfl,⟨⟨h1,?_,?_,by show m+1<=o+(j+1);omega⟩,by omega,hmn⟩⟩
   ·rw[hlast];exact h2
   ·rw[hlast];exact hd1
  |false =>
   rw[he] at h2;simp only[Bool.false_eq_true,if_false] at h2;refine .nx ⟨(m+1,cur.set m (gL tP l (o+j))),rfl,⟨⟨by rw[Qjm];exact h1,?_,?_,by show m+1+1<=o+(j+1);omega⟩,by omega,by show m+1<=n;omega⟩⟩
   ·rw[hlast];show (cur.set m (gL tP l (o+j))).take (m+1)++_=R;rw[Qjn (by rw[Qjm];exact hmc),Qjay,List.take_set_of_le (Qji _),Qjan]
    exact h2
   ·rw[hlast];show (cur.set m (gL tP l (o+j))).drop (o+j)=_;rw[List.drop_set_of_lt (by omega),hd1]
 ·obtain⟨m,cur⟩:=x;obtain⟨⟨h1,h2,h3,h4⟩,hj1,hmn⟩:=hx
  simp only at h1 h2 h3 h4 hmn
  refine⟨1,?_,rfl,m,cur,_,rfl,h1,?_,hmn⟩
  ·simp only[w6,O8];rw[bfD (by omega)]
  ·rw[Qjau (by rw[Qjc];omega)] at h2
   unfold ddF at h2;rw[Qjah] at h2;exact h2
theorem kd7 (l : List Pln) (n : Nat) (hn : n ≤ l.length) (hl : l.length ≤ 1000000000) :
  ∃m r,Z3 ⟨n,bL tP l⟩=⟨1,m,bL tP r⟩/\m<=r.length/\r.take m=dd (l.take n):=by
 unfold Z3 Q3
 simp only
 by_cases h2:(n:Int)<2
 ·rw[btD h2];refine⟨n,l,rfl,hn,?_⟩
  have:n=0\/n=1:=by omega
  rcases this with rfl|rfl
  ·rfl
  ·cases l with
   |nil=>rfl
   |cons x l=>rfl
 ·rw[bfD h2];have h1n:1<=n:=by omega
  have hI : ∀ j, j < n → 1 ≤ j → l.take j ++ ddF (gL tP l (j - 1)) ((l.take n).drop j) = dd (l.take n) →
    (eqP (gL tP l j) (gL tP l (j-1))=true->Cmp l n l j (j+1) (dd (l.take n)))/\(eqP (gL tP l j) (gL tP l (j-1))=false->l.take (j+1)++ddF (gL tP l (j+1-1)) ((l.take n).drop (j+1))=dd (l.take n)):=by
   intro j hj hj1 hR;have hcons:(l.take n).drop j=gL tP l j::(l.take n).drop (j+1):=by
    rw[Qjap (by rw[Qjc];omega),List.getElem_take,Wa0 tP (by omega)]
   rw[hcons] at hR;unfold ddF at hR;constructor
   ·intro he;rw[he] at hR;simp only[if_true] at hR;exact⟨rfl,hR,rfl,Qji _⟩
   ·intro he;rw[he] at hR;simp only[Bool.false_eq_true,if_false] at hR;rw[Yc9 tP (show j<l.length by omega),Qjan]
    exact hR
  have inner:∀k,k<n->1<=k->Cmp l n l k (k+1) (dd (l.take n))->∃m' cur' k',lp (w6 ⟨n,0+k,n-k⟩) ⟨(k:Int),1,bL tP l⟩=(1,⟨((m':Nat):Int),k',bL tP cur'⟩)/\cur'.length=l.length/\cur'.take m'=dd (l.take n)/\m'<=n:=by
   intro k hk hk1 hc;obtain⟨t,s,e1,rfl,m',cur',k',rfl,e2,e3,e4⟩:=Ld7 l n k hn hl hk k l _ hc;exact⟨m',cur',k',e1,e2,e3,e4⟩
  have key:=W9 (step:=R8 ⟨n,bL tP l⟩) (mk:=λj (_:Unit)=>(⟨(j:Int)⟩:y6)) n (λj _=>1<=j/\j<=n/\l.take j++ddF (gL tP l (j-1)) ((l.take n).drop j)=dd (l.take n))
   (λt s=>(t=1/\∃k:Nat,s=⟨(k:Int)⟩/\k<n/\1<=k/\Cmp l n l k (k+1) (dd (l.take n)))\/(t=2/\l.take n=dd (l.take n))) (by omega) (λj x hj hx=>?_) (λj x hj hx=>?_) 1 () ⟨Qji _,h1n,by
    cases l with
    |nil=>simp only[List.length_nil] at hn;omega
    |cons x l =>
     cases n with
     |zero=>omega
     |succ n=>rfl⟩
  ·obtain⟨t,s,e1,e2⟩:=key;rw[show (⟨1⟩:y6)=⟨((1:Nat):Int)⟩ from rfl,e1]
   rcases e2 with⟨rfl,k,rfl,hk,hk1,hc⟩|⟨rfl,he⟩
   ·obtain⟨m',cur',k',e2,e3,e4,e5⟩:=inner k hk hk1 hc;simp only[Int.toNat_natCast,e2];simp only[Qjb,Nat.sub_zero];refine⟨m',cur'.take m'++(List.replicate (n-m') ⟨⟨0,0,0⟩,0⟩++cur'.drop (m'+(n-m'))),?_,?_,?_⟩
    ·rw[se9,te0,Ld6,Ua7,Ua7];rfl
    ·rw[Qjd,Qjc,e3];omega
    ·rw[Qjs (by rw[Qjc,e3];omega),List.take_take,Nat.min_self,e4]
   ·exact⟨n,l,rfl,hn,he⟩
  ·obtain⟨hj1,hjn,hR⟩:=hx;obtain⟨i1,i2⟩:=hI j hj hj1 hR;have hWj:W ((j:Int)-1)=((j-1:Nat):Int):=by rw[ia4 (by omega) (by omega)];omega
   have hjl:j<l.length:=by omega
   have hjl':j-1<l.length:=by omega
   simp only[R8,O9,Int.toNat_natCast,hWj,Yc5 hjl,Yc5 hjl',Ec4 hjl,Ec4 hjl',o3 hj (show n<=4611686018427387904 by omega)]
   rw[btD (g9 hj),bt (f7 hj),bt (f7 (show j-1<n by omega)),bt (f7 (show j<n+1 by omega))]
   simp only[g8];rw[show ((gL tP l j).n.x==(gL tP l (j-1)).n.x&&((gL tP l j).n.y==(gL tP l (j-1)).n.y&&((gL tP l j).n.z==(gL tP l (j-1)).n.z&&((gL tP l j).b==(gL tP l (j-1)).b&&true))))=eqP (gL tP l j) (gL tP l (j-1)) from rfl]
   cases he:eqP (gL tP l j) (gL tP l (j-1)) with
   |false=>exact .nx ⟨(),rfl,by omega,by omega,i2 he⟩
   |true =>
    obtain⟨m',cur',k',e2,e3,e4,e5⟩:=inner j hj hj1 (i1 he);rw[e2];simp only[f7 (show m'<n+1 by omega)]
    exact .ex (.inl ⟨rfl,j,rfl,hj,hj1,i1 he⟩)
  ·obtain⟨hj1,hjn,hR⟩:=hx;refine⟨2,?_,.inr ⟨rfl,?_⟩⟩
   ·simp only[R8,O9];rw[bfD (by omega)]
   ·have:j=n:=by omega
    subst this;rw[Qjau (by rw[Qjc];omega)] at hR
    unfold ddF at hR;rw[Qjah] at hR;exact hR
theorem Re1(l:List Pln)(n:Nat)(hn:n<=l.length):slR tP (bL tP l) 0 n=l.take n:=cc9 tP (by rw[Qjc];omega) λk hk=>by
 rw[Qjb,P7 tP (by omega)]
 congr 1;simp[gL,Qjw,List.getElem?_take,hk]
theorem Re2(l:List Pln)(n:Nat)(hn:n<=l.length):okS tP (bL tP l) 0 n=true:=Ua6 tP (f:=λk=>gL tP l k) λk hk=>by rw[Qjb,P7 tP (by omega)]
noncomputable def lean(c:List Pln):List Pln:=if ful c then dd (Wa8 (c.filter (keep (pts c)))) else []
theorem te2(p:Pln)(c:List Pln)(hc:c.length<=1000000):Rd (one (r1L tP)) (nb9 (p,c)) (λr=>r=lean (p::c)):=by
 have hl:(p::c).length<=1000000000:=by simp only[List.length_cons];omega
 have hX:=Kd8 (p::c);unfold nb9 lean;simp only[i6,p6,i8,Bf1,Bf2,id1 hl,id3 hl,hd8 hl,hd9 hl];cases hf:ful (p::c) with
 |false=>exact⟨_,[],rfl,rfl,rfl⟩
 |true =>
  have ec:p5 (λk=>tP.row (gL tP (p::c) k)) (List.range (c.length+1))=bL tP (p::c):=xb7 tP (p::c)
  have hcl:ta2 (p,c)=⟨1,(p::c).length,bL tP (p::c)⟩:=by
   unfold ta2 V9;simp only[ec,P6];have r:Nat.ble ((0+(p::c).length)*32) room=true:=ea6 (by simp only[List.length_cons];omega)
   rw[r,Qjb];rfl
  obtain⟨m,r,e1,e2,e3,e4⟩:=Ad9 (p::c) (pts (p::c)) hl (by omega)
  have hm:m<=(p::c).length:=by
   have h1:=congrArg List.length e3;have h2:=List.length_filter_le (keep (pts (p::c))) (p::c);rw[Qjc] at h1;omega
  have hs:(Wa8 (r.take m)).length=m:=by rw[mc5,Qjc];omega
  have hrows:app (bL tP (Wa8 (r.take m))) (l0 (bL tP r) m)=bL tP (Wa8 (r.take m)++r.drop m):=by rw[Ld6,Ua7]
  have hok:okL tP (c.length+1) (λk=>tP.row (gL tP (p::c) k))=true:=Ua6 tP (f:=λk=>gL tP (p::c) k) λ_ _=>rfl
  simp only[hcl,e1,Re1 r m e2,Re2 r m e2,hrows,hok];obtain⟨m2,r2,k1,k2,k3⟩:=kd7 (Wa8 (r.take m)++r.drop m) m (by rw[Qjd,hs];omega) (by rw[Qjd,hs,Qjv,e4];omega)
  rw[k1,P6];have q1:Nat.ble m room=true:=by rw[Nat.ble_eq];unfold room;simp only[List.length_cons] at hm;omega
  have q2:Nat.ble m r.length=true:=by rw[Nat.ble_eq];exact e2
  rw[q1,q2];have hfin:r2.take m2=dd (Wa8 ((p::c).filter (keep (pts (p::c))))):=by
   rw[k3,Qjs (by rw[hs];omega),Qjat (by rw[hs];omega),e3]
  exact Qe8 k2 rfl hfin
theorem wf1(p:Pln)(c:List Pln)(hc:c.length<=1000000):Rc4 (p,c)=lean (p::c):=(te2 p c hc).p
theorem wf2(p:Pln)(c:List Pln)(hc:c.length<=1000000):Rc5 (p,c)=true:=(te2 p c hc).g
end Go.Ev.Ce
namespace Go.Ev.Ce
open Go Go.Ev Go.Ev.L Go.Proofs Go.Sort
theorem kd8(l:List Pln):List.Perm (Wa8 l) l:=List.mergeSort_perm l _
theorem Ce0(x y z:Pln)(h1:(!ltOf ma0 y x)=true)(h2:(!ltOf ma0 z y)=true):(!ltOf ma0 z x)=true:=by
 simp only[Bool.not_eq_true',hb9,decide_eq_false_iff_not] at *
 unfold LtP at *
 omega
theorem Ce1(x y:Pln):((!ltOf ma0 y x)||!ltOf ma0 x y)=true:=by
 simp only[Bool.or_eq_true,Bool.not_eq_true',hb9,decide_eq_false_iff_not];unfold LtP;omega
theorem Ld8(l:List Pln):(Wa8 l).Pairwise λx y=>(!ltOf ma0 y x)=true:=List.pairwise_mergeSort Ce0 Ce1 l
instance:DecidableEq Pln:=λx y=>decidable_of_iff _ (Gb5 x y)
def PC:List Pt:=[⟨0,0,0,1⟩,⟨0,0,1,4⟩,⟨0,1,0,3⟩,⟨1,0,0,2⟩]
theorem me0:ful []=true:=by kernel_rfl
end Go.Ev.Ce
namespace Go.Ev.Ce
open Go Go.Ev Go.Ev.L Go.Proofs
set_option maxRecDepth 100000
noncomputable def kd9:List (Nat×Sum):=[(182,Kb0)]
theorem ae7:i9 prog G kd9:=⟨gc6,trivial⟩
structure ob0 where
 d7:List Pln
 (j9 d8 k8 k9:Int)
structure ta3 where
 is5:Int
noncomputable def Ec9(p:ob0)(s:ta3):St:=⟨eL tP p.d7::.unk::.unk::.ptr 0 0 0 0::.unk::i s.is5::ra 43 [],[⟨0,4,[[i p.j9,i p.d8,i p.k8,i p.k9]],true,false,0⟩]⟩
noncomputable def Sa2{α:Type}(k:ta3->α)(e:Nat->α)(z:α)(p:ob0)(s:ta3):α:=let t1:=(fa1 (gL tP p.d7 s.is5.toNat) (⟨(⟨p.j9,p.d8,p.k8⟩:V3),p.k9⟩:Pln));(sl (decide (s.is5<(↑(List.length p.d7):Int))) (sl (inB s.is5 (List.length p.d7)) (sl (jb7 (gL tP p.d7 s.is5.toNat) (⟨(⟨p.j9,p.d8,p.k8⟩:V3),p.k9⟩:Pln)) (sl (decide (t1<0)) (k ⟨W (s.is5+1)⟩) (e 1)) z) z) (e 2))
noncomputable def Ma7(p:ob0)(s:ta3):Stp ta3:=Sa2 .next .exit .fail p s
noncomputable def ic1:Lo ob0 ta3:=⟨En kd9,0,mf6,[1,1,0,4,4],[0,3,5],.p,[⟨sLq tP::sUq::sUq::sPq 0::sUq::sIq::ru2 43 [],[⟨0,4,true,some [kLq 4]⟩],λa H=>(⟨aLq tP a 0,hIq H 0 0 0,hIq H 0 0 1,hIq H 0 0 2,hIq H 0 0 3⟩,⟨aIq a 5⟩)⟩],Ma7,[(some 0,λp s=>let t1:=(fa1 (gL tP p.d7 s.is5.toNat) (⟨(⟨p.j9,p.d8,p.k8⟩:V3),p.k9⟩:Pln));⟨eL tP p.d7::.unk::.unk::.ptr 0 0 0 0::.unk::i s.is5::.unk::i s.is5::eL tP p.d7::i (↑(List.length p.d7):Int)::b (decide (s.is5<(↑(List.length p.d7):Int)))::b true::eL tP p.d7::i s.is5::.tptr [i (gL tP p.d7 s.is5.toNat).n.x,i (gL tP p.d7 s.is5.toNat).n.y,i (gL tP p.d7 s.is5.toNat).n.z,i (gL tP p.d7 s.is5.toNat).b]::.agg [i (gL tP p.d7 s.is5.toNat).n.x,i (gL tP p.d7 s.is5.toNat).n.y,i (gL tP p.d7 s.is5.toNat).n.z,i (gL tP p.d7 s.is5.toNat).b]::.agg [i p.j9,i p.d8,i p.k8,i p.k9]::i t1::b (decide (t1<0))::b (decide (t1<0))::ra 29 [],[⟨0,4,[[i p.j9,i p.d8,i p.k8,i p.k9]],true,false,0⟩]⟩),(some 0,λp s=>upq (Ec9 p s) [(7,i s.is5),(8,eL tP p.d7),(9,i (↑(List.length p.d7):Int)),(10,b (decide (s.is5<(↑(List.length p.d7):Int)))),(11,b false),(12,u),(13,u),(14,u),(15,u),(16,u),(17,u),(18,u),(19,b false)])],Ec9⟩
theorem Ld9:ic1.Ok:=Lo.ok [] (by kernel_rfl) .nil rfl (.cons (λa H=>by kernel_rfl) .nil) λp s=>(.of @Sa2 (λF _ _ _ _ _=>by unfold Sa2;(repeat' apply m0 (f:=F))<;>rfl) (by kernel_rfl))
noncomputable def Ob6(x:List Pln)(y:Pln):Option (b7×List b8):=let t1:=(lp (Ma7 (⟨rt tP x,y.n.x,y.n.y,y.n.z,y.b⟩:ob0)) (⟨0⟩:ta3));let a0:=(p5 (λk=>(λk=>(tP).row (gL tP (rt tP x) k)) (0+k)) (List.range (t1.2.is5.toNat-0)));let a1:=(p5 (λk=>(λk=>(tP).row (gL tP (rt tP x) k)) (t1.2.is5.toNat+k)) (List.range ((List.length (rt tP x))-t1.2.is5.toNat)));let a2:=(inB t1.2.is5 ((List.length (rt tP x))+1));let a3:=(Nat.beq (0+(len a0)) (len (app [] a0))&&Nat.ble (((0+(len a0))+1)*32) room);let a4:=(((0+(len a0))+1)+(len a1));let a5:=(gL tP (rt tP x) t1.2.is5.toNat);let a6:=(Nat.beq 0 0&&Nat.ble ((0+(len a0))*32) room);let w0:Option (b7×List b8):=(sl a2 (sl a6 (sl a3 (sl a2 (sl (Nat.beq ((0+(len a0))+1) (len (app (app [] a0) [[i y.n.x,i y.n.y,i y.n.z,i y.b]]))&&Nat.ble (a4*32) room) (some (.sl 0 0 a4 0,[⟨73,4,app (app (app [] a0) [[i y.n.x,i y.n.y,i y.n.z,i y.b]]) a1,true,false,0⟩])) none) none) none) none) none);let w1:Option (b7×List b8):=(sl (decide (t1.2.is5<(↑(List.length (rt tP x)):Int))) (sl (inB t1.2.is5 (List.length (rt tP x))) (sl ((a5.n.x==y.n.x)&&((a5.n.y==y.n.y)&&((a5.n.z==y.n.z)&&((a5.b==y.b)&&true)))) (some (eL tP (rt tP x),[])) w0) none) w0);(sl ((cnE tP x)&&true) (sl (Nat.beq t1.1 1) w1 (sl (Nat.beq t1.1 2) w1 none)) none)
noncomputable def wb1(x:List Pln)(y:Pln):List Pln:=O3 (one (r1L tP)) (Ob6 x y)
noncomputable def wb2(x:List Pln)(y:Pln):Bool:=okO (one (r1L tP)) (Ob6 x y)
noncomputable def Bd0:Sum:=ra8 (P8 tP) (ha7 tP) (λx y=>.guard (wb2 x y) (.ret ((one (r1L tP)).enc (wb1 x y),[])))
theorem me1:i5 prog G 159 Bd0:=sb9 (bd Rf2 ae7) (one (r1L tP)) (o:=Ob6) λx y=>va6 (.s .p (.s .p (.s (.b (.u ic1.ls)) .p))) [ic1.pr] (by kernel_rfl) (.cons Ld9 .nil) (by kernel_rfl)
end Go.Ev.Ce
namespace Go.Ev.L
open Go Go.Ev
noncomputable def wf3:Cod Unit where
 enc _:=.v (.slice none 0 0)
 dec x:=match x with
  |.v (.slice none 0 0)=>some ()
  |_=>none
 grd _:=true
 ok x a hx _:=by
  split at hx
  ·exact .refl _
  ·cases hx
noncomputable def cE0:Cod (Addr×Nat) where
 enc z:=.v (.slice (some z.1) 0 z.2)
 dec x:=match x with
  |.v (.slice (some a) 0 c)=>some (a,c)
  |_=>none
 grd _:=true
 ok x a hx _:=by
  split at hx
  ·cases hx;exact .refl _
  ·cases hx
section
variable{α:Type}{t:Ty α}{P:Program}{G:Nat->List Value}{f:FuncId}
theorem Md0{β:Type}{c:Cod β}{k k':β->DT (b7×List b8)}(h:i5 P G f (X7 c k))(hk:∀a r,(k' a).run=some r->(k a).run=some r):i5 P G f (X7 c k'):=h.le λargs blks r hr=>by
 unfold X7 at hr ⊢
 split at hr
 ·obtain⟨a,h1,hr⟩:=y9 hr;obtain⟨g,hr⟩:=DT.run_guard_some hr;simp only[h1,onO,g];exact hk a r hr
 ·cases hr
theorem wf4{k:List α->DT (b7×List b8)}(hA:i5 P G f (X7 (Ie5 t) λz=>k (z.1::z.2)))(hN:i5 P G f (X7 wf3 λ_=>k []))(hE:i5 P G f (X7 cE0 λ_=>k [])):i5 P G f (X7 (P8 t) k):=by
 intro args blks r out he W ρ F w args' hH hlen hargs hG;unfold X7 at he
 split at he
 ·rename_i x;obtain⟨a,h1,he⟩:=y9 he;obtain⟨g1,hk⟩:=DT.run_guard_some he;have nilCase:∀v',args'[0]?=some v'->v'=.slice none 0 0->a=[]->xb1 P f/\Calls P f args'.toArray w λe w'=>∃r',e=.returned r'/\R6 W ρ [] F w r out r' w':=λv' hv e ha=>by
   subst ha;refine hN [.v (.slice none 0 0)] [] r out ?_ W ρ F w args' hH hlen (λi x' y' hx hy=>?_) hG
   ·exact hk
   ·match i with
    |0=>cases hx;rw[hv] at hy;cases hy;rw[e];exact .val (.cell (.v _))
    |i+1=>cases hx
  have emptyCase:∀v' ad c,args'[0]?=some v'->v'=.slice (some ad) 0 c->a=[]->xb1 P f/\Calls P f args'.toArray w λe w'=>∃r',e=.returned r'/\R6 W ρ [] F w r out r' w':=λv' ad c hv e ha=>by
   subst ha;refine hE [.v (.slice (some ad) 0 c)] [] r out ?_ W ρ F w args' hH hlen (λi x' y' hx hy=>?_) hG
   ·exact hk
   ·match i with
    |0=>cases hx;rw[hv] at hy;cases hy;rw[e];exact .val (.cell (.v _))
    |i+1=>cases hx
  obtain⟨v',hv⟩:∃v',args'[0]?=some v':=by
   cases args' with
   |nil=>simp at hlen
   |cons v' r'=>exact⟨v',rfl⟩
  cases x with
  |tree e n get =>
   have hb:Nat.beq e t.es=true/\a=lsL t n get:=by
    have h1:(Bool.rec none (some (lsL t n get)) (Nat.beq e t.es):Option (List α))=some a:=h1;cases hb:Nat.beq e t.es with
    |false=>rw[hb] at h1;cases h1
    |true =>
     rw[hb] at h1;have h1:some (lsL t n get)=some a:=h1;injection h1 with h1;exact⟨rfl,h1.symm⟩
   cases n with
   |zero =>
    have ha:a=[]:=hb.2;have hm:=Aa8 (hargs 0 _ v' rfl hv);cases hm with
    |tree _ _ _ ad cap cs hs hcap hes hF hw hr=>exact emptyCase _ ad cap hv rfl ha
    |nil=>exact nilCase _ hv rfl ha
   |succ m =>
    have ha:a=hC t get::tC t m get:=hb.2.trans (Sd3 t m get);subst ha;refine hA [.tree e (m+1) get] [] r out ?_ W ρ F w args' hH hlen hargs hG;have hc:(Ie5 t).dec (.tree e (m+1) get)=some (hC t get,tC t m get):=by
     show (Bool.rec none (some (hC t get,tC t m get)) (Nat.beq e t.es):Option (α×List α))=_;rw[hb.1]
    have hg:(Ie5 t).grd (.tree e (m+1) get)=true:=g1;simp only[X7,hc,onO,hg];exact hk
  |v q =>
   have hq:=ja5 (hargs 0 _ v' rfl hv);unfold P8 at h1
   simp only at h1
   split at h1
   ·rename_i heq;cases heq
   ·rename_i heq;injection heq with heq;injection h1 with h1;exact nilCase v' hv (hq.trans heq) h1.symm
   ·rename_i ad c heq;injection heq with heq;injection h1 with h1;exact emptyCase v' _ _ hv (hq.trans heq) h1.symm
   ·cases h1
  |_=>cases h1
 ·cases he
end
end Go.Ev.L
namespace Go.Ev.Ce
open Go Go.Ev Go.Ev.L Go.Proofs
set_option maxRecDepth 100000
noncomputable def Bb2:List (Nat×Sum):=[]
theorem oc1:i9 prog G Bb2:=trivial
@[reducible] noncomputable def Gb6:Sum:=Lb5 (En Bb2) of0
theorem wc1:i5 prog G 208 Gb6:=bd Tf7 oc1
noncomputable def Bb3:List (Nat×Sum):=[]
theorem oc2:i9 prog G Bb3:=trivial
@[reducible] noncomputable def Gb7:Sum:=Lb5 (En Bb3) nf9
theorem wc2:i5 prog G 207 Gb7:=bd Tf6 oc2
noncomputable def Ob7:List (Nat×Sum):=[(208,Gb6),(207,Gb7)]
theorem Fc0:i9 prog G Ob7:=⟨wc1,wc2,trivial⟩
@[reducible] noncomputable def Xb7:Sum:=Lb5 (En Ob7) nf3
theorem Mc3:i5 prog G 180 Xb7:=bd Sf5 Fc0
structure G2 where
noncomputable def ha9:List (Nat×Sum):=[]
theorem Ka4:i9 prog G ha9:=trivial
structure y7 where
structure o5 where
noncomputable def ea5(p:y7)(s:o5):St:=⟨.v (.slice none 0 0)::i 0::i 0::.fn 122 []::ra 4 (i 1::ra 44 []),[]⟩
noncomputable def M7{α:Type}(k:o5->α)(e:Nat->α)(z:α)(p:y7)(s:o5):α:=(e 1)
noncomputable def O2(p:y7)(s:o5):Stp o5:=M7 .next .exit .fail p s
noncomputable def P0:Lo y7 o5:=⟨En ha9,0,nf8,[1,4,4],[0,1,2,3,8],.p,[⟨.s (.o .nil)::.s (.o (.lit .i64 0))::.s (.o (.lit .i64 0))::.s (.o (.fn 122))::ru2 4 (.s (.o (.lit .i64 1))::ru2 44 []),[],λa H=>(⟨⟩,⟨⟩)⟩],O2,[(some 0,λp s=>upq (ea5 p s) [(12,i 1),(13,i 0),(14,b false)])],ea5⟩
theorem Ga8:P0.Ok:=Lo.ok [] (by kernel_rfl) .nil rfl (.cons (λa H=>by kernel_rfl) .nil) λp s=>(.of @M7 (λF _ _ _ _ _=>by unfold M7;(repeat' apply m0 (f:=F))<;>rfl) (by kernel_rfl))
structure G3 where
 alt:Nat
noncomputable def s9{α:Type}(kk:G3->α)(x:G2):α:=let t1:=(lp (O2 (⟨⟩:y7)) (⟨⟩:o5));(sl (Nat.beq t1.1 1) (kk ⟨1⟩) (kk ⟨0⟩))
noncomputable def G4(x:G2):G3:=s9 (λr=>r) x
noncomputable def Q4(x:G2)(r:G3):DT (b7×List b8):=(.ite (Nat.beq r.alt 1) (.ret (.tup [],[])) .fail)
theorem Pa4{α β:Type}(F:α->β)(kk:G3->α)(x:G2):F (s9 kk x)=s9 (λr=>F (kk r)) x:=by unfold s9;(repeat' apply m0 (f:=F))<;>rfl
noncomputable def ja8:Sum:=Ya5 ⟨[.s (.o .nil),.s (.o (.lit .i64 0)),.s (.o (.lit .i64 0)),.s (.o (.fn 122))],[],λa H=>(⟨⟩,())⟩ (λx=>Q4 x (G4 x))
theorem Ma8:i5 prog G 199 ja8:=O5 (enc:=λx=>⟨[.v (.slice none 0 0),i 0,i 0,.fn 122 []],[]⟩) (λa H=>by kernel_rfl) (bd Tf5 Ka4) λx=>va6 (.s .p (.b (.u P0.ls))) [P0.pr] (by kernel_rfl) (.cons Ga8 .nil) (Qjk (b:=s9 (λr=>(Q4 x r).run) x) (by kernel_rfl) (Pa4 (λr=>(Q4 x r).run) (λr=>r) x).symm)
structure Q5 where
noncomputable def va4:List (Nat×Sum):=[(199,ja8)]
theorem bb5:i9 prog G va4:=⟨Ma8,trivial⟩
structure E8 where
structure s7 where
noncomputable def Xa2(p:E8)(s:s7):St:=⟨.v (.slice none 0 0)::i 0::i 0::i 0::.fn 122 []::ra 5 (b true::b true::ra 136 []),[]⟩
noncomputable def J7{α:Type}(k:s7->α)(e:Nat->α)(z:α)(p:E8)(s:s7):α:=let t1:=(G4 ⟨⟩);(sl (Nat.beq t1.alt 1) (e 1) z)
noncomputable def L7(p:E8)(s:s7):Stp s7:=J7 .next .exit .fail p s
noncomputable def Z4:Lo E8 s7:=⟨En va4,0,mf9,[1,1,4,4],[0,1,2,3,4,10,11],.p,[⟨.s (.o .nil)::.s (.o (.lit .i64 0))::.s (.o (.lit .i64 0))::.s (.o (.lit .i64 0))::.s (.o (.fn 122))::ru2 5 (.s (.o (.blit true))::.s (.o (.blit true))::ru2 136 []),[],λa H=>(⟨⟩,⟨⟩)⟩],L7,[(none,λp s=>⟨[.tup []],[]⟩)],Xa2⟩
theorem Xa3:Z4.Ok:=Lo.ok [] (by kernel_rfl) .nil rfl (.cons (λa H=>by kernel_rfl) .nil) λp s=>(.of @J7 (λF _ _ _ _ _=>by unfold J7;(repeat' apply m0 (f:=F))<;>rfl) (by kernel_rfl))
structure Q6 where
 alt:Nat
noncomputable def B8{α:Type}(kk:Q6->α)(x:Q5):α:=let t1:=(lp (L7 (⟨⟩:E8)) (⟨⟩:s7));(sl (Nat.beq t1.1 1) (kk ⟨1⟩) (kk ⟨0⟩))
noncomputable def Q7(x:Q5):Q6:=B8 (λr=>r) x
noncomputable def ba1(x:Q5)(r:Q6):DT (b7×List b8):=(.ite (Nat.beq r.alt 1) (.ret (.tup [],[])) .fail)
theorem ib0{α β:Type}(F:α->β)(kk:Q6->α)(x:Q5):F (B8 kk x)=B8 (λr=>F (kk r)) x:=by unfold B8;(repeat' apply m0 (f:=F))<;>rfl
noncomputable def xa9:Sum:=Ya5 ⟨[.s (.o .nil),.s (.o (.lit .i64 0)),.s (.o (.lit .i64 0)),.s (.o (.lit .i64 0)),.s (.o (.fn 122))],[],λa H=>(⟨⟩,())⟩ (λx=>ba1 x (Q7 x))
theorem eb0:i5 prog G 179 xa9:=O5 (enc:=λx=>⟨[.v (.slice none 0 0),i 0,i 0,i 0,.fn 122 []],[]⟩) (λa H=>by kernel_rfl) (bd Sf4 bb5) λx=>va6 (.s .p (.s .p (.b (.u Z4.ls)))) [Z4.pr] (by kernel_rfl) (.cons Xa3 .nil) (Qjk (b:=B8 (λr=>(ba1 x r).run) x) (by kernel_rfl) (ib0 (λr=>(ba1 x r).run) (λr=>r) x).symm)
structure fa5 where
noncomputable def Eb1:List (Nat×Sum):=[(179,xa9),(180,Xb7)]
theorem Bb4:i9 prog G Eb1:=⟨eb0,Mc3,trivial⟩
structure fa6 where
 alt:Nat
noncomputable def M3{α:Type}(kk:fa6->α)(x:fa5):α:=let t1:=(Q7 ⟨⟩);(sl (Nat.beq t1.alt 1) (kk ⟨1⟩) (kk ⟨0⟩))
noncomputable def fa7(x:fa5):fa6:=M3 (λr=>r) x
noncomputable def ra0(x:fa5)(r:fa6):DT (b7×List b8):=(.ite (Nat.beq r.alt 1) (.ret (.tup [],[])) .fail)
theorem Kb9{α β:Type}(F:α->β)(kk:fa6->α)(x:fa5):F (M3 kk x)=M3 (λr=>F (kk r)) x:=by unfold M3;(repeat' apply m0 (f:=F))<;>rfl
noncomputable def Sa3:Sum:=Ya5 ⟨[.s (.o .nil),.s (.o (.fn 122))],[],λa H=>(⟨⟩,())⟩ (λx=>ra0 x (fa7 x))
theorem Eb2:i5 prog G 121 Sa3:=O5 (enc:=λx=>⟨[.v (.slice none 0 0),.fn 122 []],[]⟩) (λa H=>by kernel_rfl) (bd Pf2 Bb4) λx=>y8 (Qjk (b:=M3 (λr=>(ra0 x r).run) x) (by kernel_rfl) (Kb9 (λr=>(ra0 x r).run) (λr=>r) x).symm)
structure ca6 where
 i7:List Pt
noncomputable def Ka5:List (Nat×Sum):=[]
theorem ub5:i9 prog G Ka5:=trivial
structure N9 where
 i7:List Pt
structure A9 where
noncomputable def Da2(p:N9)(s:A9):St:=⟨.v (.slice none 0 0)::.fn 152 [.ptr 0 0 0 0]::ra 5 (i 0::i 0::ra 10 []),[⟨0,1,[[eL tX p.i7]],true,false,0⟩]⟩
noncomputable def ha3{α:Type}(k:A9->α)(e:Nat->α)(z:α)(p:N9)(s:A9):α:=(e 1)
noncomputable def ja2(p:N9)(s:A9):Stp A9:=ha3 .next .exit .fail p s
noncomputable def ma1:Lo N9 A9:=⟨En Ka5,1,Vd1,[1,0,1,4,4],[0,1,7,8],.p,[⟨.s (.o .nil)::.fn 152 [.o (.ptr 0 0 0 0)]::ru2 5 (.s (.o (.lit .i64 0))::.s (.o (.lit .i64 0))::ru2 10 []),[⟨0,1,true,some [[.c 4 (nL tX)]]⟩],λa H=>(⟨hLq tX H 0 0 0⟩,⟨⟩)⟩],ja2,[(some 0,λp s=>upq (Da2 p s) [(9,b false)])],Da2⟩
theorem rb1:ma1.Ok:=Lo.ok [] (by kernel_rfl) .nil rfl (.cons (λa H=>by kernel_rfl) .nil) λp s=>(.of @ha3 (λF _ _ _ _ _=>by unfold ha3;(repeat' apply m0 (f:=F))<;>rfl) (by kernel_rfl))
structure ca7 where
 alt:Nat
 i7:List Pt
noncomputable def J6{α:Type}(kk:ca7->α)(x:ca6):α:=let t1:=(lp (ja2 (⟨rt tX x.i7⟩:N9)) (⟨⟩:A9));(sl ((cnE tX x.i7)&&true) (sl (Nat.beq t1.1 1) (kk ⟨1,rt tX x.i7⟩) (kk ⟨0,[]⟩)) (kk ⟨0,[]⟩))
noncomputable def ra1(x:ca6):ca7:=J6 (λr=>r) x
noncomputable def oa9(x:ca6)(r:ca7):DT (b7×List b8):=(.ite (Nat.beq r.alt 1) (.ret (i (-1),[⟨0,1,[[eL tX r.i7]],true,false,0⟩])) .fail)
theorem Eb3{α β:Type}(F:α->β)(kk:ca7->α)(x:ca6):F (J6 kk x)=J6 (λr=>F (kk r)) x:=by unfold J6;(repeat' apply m0 (f:=F))<;>rfl
noncomputable def Pa0:Sum:=Ya5 ⟨[.s (.o .nil),.fn 152 [.o (.ptr 0 0 0 0)]],[⟨0,1,true,some [[.c 4 (nL tX)]]⟩],λa H=>(⟨hLq tX H 0 0 0⟩,())⟩ (λx=>oa9 x (ra1 x))
theorem Bb5:i5 prog G 139 Pa0:=O5 (enc:=λx=>⟨[.v (.slice none 0 0),.fn 152 [.ptr 0 0 0 0]],[⟨0,1,[[eL tX x.i7]],true,false,0⟩]⟩) (λa H=>by kernel_rfl) (bd cf6 ub5) λx=>va6 (.s .p (.s (.s .p (.b (.u ma1.ls))) .p)) [ma1.pr] (by kernel_rfl) (.cons rb1 .nil) (Qjk (b:=J6 (λr=>(oa9 x r).run) x) (by kernel_rfl) (Eb3 (λr=>(oa9 x r).run) (λr=>r) x).symm)
structure Z5 where
 i7:List Pt
noncomputable def ub6:List (Nat×Sum):=[(139,Pa0)]
theorem rb2:i9 prog G ub6:=⟨Bb5,trivial⟩
structure Z6 where
 alt:Nat
 i7:List Pt
noncomputable def G6{α:Type}(kk:Z6->α)(x:Z5):α:=let t1:=(ra1 ⟨rt tX x.i7⟩);(sl ((cnE tX x.i7)&&true) (sl (Nat.beq t1.alt 1) (kk ⟨1,t1.i7⟩) (kk ⟨0,[]⟩)) (kk ⟨0,[]⟩))
noncomputable def Z7(x:Z5):Z6:=G6 (λr=>r) x
noncomputable def ma2(x:Z5)(r:Z6):DT (b7×List b8):=(.ite (Nat.beq r.alt 1) (.ret (.v (.slice none 0 0),[⟨0,1,[[eL tX r.i7]],true,false,0⟩])) .fail)
theorem Bb6{α β:Type}(F:α->β)(kk:Z6->α)(x:Z5):F (G6 kk x)=G6 (λr=>F (kk r)) x:=by unfold G6;(repeat' apply m0 (f:=F))<;>rfl
noncomputable def Ka6:Sum:=Ya5 ⟨[.s (.o .nil),.fn 152 [.o (.ptr 0 0 0 0)]],[⟨0,1,true,some [[.c 4 (nL tX)]]⟩],λa H=>(⟨hLq tX H 0 0 0⟩,())⟩ (λx=>ma2 x (Z7 x))
theorem ub7:i5 prog G 150 Ka6:=O5 (enc:=λx=>⟨[.v (.slice none 0 0),.fn 152 [.ptr 0 0 0 0]],[⟨0,1,[[eL tX x.i7]],true,false,0⟩]⟩) (λa H=>by kernel_rfl) (bd Gf8 rb2) λx=>va6 .p [] (by kernel_rfl) .nil (Qjk (b:=G6 (λr=>(ma2 x r).run) x) (by kernel_rfl) (Bb6 (λr=>(ma2 x r).run) (λr=>r) x).symm)
structure ia0 where
noncomputable def Lb0:List (Nat×Sum):=[]
theorem Eb4:i9 prog G Lb0:=trivial
structure ia1 where
noncomputable def W4{α:Type}(kk:ia1->α)(x:ia0):α:=(kk ⟨⟩)
noncomputable def Ob8(x:ia0):ia1:=W4 (λr=>r) x
noncomputable def va3(x:ia0)(r:ia1):DT (b7×List b8):=.ret (.v (.slice none 0 0),[])
theorem Ob9{α β:Type}(F:α->β)(kk:ia1->α)(x:ia0):F (W4 kk x)=W4 (λr=>F (kk r)) x:=by unfold W4;(repeat' apply m0 (f:=F))<;>rfl
noncomputable def Wa9:Sum:=Ya5 ⟨[.s (.o .nil)],[],λa H=>(⟨⟩,())⟩ (λx=>va3 x (Ob8 x))
theorem Lb1:i5 prog G 154 Wa9:=O5 (enc:=λx=>⟨[.v (.slice none 0 0)],[]⟩) (λa H=>by kernel_rfl) (bd Gf9 Eb4) λx=>va6 .p [] (by kernel_rfl) .nil (Qjk (b:=W4 (λr=>(va3 x r).run) x) (by kernel_rfl) (Ob9 (λr=>(va3 x r).run) (λr=>r) x).symm)
noncomputable def Vb0:List (Nat×Sum):=[]
theorem Pb0:i9 prog G Vb0:=trivial
structure qa1 where
noncomputable def da5{α:Type}(kk:qa1->α)(x:Unit):α:=(kk ⟨⟩)
noncomputable def Zb1(x:Unit):qa1:=da5 (λr=>r) x
noncomputable def Aa4(r:qa1):DT (b7×List b8):=.ret (.v (.slice none 0 0),[])
theorem Zb2{α β:Type}(F:α->β)(kk:qa1->α)(x:Unit):F (da5 kk x)=da5 (λr=>F (kk r)) x:=by unfold da5;(repeat' apply m0 (f:=F))<;>rfl
noncomputable def eb4:Sum:=X7 wf3 (λx=>Aa4 (Zb1 x))
theorem Vb1:i5 prog G 151 eb4:=Fb2 (bd uf1 Pb0) λx=>y8 (Qjk (b:=da5 (λr=>(Aa4 r).run) x) (by kernel_rfl) (Zb2 (λr=>(Aa4 r).run) (λr=>r) x).symm)
noncomputable def td5:List (Nat×Sum):=[(55,Wa5),(113,jb4),(151,eb4),(150,Ka6),(121,Sa3),(154,Wa9)]
theorem ld0:i9 prog G td5:=⟨ab6,Ab1,Vb1,ub7,Eb2,Lb1,trivial⟩
noncomputable def bb6(x:Unit):Option (b7×List b8):=let t1:=(ya9 []);let t2:=(Ea4 []);let t4:=(Z7 ⟨rt tX t2⟩);let t5:=(fa7 ⟨⟩);(sl (za0 []) (sl (!t1) (some (.v (.slice none 0 0),[])) (sl (Ea5 []) (sl ((cnE tX t2)&&true) (sl (Nat.beq t4.alt 1) (sl (Nat.beq t5.alt 1) (some (.v (.slice none 0 0),[])) none) none) none) none)) none)
noncomputable def Vb2(x:Unit):List Pln:=O3 (one (r1L tP)) (bb6 x)
noncomputable def Vb3(x:Unit):Bool:=okO (one (r1L tP)) (bb6 x)
noncomputable def Md1:Sum:=X7 wf3 (λx=>.guard (Vb3 x) (.ret ((one (r1L tP)).enc (Vb2 x),[])))
theorem td6:i5 prog G 98 Md1:=Ha5 (bd b98 ld0) (one (r1L tP)) (o:=bb6) λx=>y8 (by kernel_rfl)
noncomputable def Vb4:List (Nat×Sum):=[]
theorem Pb1:i9 prog G Vb4:=trivial
structure qa2 where
noncomputable def da6{α:Type}(kk:qa2->α)(x:Addr×Nat):α:=(kk ⟨⟩)
noncomputable def Zb3(x:Addr×Nat):qa2:=da6 (λr=>r) x
noncomputable def Aa5(r:qa2):DT (b7×List b8):=.ret (.sl 0 0 0 0,[⟨73,4,[],true,false,0⟩])
theorem Zb4{α β:Type}(F:α->β)(kk:qa2->α)(x:Addr×Nat):F (da6 kk x)=da6 (λr=>F (kk r)) x:=by unfold da6;(repeat' apply m0 (f:=F))<;>rfl
noncomputable def eb5:Sum:=X7 cE0 (λx=>Aa5 (Zb3 x))
theorem Vb5:i5 prog G 151 eb5:=Fb2 (bd uf1 Pb1) λx=>y8 (Qjk (b:=da6 (λr=>(Aa5 r).run) x) (by kernel_rfl) (Zb4 (λr=>(Aa5 r).run) (λr=>r) x).symm)
noncomputable def td7:List (Nat×Sum):=[(55,Wa5),(113,jb4),(151,eb5),(150,qa9),(121,xa8),(154,Aa3)]
theorem ld1:i9 prog G td7:=⟨ab6,Ab1,Vb5,Ka3,Sa1,Wa7,trivial⟩
noncomputable def bb7(x:Addr×Nat):Option (b7×List b8):=let t1:=(ya9 []);let t2:=(Ea4 []);let t4:=(J5 ⟨0,[],rt tX t2⟩);let t5:=(Z3 ⟨t4.ns0,app (bL tP (Wa8 (slR tP t4.eh0 0 t4.ns0))) (l0 t4.eh0 t4.ns0)⟩);(sl (za0 []) (sl (!t1) (some (.v (.slice none 0 0),[])) (sl (Ea5 []) (sl ((cnE tX t2)&&true) (sl (Nat.beq t4.alt 1) (sl (Bool.and (Nat.ble t4.ns0 room) (Bool.and (Nat.ble t4.ns0 (len t4.eh0)) (okS tP t4.eh0 0 t4.ns0))) (sl (Nat.beq t5.alt 1) (some (.sl 0 0 t5.ns0 0,[⟨73,4,t5.eh0,true,false,0⟩])) none) none) none) none) none)) none)
noncomputable def Fc1(x:Addr×Nat):List Pln:=O3 (one (r1L tP)) (bb7 x)
noncomputable def Fc2(x:Addr×Nat):Bool:=okO (one (r1L tP)) (bb7 x)
noncomputable def Md2:Sum:=X7 cE0 (λx=>.guard (Fc2 x) (.ret ((one (r1L tP)).enc (Fc1 x),[])))
theorem td8:i5 prog G 98 Md2:=Ha5 (bd b98 ld1) (one (r1L tP)) (o:=bb7) λx=>y8 (by kernel_rfl)
structure Re3 where
 is1:Int
structure Re4 where
 ph:Nat
 is7:Int
 n5:List Int
 d8:Int
 ns6:Nat
 eh1:List (List b7)
noncomputable def ic2:List (Nat×Sum):=[(70,uc4),(157,Cc2),(158,Sb2),(159,Bd0)]
theorem Md3:i9 prog G ic2:=⟨Qc2,qd6,ec3,me1,trivial⟩
structure ma3 where
 d7:List Pln
 V1:List Pt
 is5:Int
 ba0:List Pln
structure Q8 where
 ph:Nat
 (is6 is7:Int)
noncomputable def ic3(p:ma3)(s:Q8):St:=⟨eL tP p.d7::.unk::.unk::eL tX p.V1::.v (.slice none 0 0)::i p.is5::i s.is6::i s.is7::ra 38 [],[]⟩
noncomputable def ic4(p:ma3)(s:Q8):St:=⟨eL tP p.d7::.unk::.unk::eL tX p.V1::eL tP p.ba0::i p.is5::i s.is6::i s.is7::ra 38 [],[]⟩
noncomputable def td9(p:ma3)(s:Q8):St:=(sel (Nat.beq s.ph 1) (ic4 p s) (ic3 p s))
noncomputable def pa0{α:Type}(k:Q8->α)(e:Nat->α)(z:α)(p:ma3)(s:Q8):α:=let t1:=(Ua9 (gL tP p.d7 p.is5.toNat) (gL tX p.V1 s.is7.toNat));(sl (decide (s.is7<(↑(List.length p.V1):Int))) (sl (inB p.is5 (List.length p.d7)) (sl (inB s.is7 (List.length p.V1)) (sl (t1==0) (k ⟨0,W (s.is6+1),W (s.is7+1)⟩) (k ⟨0,s.is6,W (s.is7+1)⟩)) z) z) (e 1))
noncomputable def pa1{α:Type}(k:Q8->α)(e:Nat->α)(z:α)(p:ma3)(s:Q8):α:=let t1:=(Ua9 (gL tP p.d7 p.is5.toNat) (gL tX p.V1 s.is7.toNat));(sl (decide (s.is7<(↑(List.length p.V1):Int))) (sl (inB p.is5 (List.length p.d7)) (sl (inB s.is7 (List.length p.V1)) (sl (t1==0) (k ⟨1,W (s.is6+1),W (s.is7+1)⟩) (k ⟨1,s.is6,W (s.is7+1)⟩)) z) z) (e 2))
noncomputable def Sa4(p:ma3)(s:Q8):Stp Q8:=(sel (Nat.beq s.ph 1) (pa1 .next .exit .fail p s) (pa0 .next .exit .fail p s))
noncomputable def Vb6:Lo ma3 Q8:=⟨En ic2,0,Me7,[1,1,1,1,0,1,4,4,1,0,4,1,0,1,4,4],[0,3,4,5,6,7],.p,[⟨sLq tP::sUq::sUq::sLq tX::.s (.o .nil)::sIq::sIq::sIq::ru2 38 [],[],λa H=>(⟨aLq tP a 0,aLq tX a 3,aIq a 5,[]⟩,⟨0,aIq a 6,aIq a 7⟩)⟩,⟨sLq tP::sUq::sUq::sLq tX::sLq tP::sIq::sIq::sIq::ru2 38 [],[],λa H=>(⟨aLq tP a 0,aLq tX a 3,aIq a 5,aLq tP a 4⟩,⟨1,aIq a 6,aIq a 7⟩)⟩],Sa4,[(some 2,λp s=>upq (ic3 p s) [(19,i s.is7),(20,eL tX p.V1),(21,i (↑(List.length p.V1):Int)),(22,b (decide (s.is7<(↑(List.length p.V1):Int))))]),(some 2,λp s=>upq (ic4 p s) [(19,i s.is7),(20,eL tX p.V1),(21,i (↑(List.length p.V1):Int)),(22,b (decide (s.is7<(↑(List.length p.V1):Int))))])],td9⟩
theorem ud0:Vb6.Ok:=Lo.ok [] (by kernel_rfl) .nil rfl (.cons (λa H=>by kernel_rfl) (.cons (λa H=>by kernel_rfl) .nil)) λp s=>(.sel (Nat.beq s.ph 1) (.of @pa1 (λF _ _ _ _ _=>by unfold pa1;(repeat' apply m0 (f:=F))<;>rfl) (by kernel_rfl)) (.of @pa0 (λF _ _ _ _ _=>by unfold pa0;(repeat' apply m0 (f:=F))<;>rfl) (by kernel_rfl)))
structure ta4 where
structure J8 where
 ph:Nat
 d7:List Pln
 V1:List Pt
 is5:Int
 ba0:List Pln
noncomputable def ic5(p:ta4)(s:J8):St:=⟨eL tP s.d7::.unk::.unk::eL tX s.V1::.v (.slice none 0 0)::i s.is5::ra 40 [],[]⟩
noncomputable def ic6(p:ta4)(s:J8):St:=⟨eL tP s.d7::.unk::.unk::eL tX s.V1::eL tP s.ba0::i s.is5::ra 40 [],[]⟩
noncomputable def ud1(p:ta4)(s:J8):St:=(sel (Nat.beq s.ph 1) (ic6 p s) (ic5 p s))
noncomputable def pa2{α:Type}(k:J8->α)(e:Nat->α)(z:α)(p:ta4)(s:J8):α:=let t1:=(lp (Sa4 (⟨rt tP s.d7,rt tX s.V1,s.is5,[]⟩:ma3)) (⟨0,0,0⟩:Q8));let t2:=(wb1 [] (gL tP (rt tP s.d7) s.is5.toNat));let t3:=(wb1 (rt tP []) (gL tP (rt tP s.d7) s.is5.toNat));(sl (decide (s.is5<(↑(List.length s.d7):Int))) (sl ((cnE tP s.d7)&&((cnE tX s.V1)&&true)) (sl (Nat.beq t1.1 1) (sl (decide (t1.2.is6>=3)) (sl (inB s.is5 (List.length (rt tP s.d7))) (sl (wb2 [] (gL tP (rt tP s.d7) s.is5.toNat)) (k ⟨1,rt tP s.d7,rt tX s.V1,W (s.is5+1),t2⟩) z) z) (k ⟨0,rt tP s.d7,rt tX s.V1,W (s.is5+1),[]⟩)) (sl (Nat.beq t1.1 2) (sl (decide (t1.2.is6>=3)) (sl (inB s.is5 (List.length (rt tP s.d7))) (sl (okE tP []) (sl (wb2 (rt tP []) (gL tP (rt tP s.d7) s.is5.toNat)) (k ⟨1,rt tP s.d7,rt tX s.V1,W (s.is5+1),t3⟩) z) z) z) (k ⟨1,rt tP s.d7,rt tX s.V1,W (s.is5+1),[]⟩)) z)) z) (e 1))
noncomputable def pa3{α:Type}(k:J8->α)(e:Nat->α)(z:α)(p:ta4)(s:J8):α:=let t1:=(lp (Sa4 (⟨rt tP s.d7,rt tX s.V1,s.is5,rt tP s.ba0⟩:ma3)) (⟨1,0,0⟩:Q8));let t2:=(wb1 [] (gL tP (rt tP s.d7) s.is5.toNat));let t3:=(wb1 (rt tP (rt tP s.ba0)) (gL tP (rt tP s.d7) s.is5.toNat));(sl (decide (s.is5<(↑(List.length s.d7):Int))) (sl ((cnE tP s.d7)&&((cnE tX s.V1)&&((cnE tP s.ba0)&&true))) (sl (Nat.beq t1.1 1) (sl (decide (t1.2.is6>=3)) (sl (inB s.is5 (List.length (rt tP s.d7))) (sl (wb2 [] (gL tP (rt tP s.d7) s.is5.toNat)) (k ⟨1,rt tP s.d7,rt tX s.V1,W (s.is5+1),t2⟩) z) z) (k ⟨0,rt tP s.d7,rt tX s.V1,W (s.is5+1),[]⟩)) (sl (Nat.beq t1.1 2) (sl (decide (t1.2.is6>=3)) (sl (inB s.is5 (List.length (rt tP s.d7))) (sl (okE tP (rt tP s.ba0)) (sl (wb2 (rt tP (rt tP s.ba0)) (gL tP (rt tP s.d7) s.is5.toNat)) (k ⟨1,rt tP s.d7,rt tX s.V1,W (s.is5+1),t3⟩) z) z) z) (k ⟨1,rt tP s.d7,rt tX s.V1,W (s.is5+1),rt tP s.ba0⟩)) z)) z) (e 2))
noncomputable def jb9(p:ta4)(s:J8):Stp J8:=(sel (Nat.beq s.ph 1) (pa3 .next .exit .fail p s) (pa2 .next .exit .fail p s))
noncomputable def Vb7:Lo ta4 J8:=⟨En ic2,0,Me7,[1,1,1,1,0,1,4,4],[0,3,4,5],.s .p (.s (.b (.s .p (.s (.s .p (.b (.u Vb6.ls))) .p))) .p),[⟨sLq tP::sUq::sUq::sLq tX::.s (.o .nil)::sIq::ru2 40 [],[],λa H=>(⟨⟩,⟨0,aLq tP a 0,aLq tX a 3,aIq a 5,[]⟩)⟩,⟨sLq tP::sUq::sUq::sLq tX::sLq tP::sIq::ru2 40 [],[],λa H=>(⟨⟩,⟨1,aLq tP a 0,aLq tX a 3,aIq a 5,aLq tP a 4⟩)⟩],jb9,[(some 0,λp s=>upq (ic5 p s) [(13,i s.is5),(14,eL tP s.d7),(15,i (↑(List.length s.d7):Int)),(16,b (decide (s.is5<(↑(List.length s.d7):Int))))]),(some 0,λp s=>upq (ic6 p s) [(13,i s.is5),(14,eL tP s.d7),(15,i (↑(List.length s.d7):Int)),(16,b (decide (s.is5<(↑(List.length s.d7):Int))))])],ud1⟩
theorem ud2:Vb7.Ok:=Lo.ok [Vb6.pr] (by kernel_rfl) (.cons ud0 .nil) rfl (.cons (λa H=>by kernel_rfl) (.cons (λa H=>by kernel_rfl) .nil)) λp s=>(.sel (Nat.beq s.ph 1) (.of @pa3 (λF _ _ _ _ _=>by unfold pa3;(repeat' apply m0 (f:=F))<;>rfl) (by kernel_rfl)) (.of @pa2 (λF _ _ _ _ _=>by unfold pa2;(repeat' apply m0 (f:=F))<;>rfl) (by kernel_rfl)))
noncomputable def Bb7(x:List Pln):Option (b7×List b8):=let t1:=(fb7 (rt tP x));let t2:=(tb0 (rt tP x));let t3:=(lp (jb9 (⟨⟩:ta4)) (⟨0,rt tP x,rt tX t2,0,[]⟩:J8));(sl (okE tP x) (sl (fb8 (rt tP x)) (sl (!t1) (some (.v (.slice none 0 0),[])) (sl (okE tP x) (sl (tb1 (rt tP x)) (sl ((cnE tP x)&&((cnE tX t2)&&true)) (sl (Nat.beq t3.1 1) (some (.v (.slice none 0 0),[])) (sl (Nat.beq t3.1 2) (some (eL tP t3.2.ba0,[])) none)) none) none) none)) none) none)
noncomputable def wc3(x:List Pln):List Pln:=O3 (one (r1L tP)) (Bb7 x)
noncomputable def wc4(x:List Pln):Bool:=okO (one (r1L tP)) (Bb7 x)
noncomputable def ld2:Sum:=X7 (P8 tP) (λx=>.guard (wc4 x) (.ret ((one (r1L tP)).enc (wc3 x),[])))
theorem ae8:i5 prog G 101 ld2:=Ha5 (bd Of1 Md3) (one (r1L tP)) (o:=Bb7) λx=>va6 (.s .p (.s .p (.s .p (.s .p (.s (.s .p (.b (.u Vb7.ls))) .p))))) [Vb7.pr] (by kernel_rfl) (.cons ud2 .nil) (by kernel_rfl)
theorem ff9(p q:Pln):ua6 p q=some (i (ma0 p q),[]):=by
 have key:∃t s,lp (M2 ⟨p.n.x,p.n.y,p.n.z,p.b,q.n.x,q.n.y,q.n.z,q.b⟩) ⟨0⟩=(t,s)/\((t=1/\ma0 p q=-1)\/(t=2/\ma0 p q=1)\/(t=3/\ma0 p q=0)):=by
  refine W9 (step:=M2 ⟨p.n.x,p.n.y,p.n.z,p.b,q.n.x,q.n.y,q.n.z,q.b⟩) (mk:=λj (_:Unit)=>(⟨(j:Int)⟩:U8)) 4
   (λj _=>(1<=j->p.n.x=q.n.x)/\(2<=j->p.n.y=q.n.y)/\(3<=j->p.n.z=q.n.z)/\(4<=j->p.b=q.b))
   (λt s=>(t=1/\ma0 p q=-1)\/(t=2/\ma0 p q=1)\/(t=3/\ma0 p q=0)) (by omega) (λj x hj hI=>?_) (λj x hj hI=>?_) 0 () ⟨by omega,by omega,by omega,by omega⟩
  ·have hn:=o3 hj (show 4<=4611686018427387904 by omega)
   simp only[M2,Z0,Int.toNat_natCast,hn];have hlt:(j:Int)<4:=by omega
   have hin:=f7 hj;have g:∀x1 x2 x3 x4:Int,((Nat.ble ((0+(j*1))+1) 4)&&(qa3 [CK.int .i64] (l0 [i x1,i x2,i x3,i x4] (0+(j*1)))))=true:=by
    intro x1 x2 x3 x4
    match j,hj with
    |0,_=>rfl
    |1,_=>rfl
    |2,_=>rfl
    |3,_=>rfl
   rw[btD hlt];simp only[hin,g,g8];obtain⟨i1,i2,i3,i4⟩:=hI
   match j,hj with
   |0,_ =>
    show Nx (sl (decide (p.n.x<q.n.x)) _ (sl (decide (p.n.x>q.n.x)) _ _)) _ _;refine Nx.sl (λh=>.ex ?_) λh=>Nx.sl (λh'=>.ex ?_) λh'=>.nx ⟨(),rfl,?_⟩<;>simp only[decide_eq_true_eq,decide_eq_false_iff_not] at h
    ·left;exact⟨rfl,by simp[ma0,Bb1,h]⟩
    ·right;left;simp only[decide_eq_true_eq] at h';exact⟨rfl,by simp[ma0,Bb1,h,h']⟩
    ·simp only[decide_eq_false_iff_not] at h';exact⟨by omega,by omega,by omega,by omega⟩
   |1,_ =>
    have j1:=i1 (by omega)
    show Nx (sl (decide (p.n.y<q.n.y)) _ (sl (decide (p.n.y>q.n.y)) _ _)) _ _;refine Nx.sl (λh=>.ex ?_) λh=>Nx.sl (λh'=>.ex ?_) λh'=>.nx ⟨(),rfl,?_⟩<;>simp only[decide_eq_true_eq,decide_eq_false_iff_not] at h
    ·left;exact⟨rfl,by simp[ma0,Bb1,h,j1]⟩
    ·right;left;simp only[decide_eq_true_eq] at h';exact⟨rfl,by simp[ma0,Bb1,h,h',j1]⟩
    ·simp only[decide_eq_false_iff_not] at h';exact⟨λ_=>j1,by omega,by omega,by omega⟩
   |2,_ =>
    have j1:=i1 (by omega);have j2:=i2 (by omega)
    show Nx (sl (decide (p.n.z<q.n.z)) _ (sl (decide (p.n.z>q.n.z)) _ _)) _ _;refine Nx.sl (λh=>.ex ?_) λh=>Nx.sl (λh'=>.ex ?_) λh'=>.nx ⟨(),rfl,?_⟩<;>simp only[decide_eq_true_eq,decide_eq_false_iff_not] at h
    ·left;exact⟨rfl,by simp[ma0,Bb1,h,j1,j2]⟩
    ·right;left;simp only[decide_eq_true_eq] at h';exact⟨rfl,by simp[ma0,Bb1,h,h',j1,j2]⟩
    ·simp only[decide_eq_false_iff_not] at h';exact⟨λ_=>j1,λ_=>j2,by omega,by omega⟩
   |3,_ =>
    have j1:=i1 (by omega);have j2:=i2 (by omega);have j3:=i3 (by omega)
    show Nx (sl (decide (p.b<q.b)) _ (sl (decide (p.b>q.b)) _ _)) _ _;refine Nx.sl (λh=>.ex ?_) λh=>Nx.sl (λh'=>.ex ?_) λh'=>.nx ⟨(),rfl,?_⟩<;>simp only[decide_eq_true_eq,decide_eq_false_iff_not] at h
    ·left;exact⟨rfl,by simp[ma0,Bb1,h,j1,j2,j3]⟩
    ·right;left;simp only[decide_eq_true_eq] at h';exact⟨rfl,by simp[ma0,Bb1,h,h',j1,j2,j3]⟩
    ·simp only[decide_eq_false_iff_not] at h';exact⟨λ_=>j1,λ_=>j2,λ_=>j3,by omega⟩
  ·simp only[M2,Z0];rw[bfD (by omega)]
   obtain⟨i1,i2,i3,i4⟩:=hI;have j1:=i1 (by omega);have j2:=i2 (by omega);have j3:=i3 (by omega);have j4:=i4 (by omega)
   exact⟨_,rfl,.inr (.inr ⟨rfl,by simp[ma0,Bb1,j1,j2,j3,j4]⟩)⟩
 obtain⟨t,s,h1,h2⟩:=key;unfold ua6
 simp only
 rw[h1]
 rcases h2 with⟨rfl,e⟩|⟨rfl,e⟩|⟨rfl,e⟩<;>rw[e]<;>rfl
theorem Re5(p q:Pln):fa1 p q=ma0 p q:=by unfold fa1;rw[ff9];rfl
def atP(x:List Pln)(y:Pln):Nat:=x.findIdx λp=>!decide (ma0 p y<0)
noncomputable def ins(x:List Pln)(y:Pln):List Pln:=if (atP x y<x.length/\eqP (gL tP x (atP x y)) y=true) then x else Ab7 x y (atP x y)
theorem ld3(x:List Pln)(y:Pln)(hx:x.length<=1000000):Rd (one (r1L tP)) (Ob6 x y) (λr=>r=ins x y):=by
 have h:=Ta1 (step:=Ma7 ⟨x,y.n.x,y.n.y,y.n.z,y.b⟩) (mk:=λj=>(⟨(j:Int)⟩:ta3)) (c:=λp=>!decide (ma0 p y<0)) (u:=1) (fin:=2) tP x (by omega)
  (λj hj=>by
   simp only[Ma7,Sa2,Int.toNat_natCast,le7,Re5,o3 hj (show x.length<=4611686018427387904 by omega)]
   rw[btD (g9 hj),bt (f7 hj),g8];show sl (decide (ma0 (gL tP x j) y<0)) _ _=_;cases decide (ma0 (gL tP x j) y<0)<;>rfl)
  (by simp only[Ma7,Sa2];rw[bfD (m9 (Qjba _))]) 0 (Qjaa _)
 rw[Qjax] at h;have key:∃t,lp (Ma7 ⟨x,y.n.x,y.n.y,y.n.z,y.b⟩) ⟨0⟩=(t,⟨((atP x y:Nat):Int)⟩)/\(t=1\/t=2):=by
  rw[show (⟨0⟩:ta3)=⟨((0:Nat):Int)⟩ from rfl,h]
  split
  ·exact⟨1,by rw[Qjb];rfl,.inl rfl⟩
  ·rename_i hn;refine⟨2,?_,.inr rfl⟩
   have:atP x y=x.length:=by
    unfold atP;rw[List.findIdx_eq_length];intro p hp;cases hb:(!decide (ma0 p y<0)) with
    |false=>rfl
    |true=>exact absurd (Qjac.2 ⟨p,hp,hb⟩) hn
   rw[this]
 obtain⟨t,h1,h2⟩:=key;have h3:atP x y<=x.length:=List.findIdx_le_length;have hdef:ins x y=if (atP x y<x.length/\eqP (gL tP x (atP x y)) y=true) then x else Ab7 x y (atP x y):=rfl
 generalize atP x y=n at *
 have hlo:inB (n:Int) (x.length+1)=true:=f7 (by omega)
 have hd:(bL tP (x.take n)).length=n:=by rw[<- o0,P6,Qjc];omega
 have hlen:(Ab7 x y n).length=x.length+1:=by unfold Ab7;simp only[Qjd,List.length_cons,Qjc,Qjv];omega
 have lt:len (bL tP (x.take n))=n:=by rw[o0];exact hd
 have ld:len (bL tP (x.drop n))=x.length-n:=by rw[P6,Qjv]
 have b1:(Nat.beq 1 1&&Nat.ble ((1+(x.length-n))*32) room)=true:=by rw[ea6 (by omega)];rfl
 have b2:(Nat.beq 0 0&&Nat.ble ((0+n)*32) room)=true:=by rw[ea6 (by omega)];rfl
 have e0:app [] (bL tP (x.take n))=bL tP (x.take n):=rfl;have b3:(Nat.beq (0+n) n&&Nat.ble (((0+n)+1)*32) room)=true:=by rw[ea6 (by omega),Qjb,Qjl];rfl
 have l3:len (bL tP (x.take n++[y]))=n+1:=by rw[P6,Qjd,Qjc];simp only[List.length_singleton];omega
 have b4:(Nat.beq ((0+n)+1) (n+1)&&Nat.ble ((((0+n)+1)+(x.length-n))*32) room)=true:=by rw[ea6 (by omega),Qjb,Qjl];rfl
 have z0:∀{k:Nat},Nat.beq k 0=true->k=0:=λ{k} h=>Qjt h
 have fin:ins x y=Ab7 x y n->∀m r,m=x.length+1->r=bL tP (Ab7 x y n)->Rd (one (r1L tP)) (some (.sl 0 0 m 0,[⟨73,4,r,true,false,0⟩])) (λr=>r=ins x y) :=
  λhq m r hm hr=>Ld0 (by rw[hlen];exact hm) hr hq.symm
 have tail:ins x y=Ab7 x y n->Rd (one (r1L tP)) (some (.sl 0 0 (((0+n)+1)+(x.length-n)) 0,[⟨73,4,app (bL tP (x.take n++[y])) (bL tP (x.drop n)),true,false,0⟩])) (λr=>r=ins x y):=λhq=>by
  refine fin hq _ _ (by omega) ?_
  rw[Ua7];unfold Ab7;rw[Qjan];rfl
 unfold Ob6;simp only[i6,i8];rw[h1];simp only[Int.toNat_natCast,vc9 x n h3,wc0,lt,ld,b1,b2,e0,b3,hc6,l3,b4,hlo,g8];have main:Rd (one (r1L tP)) (sl (decide ((n:Int)<(x.length:Int))) (sl (inB (n:Int) x.length) (sl (((gL tP x n).n.x==y.n.x)&&(((gL tP x n).n.y==y.n.y)&&(((gL tP x n).n.z==y.n.z)&&(((gL tP x n).b==y.b)&&true)))) (some (eL tP x,[])) (some (.sl 0 0 (((0+n)+1)+(x.length-n)) 0,[⟨73,4,app (bL tP (x.take n++[y])) (bL tP (x.drop n)),true,false,0⟩]))) none) (some (.sl 0 0 (((0+n)+1)+(x.length-n)) 0,[⟨73,4,app (bL tP (x.take n++[y])) (bL tP (x.drop n)),true,false,0⟩]))) (λr=>r=ins x y):=by
  by_cases hn:n<x.length
  ·rw[btD (g9 hn),bt (f7 hn)];exact Rd.sl (λq=>⟨_,x,rfl,qc3 tP x,by rw[hdef,if_pos ⟨hn,q⟩]⟩) λq=>tail (by
    rw[hdef,if_neg λh=>?_]
    have h:=h.2;rw[show eqP (gL tP x n) y=false from q] at h
    cases h)
  ·rw[bfD (m9 hn)];exact tail (by rw[hdef,if_neg λh=>hn h.1])
 rcases h2 with rfl|rfl
 ·exact main
 ·exact main
def Xa0(l:List Pln):Prop:=l.Pairwise LtP
theorem Mc4{x y z:Pln}(h1:LtP x y)(h2:LtP y z):LtP x z:=by unfold LtP at *;omega
theorem Zc0(x:Pln):¬ LtP x x:=by unfold LtP;omega
theorem te3(x y:Pln):LtP x y\/x=y\/LtP y x:=by
 by_cases h1:LtP x y
 ·exact .inl h1
 ·by_cases h2:LtP y x
  ·exact .inr (.inr h2)
  ·refine .inr (.inl ?_);unfold LtP at h1 h2;have e1:x.n.x=y.n.x:=by omega
   have e2:x.n.y=y.n.y:=by omega
   have e3:x.n.z=y.n.z:=by omega
   have e4:x.b=y.b:=by omega
   cases x with | mk n b=>cases y with | mk m c=>cases n;cases m;simp_all
theorem Bd1:∀{l r:List Pln},Xa0 l->Xa0 r->(∀p,p∈l↔p∈r)->l=r
 |[],[],_,_,_=>rfl
 |[],b::r,_,_,h=>by have:=(h b).2 Qjg;cases this
 |a::l,[],_,_,h=>by have:=(h a).1 Qjg;cases this
 |a::l,b::r,hl,hr,h=>by
  obtain⟨hl1,hl2⟩:=Qjq.1 hl;obtain⟨hr1,hr2⟩:=Qjq.1 hr;have hab:a=b:=by
   rcases Qja.1 ((h a).1 Qjg) with e|h1
   ·exact e
   ·rcases Qja.1 ((h b).2 Qjg) with e|h2
    ·exact e.symm
    ·exact absurd (Mc4 (hr1 a h1) (hl1 b h2)) (Zc0 b)
  subst hab;rw[Bd1 hl2 hr2 λp=>?_]
  constructor
  ·intro hp
   rcases Qja.1 ((h p).1 (Qje _ hp)) with e|h1
   ·subst e;exact absurd (hl1 p hp) (Zc0 p)
   ·exact h1
  ·intro hp
   rcases Qja.1 ((h p).2 (Qje _ hp)) with e|h1
   ·subst e;exact absurd (hr1 p hp) (Zc0 p)
   ·exact h1
def ob1:List Pln->Pln->List Pln
 |[],y=>[y]
 |a::l,y=>if ma0 a y<0 then a::ob1 l y else if eqP a y then a::l else y::a::l
theorem me2(y:Pln):∀x,ins x y=ob1 x y
 |[]=>rfl
 |a::l=>by
  have ih:=me2 y l;unfold ob1;by_cases h:ma0 a y<0
  ·rw[if_pos h,<- ih];have e:atP (a::l) y=atP l y+1:=by unfold atP;rw[Qjam];simp[h]
   unfold ins;rw[e];have e2:gL tP (a::l) (atP l y+1)=gL tP l (atP l y):=rfl;rw[e2];simp only[List.length_cons,Nat.add_lt_add_iff_right];split
   ·rfl
   ·rfl
  ·rw[if_neg h];have e:atP (a::l) y=0:=by unfold atP;rw[Qjam];simp[h]
   unfold ins;rw[e];have e2:gL tP (a::l) 0=a:=rfl;rw[e2];simp only[List.length_cons,Nat.zero_lt_succ,true_and];split
   ·rfl
   ·rfl
theorem Bb8(y p:Pln):∀x,p∈ob1 x y↔p=y\/p∈x
 |[]=>by simp[ob1]
 |a::l=>by
  unfold ob1;have ih:=Bb8 y p l;split
  ·simp only[Qja,ih];constructor
   ·rintro (h|h|h)
    ·exact .inr (.inl h)
    ·exact .inl h
    ·exact .inr (.inr h)
   ·rintro (h|h|h)
    ·exact .inr (.inl h)
    ·exact .inl h
    ·exact .inr (.inr h)
  ·split
   ·rename_i h;rw[Gb5] at h;subst h;simp only[Qja];constructor
    ·exact λh=>.inr h
    ·rintro (h|h)
     ·exact .inl h
     ·exact h
   ·simp only[Qja]
theorem ic7(y:Pln):∀{x},Xa0 x->Xa0 (ob1 x y)
 |[],_=>List.pairwise_singleton _ _
 |a::l,h=>by
  obtain⟨h1,h2⟩:=Qjq.1 h;unfold ob1;split
  ·rename_i hc;rw[Ld3] at hc;refine Qjq.2 ⟨λp hp=>?_,ic7 y h2⟩
   rcases (Bb8 y p l).1 hp with e|hp
   ·subst e;exact hc
   ·exact h1 p hp
  ·rename_i hc;rw[Ld3] at hc;split
   ·exact h
   ·rename_i hne;have hlt:LtP y a:=by
     rcases te3 y a with h|h|h
     ·exact h
     ·exact absurd ((Gb5 _ _).2 h.symm) hne
     ·exact absurd h hc
    refine Qjq.2 ⟨λp hp=>?_,h⟩
    rcases Qja.1 hp with e|hp
    ·subst e;exact hlt
    ·exact Mc4 hlt (h1 p hp)
theorem Fc3{σ:Type}{step:σ->Stp σ}{s:σ}{t:Nat}(h:step s=.exit t):lp step s=(t,s):=by rw[Ie1];exact cd6 h
theorem Bd2:Wa8 []=[]:=Qjai (mc5 [])
theorem ae9:lean []=[]:=by
 unfold lean;rw[me0,if_pos rfl,List.filter_nil,Bd2];rfl
theorem Uf9(X:List Pt):Z7 ⟨X⟩=⟨1,X⟩:=by
 unfold Z7 G6 ra1 J6;simp only[i6,i8];rw[Fc3 (step:=ja2 ⟨X⟩) (s:=⟨⟩) (t:=1) rfl];rfl
theorem If6:fa7 ⟨⟩=⟨1⟩:=by
 have h1:G4 ⟨⟩=⟨1⟩:=by
  unfold G4 s9
  simp only
  rw[Fc3 (step:=O2 ⟨⟩) (s:=⟨⟩) (t:=1) rfl];rfl
 have h2:Q7 ⟨⟩=⟨1⟩:=by
  unfold Q7 B8
  simp only
  rw[Fc3 (step:=L7 ⟨⟩) (s:=⟨⟩) (t:=1) (by
   unfold L7 J7;simp only[h1]
   rfl)]
  rfl
 unfold fa7 M3;simp only[h2];rfl
theorem be0(x:Unit):bb6 x=some (.v (.slice none 0 0),[]):=by
 have hn:([]:List Pln).length<=1000000000:=by simp
 unfold bb6;simp only[i6,i8,id1 hn,id3 hn,hd8 hn,hd9 hn,me0,Uf9,If6];rfl
theorem be1(x:Addr×Nat):Rd (one (r1L tP)) (bb7 x) (λr=>r=[]):=by
 have hn:([]:List Pln).length<=1000000000:=by simp
 have hX:=Kd8 [];obtain⟨m,r,e1,e2,e3,e4⟩:=Ad9 [] (pts []) hn (by omega)
 have hr:r=[]:=Qjai (by simpa using e4)
 subst hr;have hm:m=0:=by simpa using e2
 subst hm;obtain⟨m2,r2,k1,k2,k3⟩:=kd7 [] 0 (by simp) hn
 have e1:J5 ⟨0,[],pts []⟩=_:=e1;unfold bb7;simp only[i6,i8,id1 hn,id3 hn,hd8 hn,hd9 hn,me0,e1];have hs:app (bL tP (Wa8 (slR tP (bL tP []) 0 0))) (l0 (bL tP []) 0)=bL tP []:=by
  rw[show slR tP (bL tP []) 0 0=[] from rfl,Bd2];rfl
 rw[hs,k1];have hfin:r2.take m2=[]:=by rw[k3];rfl
 exact Qe8 (P:=λr=>r=[]) k2 rfl hfin
noncomputable def Q9(l:List Pln):List Pln:=lean l
noncomputable def s8(l:List Pln):Bool:=decide (l.length<=1000000)
noncomputable def Vb8:Sum:=X7 (P8 tP) λl=>.guard (s8 l) (.ret ((one (r1L tP)).enc (Q9 l),[]))
theorem rc2:i5 prog G 98 Vb8:=by
 refine wf4 (Md0 Ld5 λa r hr=>?_) (Md0 td6 λa r hr=>?_) (Md0 td8 λa r hr=>?_)
 ·obtain⟨p,c⟩:=a;obtain⟨hg,hr⟩:=DT.run_guard_some hr;have hl:c.length<=1000000:=by
   have:=of_decide_eq_true hg
   simp only[List.length_cons] at this;omega
  rw[wf1 p c hl,wf2 p c hl];exact hr
 ·obtain⟨hg,hr⟩:=DT.run_guard_some hr;have e:Vb2 a=lean []:=by unfold Vb2;rw[be0,ae9];exact Ea6 _ rfl
  have e2:Vb3 a=true:=by unfold Vb3;rw[be0];exact Ra5 (r:=[]) _ rfl
  rw[e,e2];exact hr
 ·obtain⟨hg,hr⟩:=DT.run_guard_some hr;have e:Fc1 a=lean []:=by rw[ae9];exact (be1 a).p
  rw[e,show Fc2 a=true from (be1 a).g]
  exact hr
theorem gf0(l:List Pln){n:Nat}(h:n=l.length):okS tP (bL tP l) 0 n=true:=by subst h;exact Rb5 tP l
theorem gf1(l:List Pln){n:Nat}(h:n=l.length):slR tP (bL tP l) 0 n=l:=by subst h;exact Rb4 tP l
end Go.Ev.Ce
namespace Go.Ev.Ce
def rmZ(p:Pln)(x:Pt):Int:=p.b*x.pw-(p.n.x*x.px+p.n.y*x.py+p.n.z*x.pz)
structure Inr(r:List Pln)(x:Pt):Prop where
 w:0<x.pw
 h:∀p∈r,0<=rmZ p x
def O4(p:Pln):Pln:=⟨⟨-p.n.x,-p.n.y,-p.n.z⟩,-p.b⟩
theorem ya0(p:Pln)(x:Pt):rmZ (O4 p) x=-rmZ p x:=by unfold rmZ O4;grind
structure Cn(r:List Pln)(x:Pt):Prop extends Inr r x where
 c:∃p q s,p∈r/\q∈r/\s∈r/\mw p q s≠0/\rmZ p x=0/\rmZ q x=0/\rmZ s x=0
def Bdd(r:List Pln):Prop:=∀d:V3,d≠⟨0,0,0⟩->∃p∈r,0<dot p.n d
def go(x:Pt)(q:Pln)(d:V3):Pt:=⟨x.px*dot q.n d+rmZ q x*d.x,x.py*dot q.n d+rmZ q x*d.y,x.pz*dot q.n d+rmZ q x*d.z,x.pw*dot q.n d⟩
theorem be2(p q:Pln)(x:Pt)(d:V3):rmZ p (go x q d)=dot q.n d*rmZ p x-rmZ q x*dot p.n d:=by simp only[rmZ,go,dot];grind
theorem kb0{a b c:Int}(hc:0<c)(h:a*c<=b*c):a<=b:=Int.le_of_mul_le_mul_right h hc
theorem first(x:Pt)(d:V3):∀r:List Pln,(∀p∈r,0<=rmZ p x)->(∃p∈r,0<dot p.n d)->∃q∈r,0<dot q.n d/\∀p∈r,0<dot p.n d->rmZ q x*dot p.n d<=rmZ p x*dot q.n d
 |[],_,h=>by obtain⟨p,hp,_⟩:=h;cases hp
 |a::r,hx,h=>by
  by_cases hr:∃p∈r,0<dot p.n d
  ·obtain⟨q,hq,h1,h2⟩:=first x d r (λp hp=>hx p (Qje _ hp)) hr
   by_cases ha:0<dot a.n d
   ·by_cases hc:rmZ q x*dot a.n d<=rmZ a x*dot q.n d
    ·refine⟨q,Qje _ hq,h1,λp hp h3=>?_⟩
     rcases Qja.1 hp with rfl|hp
     ·exact hc
     ·exact h2 p hp h3
    ·refine⟨a,Qjg,ha,λp hp h3=>?_⟩
     rcases Qja.1 hp with rfl|hp
     ·exact Int.le_refl _
     ·have h4:=h2 p hp h3;have h5:rmZ a x*dot q.n d<rmZ q x*dot a.n d:=by omega
      have h6:=Qjr h4 (Qjf ha);have h7:=Int.mul_lt_mul_of_pos_right h5 h3;have e1:rmZ q x*dot p.n d*dot a.n d=rmZ q x*dot a.n d*dot p.n d:=by grind
      have e2:rmZ a x*dot q.n d*dot p.n d=rmZ a x*dot p.n d*dot q.n d:=by grind
      have e3:rmZ p x*dot q.n d*dot a.n d=rmZ p x*dot a.n d*dot q.n d:=by grind
      refine kb0 h1 ?_;omega
   ·refine⟨q,Qje _ hq,h1,λp hp h3=>?_⟩
    rcases Qja.1 hp with rfl|hp
    ·exact absurd h3 ha
    ·exact h2 p hp h3
  ·have ha : 0 < dot a.n d := by
    obtain⟨p,hp,h3⟩:=h
    rcases Qja.1 hp with rfl|hp
    ·exact h3
    ·exact absurd ⟨p,hp,h3⟩ hr
   refine⟨a,Qjg,ha,λp hp h3=>?_⟩
   rcases Qja.1 hp with rfl|hp
   ·exact Int.le_refl _
   ·exact absurd ⟨p,hp,h3⟩ hr
theorem step{r:List Pln}{x:Pt}(hx:Inr r x)(d:V3)(h:∃p∈r,0<dot p.n d):∃q∈r,0<dot q.n d/\Inr r (go x q d):=by
 obtain⟨q,hq,h1,h2⟩:=first x d r hx.h h;refine⟨q,hq,h1,⟨Qjab hx.w h1,λp hp=>?_⟩⟩
 rw[be2];have h3:=hx.h p hp;have h4:=hx.h q hq;by_cases h5:0<dot p.n d
 ·have:=h2 p hp h5
  have e:rmZ p x*dot q.n d=dot q.n d*rmZ p x:=Int.mul_comm _ _;omega
 ·have h6:=Qjh (Qjf h1) h3;have h7:rmZ q x*dot p.n d<=0:=Int.mul_nonpos_of_nonneg_of_nonpos h4 (by omega)
  omega
theorem Re6{h q:Pln}{x:Pt}{d:V3}(h1:0<=rmZ q x)(h2:0<=dot h.n d):rmZ h (go x q d)*x.pw<=rmZ h x*(go x q d).pw\/x.pw<=0:=by
 rcases Int.lt_or_le 0 x.pw with hw|hw
 ·left;rw[be2]
  have:=Qjh h1 h2
  have h3:=Qjh this (Qjf hw);have e:rmZ h x*(go x q d).pw=dot q.n d*rmZ h x*x.pw:=by unfold go;grind
  have e2:(dot q.n d*rmZ h x-rmZ q x*dot h.n d)*x.pw=dot q.n d*rmZ h x*x.pw-rmZ q x*dot h.n d*x.pw:=by grind
  omega
 ·exact .inr hw
def neg(d:V3):V3:=⟨-d.x,-d.y,-d.z⟩
theorem te4(a d:V3):dot a (neg d)=-dot a d:=by unfold dot neg;grind
theorem Md4{d:V3}(h:d≠⟨0,0,0⟩):neg d≠⟨0,0,0⟩:=λh'=>h (by
 cases d;unfold neg at h';simp only[V3.mk.injEq] at h' ⊢;omega)
theorem turn(h:Pln){d:V3}(hd:d≠⟨0,0,0⟩):∃e,e≠(⟨0,0,0⟩:V3)/\0<=dot h.n e/\∀a,dot a d=0->dot a e=0:=by
 by_cases h1:0<=dot h.n d
 ·exact⟨d,hd,h1,λ_ h=>h⟩
 ·exact⟨neg d,Md4 hd,by rw[te4];omega,λa h=>by rw[te4,h];rfl⟩
theorem wf5{n:V3}(hn:n≠⟨0,0,0⟩):∃d,d≠(⟨0,0,0⟩:V3)/\dot n d=0:=by
 by_cases h:n.x=0/\n.y=0
 ·exact⟨⟨1,0,0⟩,by simp,by unfold dot;simp[h.1]⟩
 ·refine⟨⟨n.y,-n.x,0⟩,λh'=>h ?_,by unfold dot;grind⟩
  simp only[V3.mk.injEq] at h';omega
theorem V3.ext'{a b:V3}(h1:a.x=b.x)(h2:a.y=b.y)(h3:a.z=b.z):a=b:=by cases a;cases b;simp_all
theorem be3{m n d:V3}(hm:m≠⟨0,0,0⟩)(h1:dot m d=0)(h2:dot n d≠0):f0 m n≠⟨0,0,0⟩:=λh=>by
 unfold f0 at h;simp only[V3.mk.injEq] at h;obtain⟨c1,c2,c3⟩:=h;unfold dot at h1 h2;have e1:m.x*(n.x*d.x+n.y*d.y+n.z*d.z)=0:=by grind
 have e2:m.y*(n.x*d.x+n.y*d.y+n.z*d.z)=0:=by grind
 have e3:m.z*(n.x*d.x+n.y*d.y+n.z*d.z)=0:=by grind
 have k:∀{a:Int},a*(n.x*d.x+n.y*d.y+n.z*d.z)=0->a=0:=λh=>(Qjar.1 h).resolve_right h2
 exact hm (V3.ext' (k e1) (k e2) (k e3))
theorem Rc6(a b:V3):dot a (f0 a b)=0:=by unfold dot f0;grind
theorem Rc7(a b:V3):dot b (f0 a b)=0:=by unfold dot f0;grind
theorem Re7{p q:Pln}{x:Pt}{d:V3}(h:rmZ p x=0)(h':dot p.n d=0):rmZ p (go x q d)=0:=by rw[be2,h,h'];simp
theorem Re8(q:Pln)(x:Pt)(d:V3):rmZ q (go x q d)=0:=by rw[be2];grind
theorem If7{q:Pln}{d:V3}(h:0<dot q.n d):q.n≠⟨0,0,0⟩:=λh'=>by rw[h'] at h;unfold dot at h;simp at h
theorem qf2{a b c u v w:Int}(hu:0<u)(hv:0<v)(hw:0<w)(h1:a*v<=b*u)(h2:b*w<=c*v):a*w<=c*u:=by
 have h3:=Qjr h1 (Qjf hw);have h4:=Qjr h2 (Qjf hu);have e1:a*v*w=a*w*v:=by grind
 have e2:b*u*w=b*w*u:=by grind
 have e3:c*v*u=c*u*v:=by grind
 exact kb0 hv (by omega)
theorem Re9{r:List Pln}(hb:Bdd r)(h:Pln){x:Pt}(hx:Inr r x):∃v,Cn r v/\rmZ h v*x.pw<=rmZ h x*v.pw:=by
 obtain⟨d0,n0,p0,_⟩:=turn h (d:=⟨1,0,0⟩) (by simp)
 obtain⟨q1,m1,k1,i1⟩:=step hx d0 (hb d0 n0);have l1:=(Re6 (h:=h) (x:=x) (hx.h q1 m1) p0).resolve_right (by have:=hx.w;omega)
 obtain⟨e1,ne1,he1⟩:=wf5 (If7 k1);obtain⟨d1,n1,p1,z1⟩:=turn h ne1;obtain⟨q2,m2,k2,i2⟩:=step i1 d1 (hb d1 n1);have l2:=(Re6 (h:=h) (x:=go x q1 d0) (i1.h q2 m2) p1).resolve_right (by have:=i1.w;omega)
 have hc:=be3 (If7 k1) (z1 _ he1) (n:=q2.n) (by omega)
 obtain⟨d2,n2,p2,z2⟩:=turn h hc;obtain⟨q3,m3,k3,i3⟩:=step i2 d2 (hb d2 n2);have l3:=(Re6 (h:=h) (x:=go (go x q1 d0) q2 d1) (i2.h q3 m3) p2).resolve_right (by have:=i2.w;omega)
 have a1:rmZ q1 (go (go x q1 d0) q2 d1)=0:=Re7 (Re8 _ _ _) (z1 _ he1);refine⟨_,⟨i3,q3,q1,q2,m3,m1,m2,λh0=>?_,Re8 _ _ _,Re7 a1 (z2 _ (Rc6 _ _)),Re7 (Re8 _ _ _) (z2 _ (Rc7 _ _))⟩,?_⟩
 ·have:dot q3.n d2=0:=z2 _ h0
  omega
 ·exact qf2 i3.w i2.w hx.w l3 (qf2 i2.w i1.w hx.w l2 l1)
theorem rb3{r:List Pln}(hb:Bdd r){h:Pln}(hv:∀v,Cn r v->0<=rmZ h v){x:Pt}(hx:Inr r x):0<=rmZ h x:=by
 obtain⟨v,h1,h2⟩:=Re9 hb h hx;have h3:=Qjh (hv v h1) (Qjf hx.w);exact kb0 h1.w (by rw[Int.zero_mul];omega)
def mid(x y:Pt):Pt:=⟨x.px*y.pw+y.px*x.pw,x.py*y.pw+y.py*x.pw,x.pz*y.pw+y.pz*x.pw,2*(x.pw*y.pw)⟩
theorem Se0(p:Pln)(x y:Pt):rmZ p (mid x y)=rmZ p x*y.pw+rmZ p y*x.pw:=by unfold rmZ mid;grind
theorem Inr.mid{r:List Pln}{x y:Pt}(hx:Inr r x)(hy:Inr r y):Inr r (mid x y):=⟨by unfold Ce.mid;exact Qjab (by decide) (Qjab hx.w hy.w),λp hp=>by
 rw[Se0];exact Int.add_nonneg (Qjh (hx.h p hp) (Qjf hy.w)) (Qjh (hy.h p hp) (Qjf hx.w))⟩
def Md5(r:List Pln):Prop:=∃x:Pt,0<x.pw/\∀p∈r,0<rmZ p x
theorem te5{r:List Pln}:∀(l:List Pln),(∀p∈l,p∈r)->(∃x,Inr r x)->(∀p∈l,∃v,Inr r v/\0<rmZ p v)->∃x,Inr r x/\∀p∈l,0<rmZ p x
 |[],_,h,_=>by obtain⟨x,h⟩:=h;exact⟨x,h,λp hp=>by cases hp⟩
 |a::l,hl,h,hv=>by
  obtain⟨x,h1,h2⟩:=te5 l (λp hp=>hl p (Qje _ hp)) h (λp hp=>hv p (Qje _ hp))
  obtain⟨y,h3,h4⟩:=hv a Qjg;refine⟨mid x y,h1.mid h3,λp hp=>?_⟩
  rw[Se0]
  rcases Qja.1 hp with rfl|hp
  ·have:=Qjh (h1.h p (hl p Qjg)) (Qjf h3.w)
   have:=Qjab h4 h1.w
   omega
  ·have:=Qjab (h2 p hp) h3.w
   have:=Qjh (h3.h p (hl p (Qje _ hp))) (Qjf h1.w)
   omega
theorem Se1{r:List Pln}(hb:Bdd r)(h0:r≠[]):Md5 r↔∀p∈r,∃v,Cn r v/\0<rmZ p v:=by
 constructor
 ·intro ⟨x,hw,hx⟩ p hp;by_cases h:∃v,Cn r v/\0<rmZ p v
  ·exact h
  ·have hx':Inr r x:=⟨hw,λq hq=>Qjf (hx q hq)⟩
   have:=rb3 hb (h:=O4 p) (λv hv=>by
    rw[ya0]
    have:¬ 0<rmZ p v:=λh'=>h ⟨v,hv,h'⟩
    omega) hx'
   rw[ya0] at this
   have:=hx p hp
   omega
 ·intro h;obtain⟨p,hp⟩:=List.exists_mem_of_ne_nil r h0;obtain⟨v,hv,_⟩:=h p hp;obtain⟨x,h1,h2⟩:=te5 r (λ_ h=>h) ⟨v,hv.toInr⟩ λp hp=>by
   obtain⟨v,hv,h⟩:=h p hp;exact⟨v,hv.toInr,h⟩
  exact⟨x,h1.w,h2⟩
structure Eqv(x v:Pt):Prop where
 e1:x.px*v.pw=v.px*x.pw
 e2:x.py*v.pw=v.py*x.pw
 e3:x.pz*v.pw=v.pz*x.pw
theorem Eqv.rm{x v:Pt}(h:Eqv x v)(p:Pln):rmZ p x*v.pw=rmZ p v*x.pw:=by
 obtain⟨e1,e2,e3⟩:=h;unfold rmZ
 grind
theorem Eqv.inr{r:List Pln}{x v:Pt}(h:Eqv x v)(hw:0<x.pw)(hv:Inr r v):Inr r x:=⟨hw,λp hp=>by
 have:=h.rm p
 have h2:=Qjh (hv.h p hp) (Qjf hw);exact kb0 hv.w (by rw[Int.zero_mul];omega)⟩
end Go.Ev.Ce
namespace Go.Ev.Ce
open Go Go.Ev Go.Ev.L Go.Proofs
theorem Ce2{p:Pln}{x:Pt}(hp:Bd p)(hx:Okx x):rm p x=rmZ p x:=by
 unfold rm rmZ;obtain⟨w1,w2,⟨a1,a2⟩,⟨a3,a4⟩,a5,a6⟩:=hx;have h0:=mb hp.b1 hp.b2 (show -600000000000<=x.pw by omega) w2
 have h1:=mb hp.x1 hp.x2 a1 a2;have h2:=mb hp.y1 hp.y2 a3 a4;have h3:=mb hp.z1 hp.z2 a5 a6;exact ia4 (by omega) (by omega)
theorem te6{r:List Pln}(hb:Bds r){x:Pt}(hx:Okx x):inn r x=true↔Inr r x:=by
 unfold inn;rw[Qjaq];constructor
 ·intro h;refine⟨hx.w1,λp hp=>?_⟩
  have:=h p hp
  rw[Ce2 (hb p hp) hx] at this;simpa using this
 ·intro h p hp;rw[Ce2 (hb p hp) hx];simpa using h.h p hp
theorem qf3{p q s:Pln}(h:(mpt p q s).2=true):mw p q s≠0/\∃k:Int,k≠0/\k*(mpt p q s).1.px=(mv p q s).x/\k*(mpt p q s).1.py=(mv p q s).y/\k*(mpt p q s).1.pz=(mv p q s).z/\k*(mpt p q s).1.pw=mw p q s:=by
 unfold mpt at h ⊢;by_cases h0:mw p q s=0
 ·rw[if_pos h0] at h;cases h
 refine⟨h0,?_⟩;have hg:=gd5 (v:=mv p q s) h0;have dv:∀{x:Int},(gc (mv p q s) (mw p q s))∣x->gc (mv p q s) (mw p q s)*Int.tdiv x (gc (mv p q s) (mw p q s))=x:=λh=>Int.mul_tdiv_cancel' h
 have d1:gc (mv p q s) (mw p q s)∣(mv p q s).x:=by
  rw[<- Qjaj];exact Qjo.2 (Qjal (Qjaf _ _) (Qjaf _ _))
 have d2:gc (mv p q s) (mw p q s)∣(mv p q s).y:=by
  rw[<- Qjaj];exact Qjo.2 (Qjal (Qjaf _ _) (Qjz _ _))
 have d3:gc (mv p q s) (mw p q s)∣(mv p q s).z:=by
  rw[<- Qjaj];exact Qjo.2 (Qjal (Qjz _ _) (Qjaf _ _))
 have d4:gc (mv p q s) (mw p q s)∣mw p q s:=by
  rw[<- Qjaj];exact Qjo.2 (Qjal (Qjz _ _) (Qjz _ _))
 rw[if_neg h0];by_cases h1:mw p q s<0
 ·rw[if_pos h1];have e:∀{x:Int},(gc (mv p q s) (mw p q s))∣x->-(gc (mv p q s) (mw p q s))*Int.tdiv (-x) (gc (mv p q s) (mw p q s))=x:=λ{x} h=>by
   rw[Int.neg_mul,dv ((Int.dvd_neg).2 h),Int.neg_neg]
  exact⟨-(gc (mv p q s) (mw p q s)),by omega,e d1,e d2,e d3,e d4⟩
 ·rw[if_neg h1];exact⟨gc (mv p q s) (mw p q s),by omega,dv d1,dv d2,dv d3,dv d4⟩
theorem Se2{p q s:Pln}(h:(mpt p q s).2=true):rmZ p (mpt p q s).1=0/\rmZ q (mpt p q s).1=0/\rmZ s (mpt p q s).1=0:=by
 obtain⟨_,k,hk,e1,e2,e3,e4⟩:=qf3 h;generalize (mpt p q s).1=x at *
 have f:∀a:Pln,a.b*mw p q s-(a.n.x*(mv p q s).x+a.n.y*(mv p q s).y+a.n.z*(mv p q s).z)=0->rmZ a x=0:=λa ha=>by
  rw[<- e1,<- e2,<- e3,<- e4] at ha
  have:k*rmZ a x=0:=by rw[<- ha];unfold rmZ;grind
  exact (Qjar.1 this).resolve_left hk
 refine⟨f p ?_,f q ?_,f s ?_⟩<;>(simp only[mw,mv,dot,f0];grind)
theorem gf2{p q s:Pln}(h:mw p q s≠0):(mpt p q s).2=true:=by
 unfold mpt;rw[if_neg h]
 split<;>rfl
theorem Se3{p q s:Pln}{x:Pt}(h1:rmZ p x=0)(h2:rmZ q x=0)(h3:rmZ s x=0):mw p q s*x.px=(mv p q s).x*x.pw/\mw p q s*x.py=(mv p q s).y*x.pw/\mw p q s*x.pz=(mv p q s).z*x.pw:=by
 have i1:(mv p q s).x*x.pw-mw p q s*x.px=(f0 q.n s.n).x*rmZ p x+(f0 s.n p.n).x*rmZ q x+(f0 p.n q.n).x*rmZ s x:=by simp only[mw,mv,dot,f0,rmZ];grind
 have i2:(mv p q s).y*x.pw-mw p q s*x.py=(f0 q.n s.n).y*rmZ p x+(f0 s.n p.n).y*rmZ q x+(f0 p.n q.n).y*rmZ s x:=by simp only[mw,mv,dot,f0,rmZ];grind
 have i3:(mv p q s).z*x.pw-mw p q s*x.pz=(f0 q.n s.n).z*rmZ p x+(f0 s.n p.n).z*rmZ q x+(f0 p.n q.n).z*rmZ s x:=by simp only[mw,mv,dot,f0,rmZ];grind
 rw[h1,h2,h3] at i1 i2 i3;simp only[Int.mul_zero,Int.add_zero] at i1 i2 i3;omega
theorem wf6{p q s:Pln}{x v:Pt}(h:mw p q s≠0)(h1:rmZ p x=0)(h2:rmZ q x=0)(h3:rmZ s x=0)(k1:rmZ p v=0)(k2:rmZ q v=0)(k3:rmZ s v=0):Eqv x v:=by
 obtain⟨a1,a2,a3⟩:=Se3 h1 h2 h3;obtain⟨c1,c2,c3⟩:=Se3 k1 k2 k3;have f:∀{a c m:Int},mw p q s*a=m*x.pw->mw p q s*c=m*v.pw->a*v.pw=c*x.pw:=λ{a c m} ha hc=>by
  have:mw p q s*(a*v.pw-c*x.pw)=0:=by grind
  have:=(Qjar.1 this).resolve_left h
  omega
 exact⟨f a1 c1,f a2 c2,f a3 c3⟩
theorem Ce3{r:List Pln}{p q:Pln}{out:List Pt}{s:Pln}{x:Pt}(h:x∈out):x∈Ja6 r p q out s:=by
 unfold Ja6;split
 ·exact List.mem_append_left _ h
 ·exact h
theorem ld4{r:List Pln}{p q:Pln}{x:Pt}:∀{l:List Pln} {out:List Pt},x∈out->x∈qb5 r p q l out
 |[],_,h=>h
 |s::l,out,h=>ld4 (l:=l) (out:=Ja6 r p q out s) (Ce3 h)
theorem Fc4{r:List Pln}{p:Pln}{x:Pt}:∀{l:List Pln} {out:List Pt},x∈out->x∈ab8 r p l out
 |[],_,h=>h
 |_::l,_,h=>Fc4 (l:=l) (ld4 h)
theorem be4{r:List Pln}{x:Pt}:∀{l:List Pln} {out:List Pt},x∈out->x∈Dc4 r l out
 |[],_,h=>h
 |_::l,_,h=>be4 (l:=l) (Fc4 h)
theorem Ce4{r:List Pln}{p q:Pln}{out:List Pt}{s:Pln}(h1:(mpt p q s).2=true)(h2:inn r (mpt p q s).1=true):(mpt p q s).1∈Ja6 r p q out s:=by
 unfold Ja6;rw[h1,h2];cases h:gc1 out (mpt p q s).1 with
 |true=>simpa using (Oe2 _ _).1 h
 |false=>simp
theorem ld5{r:List Pln}{p q s:Pln}(h1:(mpt p q s).2=true)(h2:inn r (mpt p q s).1=true):∀{l:List Pln} {out:List Pt},s∈l->(mpt p q s).1∈qb5 r p q l out
 |[],_,h=>by cases h
 |t::l,out,h=>by
  show _∈qb5 r p q l (Ja6 r p q out t)
  rcases Qja.1 h with rfl|h
  ·exact ld4 (Ce4 h1 h2)
  ·exact ld5 h1 h2 h
structure Hit(r:List Pln)(Q:Pt->Prop)(p q s:Pln):Prop where
 h1:(mpt p q s).2=true
 h2:inn r (mpt p q s).1=true
 h3:Q (mpt p q s).1
theorem be5{r:List Pln}{Q:Pt->Prop}{p q s:Pln}(hq:Hit r Q p q s)(hs:Hit r Q p s q)(hne:q≠s):∀{l:List Pln} {out:List Pt},q∈l->s∈l->∃x∈ab8 r p l out,Q x
 |[],_,h,_=>by cases h
 |t::l,out,hql,hsl=>by
  show ∃x∈ab8 r p l (qb5 r p t l out),Q x
  rcases Qja.1 hql with rfl|h1
  ·have h2:=(Qja.1 hsl).resolve_left λh=>hne h.symm
   exact⟨_,Fc4 (ld5 hq.h1 hq.h2 h2),hq.h3⟩
  ·rcases Qja.1 hsl with rfl|h2
   ·exact⟨_,Fc4 (ld5 hs.h1 hs.h2 h1),hs.h3⟩
   ·exact be5 hq hs hne (l:=l) h1 h2
theorem be6 {r : List Pln} {Q : Pt → Prop} {p q s : Pln} (H : ∀ a c d, (a = p ∨ a = q ∨ a = s) → (c = p ∨ c = q ∨ c = s) → (d = p ∨ d = q ∨ d = s) → a ≠ c → c ≠ d → a ≠ d → Hit r Q a c d) (h1 : p ≠ q) (h2 : q ≠ s) (h3 : p ≠ s) :
  ∀{l:List Pln} {out:List Pt},p∈l->q∈l->s∈l->∃x∈Dc4 r l out,Q x
 |[],_,h,_,_=>by cases h
 |t::l,out,hp,hq,hs=>by
  have fin:∀{a c d:Pln} {out:List Pt},(a=p\/a=q\/a=s)->(c=p\/c=q\/c=s)->(d=p\/d=q\/d=s)->a≠c->c≠d->a≠d->c∈l->d∈l->∃x∈Dc4 r l (ab8 r a l out),Q x:=λha hc hd n1 n2 n3 m1 m2=>by
   obtain⟨x,hx,hQ⟩:=be5 (H _ _ _ ha hc hd n1 n2 n3) (H _ _ _ ha hd hc n3 n2.symm n1) n2 (out:=_) m1 m2;exact⟨x,be4 hx,hQ⟩
  show ∃x∈Dc4 r l (ab8 r t l out),Q x
  rcases Qja.1 hp with rfl|hp'
  ·exact fin (.inl rfl) (.inr (.inl rfl)) (.inr (.inr rfl)) h1 h2 h3 ((Qja.1 hq).resolve_left (Ne.symm h1)) ((Qja.1 hs).resolve_left (Ne.symm h3))
  ·rcases Qja.1 hq with rfl|hq'
   ·exact fin (.inr (.inl rfl)) (.inl rfl) (.inr (.inr rfl)) (Ne.symm h1) h3 h2 hp' ((Qja.1 hs).resolve_left (Ne.symm h2))
   ·rcases Qja.1 hs with rfl|hs'
    ·exact fin (.inr (.inr rfl)) (.inl rfl) (.inr (.inl rfl)) (Ne.symm h3) h1 (Ne.symm h2) hp' hq'
    ·exact be6 H h1 h2 h3 hp' hq' hs'
theorem If8{p q s:Pln}(h:mw p q s≠0):p≠q/\q≠s/\p≠s:=by
 refine⟨λe=>h ?_,λe=>h ?_,λe=>h ?_⟩<;>(subst e;simp only[mw,dot,f0];grind)
theorem wf7{r:List Pln}(hb:Bds r):∀x∈cor r,Cn r x:=se0 λp hp q hq s hs h hi=>by
 obtain⟨w1,w2,w3,w4,w5⟩:=ke8 (hb p hp) (hb q hq) (hb s hs) h;obtain⟨e1,e2,e3⟩:=Se2 h;exact⟨(te6 hb ⟨w1,w5,w2,w3,w4⟩).1 hi,p,q,s,hp,hq,hs,(qf3 h).1,e1,e2,e3⟩
theorem Se4{r:List Pln}(hb:Bds r){v:Pt}(hv:Cn r v):∃x∈cor r,Eqv x v:=by
 obtain⟨p,q,s,hp,hq,hs,hw,e1,e2,e3⟩:=hv.c;obtain⟨n1,n2,n3⟩:=If8 hw;refine be6 (λa c d ha hc hd m1 m2 m3=>?_) n1 n2 n3 hp hq hs
 have hm:∀{a},(a=p\/a=q\/a=s)->a∈r/\rmZ a v=0:=λh=>by
  rcases h with rfl|rfl|rfl
  ·exact⟨hp,e1⟩
  ·exact⟨hq,e2⟩
  ·exact⟨hs,e3⟩
 have hw':mw a c d≠0:=by
  have k:mw a c d=mw p q s\/mw a c d=-mw p q s:=by
   rcases ha with rfl|rfl|rfl<;>rcases hc with rfl|rfl|rfl<;>rcases hd with rfl|rfl|rfl<;>first|exact absurd rfl m1|exact absurd rfl m2|exact absurd rfl m3|exact .inl rfl|(left;simp only[mw,dot,f0];grind;done)|(right;simp only[mw,dot,f0];grind;done)
  rcases k with k|k<;>omega
 have h:=gf2 hw';obtain⟨w1,w2,w3,w4,w5⟩:=ke8 (hb a (hm ha).1) (hb c (hm hc).1) (hb d (hm hd).1) h;obtain⟨f1,f2,f3⟩:=Se2 h;have he:=wf6 hw' f1 f2 f3 (hm ha).2 (hm hc).2 (hm hd).2;exact⟨h,(te6 hb ⟨w1,w5,w2,w3,w4⟩).2 (he.inr w1 hv.toInr),he⟩
theorem Mc5(c:List Pln):Bdd (c++ws):=λd hd=>by
 have k:∀{n:V3} {m:Int},(⟨n,m⟩:Pln)∈ws->0<dot n d->∃p∈c++ws,0<dot p.n d:=λh h'=>⟨_,List.mem_append_right _ h,h'⟩
 by_cases h1:0<d.x
 ·exact k (n:=⟨1,0,0⟩) (m:=24) (by simp[ws]) (by unfold dot;simp;omega)
 by_cases h2:d.x<0
 ·exact k (n:=⟨-1,0,0⟩) (m:=24) (by simp[ws]) (by unfold dot;simp;omega)
 by_cases h3:0<d.y
 ·exact k (n:=⟨0,1,0⟩) (m:=24) (by simp[ws]) (by unfold dot;simp;omega)
 by_cases h4:d.y<0
 ·exact k (n:=⟨0,-1,0⟩) (m:=24) (by simp[ws]) (by unfold dot;simp;omega)
 by_cases h5:0<d.z
 ·exact k (n:=⟨0,0,1⟩) (m:=24) (by simp[ws]) (by unfold dot;simp;omega)
 by_cases h6:d.z<0
 ·exact k (n:=⟨0,0,-1⟩) (m:=24) (by simp[ws]) (by unfold dot;simp;omega)
 exact absurd (V3.ext' (by show d.x=0;omega) (by show d.y=0;omega) (by show d.z=0;omega)) hd
theorem te7{r:List Pln}(hb:Bds r){p:Pln}(hp:Bd p):pos (cor r) p=true↔∃v,Cn r v/\0<rmZ p v:=by
 unfold pos;rw[Qjac];constructor
 ·rintro⟨x,hx,h⟩;rw[Ce2 hp (Ec3 hb x hx)] at h;exact⟨x,wf7 hb x hx,by simpa using h⟩
 ·rintro⟨v,hv,h⟩;obtain⟨x,hx,he⟩:=Se4 hb hv;refine⟨x,hx,?_⟩;rw[Ce2 hp (Ec3 hb x hx)];have h1:=he.rm p;have h2:=Qjab h (Ec3 hb x hx).w1
  have:0<rmZ p x:=Int.lt_of_mul_lt_mul_right (by rw[Int.zero_mul];omega:0*v.pw<rmZ p x*v.pw) (Qjf hv.w)
  simpa using this
theorem Pb2{r:List Pln}(hb:Bds r)(hd:Bdd r)(h0:r≠[]):Uc8 r=true↔Md5 r:=by
 rw[Se1 hd h0];unfold Uc8;rw[Qjaq];exact⟨λh p hp=>(te7 hb (hb p hp)).1 (h p hp),λh p hp=>(te7 hb (hb p hp)).2 (h p hp)⟩
end Go.Ev.Ce
