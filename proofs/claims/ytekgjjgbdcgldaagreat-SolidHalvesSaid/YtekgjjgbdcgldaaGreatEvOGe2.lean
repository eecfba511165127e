/- Own work. -/
import Derived.Test.YtekgjjgbdcgldaaGreatEvOE6
import Derived.Shelf.SlSortCmp.WholeK
set_option linter.all false
def Qja:=@List.mem_cons
def Qjb:=@Nat.zero_add
def Qjc:=@List.length_take
def Qjd:=@List.length_append
def Qje:=@List.mem_cons_of_mem
def Qjf:=@Int.le_of_lt
def Qjg:=@List.mem_cons_self
def Qjh:=@Int.mul_nonneg
def Qji:=@Nat.le_refl
def Qjj:=@List.getElem?_eq_getElem
def Qjk:=@Eq.trans
def Qjl:=@Nat.beq_refl
def Qjm:=@List.length_set
def Qjn:=@List.take_succ_eq_append_getElem
def Qjo:=@Int.natCast_dvd_natCast
def Qjp:=@Bool.and_true
def Qjq:=@List.pairwise_cons
def Qjr:=@Int.mul_le_mul_of_nonneg_right
def Qjs:=@List.take_append_of_le_length
def Qjt:=@Nat.eq_of_beq_eq_true
def Qju:=@Bool.and_eq_true
def Qjv:=@List.length_drop
def Qjw:=@List.getD_eq_getElem?_getD
def Qjx:=@Array.getElem?_append_left
def Qjy:=@List.getElem?_map
def Qjz:=@Nat.gcd_dvd_right
def Qjaa:=@Nat.zero_le
def Qjab:=@Int.mul_pos
def Qjac:=@List.any_eq_true
def Qjad:=@List.findIdx_lt_length_of_exists
def Qjae:=@List.filter_cons
def Qjaf:=@Nat.gcd_dvd_left
def Qjag:=@Nat.mul_le_mul_right
def Qjah:=@List.append_nil
def Qjai:=@List.eq_nil_of_length_eq_zero
def Qjaj:=@Int.dvd_natAbs
def Qjak:=@List.filter_append
def Qjal:=@Nat.dvd_trans
def Qjam:=@List.findIdx_cons
def Qjan:=@List.append_assoc
def Qjao:=@Nat.blt_eq
def Qjap:=@List.drop_eq_getElem_cons
def Qjaq:=@List.all_eq_true
def Qjar:=@Int.mul_eq_zero
def Qjas:=@Array.getElem?_eq_none
def Qjat:=@List.take_of_length_le
def Qjau:=@List.drop_eq_nil_of_le
def Qjav:=@Nat.le_of_ble_eq_true
def Qjaw:=@Array.getElem?_modify
def Qjax:=@List.drop_zero
def Qjay:=@List.getElem_set_self
def Qjaz:=@List.length_replicate
def Qjba:=@Nat.lt_irrefl
namespace Go.Ev.Ce
open Go Go.Ev Go.Ev.L Go.Proofs
theorem me5(x:List Pln)(y:Pln)(hx:x.length<=1000000):pa2 x y=true:=(Je2 x y hx).g
theorem if0(x:List Pln)(y:Pln)(hx:x.length<=1000000):H9 x y≠[]/\(H9 x y).length<=x.length+1/\∀p∈H9 x y,p=y\/p∈x:=(Je2 x y hx).p
structure Fc(ph:Nat)(out:List Pln)(m:Nat):Prop where
 h:(ph=0/\out=[])\/ph=1
 l:out.length<=m
theorem Fc.more{ph m m':Nat}{out:List Pln}(h:Fc ph out m)(hm:m<=m'):Fc ph out m':=⟨h.h,Nat.le_trans h.l hm⟩
theorem Ye5 (l : List V3) (hl : l.length ≤ 48) (a c : Nat) (ha : a < l.length) (hc : c < a) (h0 : Nat) (out : List Pln) (m : Nat) (hm : m ≤ 900000) (hf : Fc h0 out m) :
  ∃t s,lp (X0 ⟨l,(a:Int),(c:Int)⟩) ⟨h0,0,out⟩=(t,s)/\(t=s.ph+1/\Fc s.ph s.ta0 (m+100)):=by
 refine da0 (step:=X0 ⟨l,(a:Int),(c:Int)⟩) (mk:=λj (x:Nat×List Pln)=>(⟨x.1,(j:Int),x.2⟩:A8)) c (λj x=>Fc x.1 x.2 (m+2*j)/\j<=48) (λt s=>t=s.ph+1/\Fc s.ph s.ta0 (m+100)) (by omega) (λj x hj hx=>?_) (λj x hj hx=>?_) 0 (h0,out) ⟨hf,by omega⟩
 ·obtain⟨h,o⟩:=x;obtain⟨⟨hx,hx2⟩,_⟩:=hx;have hn:=o4 hj (show c<=4611686018427387904 by omega)
  have hh:∀p,ka6 p l=true:=λp=>me4 p l (by omega)
  have hg1:∀y,pa2 o y=true:=λy=>me5 o y (by simp only at hx2;omega)
  have hp1:∀y,H9 o y≠[]/\(H9 o y).length<=o.length+1:=λy=>by have:=if0 o y (by simp only at hx2;omega);exact⟨this.1,this.2.1⟩
  have hg2:∀y z,pa2 (H9 o y) z=true:=λy z=>me5 _ z (by have:=(hp1 y).2;simp only at hx2;omega)
  have hp2:∀y z,(H9 (H9 o y) z).length<=o.length+2:=λy z=>by
   have:=(if0 (H9 o y) z (by have:=(hp1 y).2;simp only at hx2;omega)).2.1
   have:=(hp1 y).2
   omega
  simp only at hx hx2
  have stay:Fc h o (m+2*(j+1))/\j+1<=48:=⟨⟨hx,by omega⟩,by omega⟩
  have put1:∀y,Fc 1 (H9 o y) (m+2*(j+1))/\j+1<=48:=λy=>⟨⟨.inr rfl,by have:=(hp1 y).2;omega⟩,by omega⟩
  have put2:∀y z,Fc 1 (H9 (H9 o y) z) (m+2*(j+1))/\j+1<=48:=λy z=>⟨⟨.inr rfl,by have:=hp2 y z;omega⟩,by omega⟩
  rcases hx with⟨rfl,rfl⟩|rfl
  ·show Nx (J4 Stp.next Stp.exit Stp.fail _ _) _ _;simp only[J4,Ta7,Int.toNat_natCast,i5,q8,hh,hg1,hg2,hn];rw[btD (i6 hj),bt (f7 ha),bt (f7 (show c<l.length by omega)),bt (f7 (show j<l.length by omega))]
   simp only[g9];refine Nx.sl (λ_=>.nx ⟨(0,[]),rfl,stay⟩) λ_=>Nx.sl (λ_=>Nx.sl (λ_=>.nx ⟨(1,_),rfl,put2 _ _⟩) λ_=>.nx ⟨(1,_),rfl,put1 _⟩) λ_=>Nx.sl (λ_=>.nx ⟨(1,_),rfl,put1 _⟩) λ_=>.nx ⟨(0,[]),rfl,stay⟩
  ·show Nx (J5 Stp.next Stp.exit Stp.fail _ _) _ _;simp only[J5,Ta7,Int.toNat_natCast,i5,q8,hh,hg1,hg2,hn];rw[btD (i6 hj),bt (f7 ha),bt (f7 (show c<l.length by omega)),bt (f7 (show j<l.length by omega))]
   simp only[g9];refine Nx.sl (λ_=>.nx ⟨(1,o),rfl,stay⟩) λ_=>Nx.sl (λ_=>Nx.sl (λ_=>.nx ⟨(1,_),rfl,put2 _ _⟩) λ_=>.nx ⟨(1,_),rfl,put1 _⟩) λ_=>Nx.sl (λ_=>.nx ⟨(1,_),rfl,put1 _⟩) λ_=>.nx ⟨(1,o),rfl,stay⟩
 ·obtain⟨h,o⟩:=x;obtain⟨⟨hx,hx2⟩,h48⟩:=hx
  simp only at hx hx2
  rcases hx with⟨rfl,rfl⟩|rfl
  ·refine⟨1,?_,rfl,⟨.inl ⟨rfl,rfl⟩,by show 0<=_;omega⟩⟩
   show J4 Stp.next Stp.exit Stp.fail _ _=_;simp only[J4];rw[bfD (by omega)]
  ·refine⟨2,?_,rfl,⟨.inr rfl,by show o.length<=_;omega⟩⟩
   show J5 Stp.next Stp.exit Stp.fail _ _=_;simp only[J5];rw[bfD (by omega)]
theorem Ye6 (l : List V3) (hl : l.length ≤ 48) (a : Nat) (ha : a < l.length) (h0 : Nat) (out : List Pln) (m : Nat) (hm : m ≤ 800000) (hf : Fc h0 out m) :
  ∃t s,lp (X1 ⟨(a:Int)⟩) ⟨h0,l,0,out⟩=(t,s)/\(t=s.ph+1/\Fc s.ph s.ta0 (m+5000)/\s.i7=l):=by
 refine da0 (step:=X1 ⟨(a:Int)⟩) (mk:=λj (x:Nat×List Pln)=>(⟨x.1,l,(j:Int),x.2⟩:A9)) a (λj x=>Fc x.1 x.2 (m+100*j)/\j<=48) (λt s=>t=s.ph+1/\Fc s.ph s.ta0 (m+5000)/\s.i7=l) (by omega) (λj x hj hx=>?_) (λj x hj hx=>?_) 0 (h0,out) ⟨hf,by omega⟩
 ·obtain⟨h,o⟩:=x;obtain⟨hx,_⟩:=hx;have hn:=o4 hj (show a<=4611686018427387904 by omega)
  simp only at hx
  obtain⟨t,s,e1,e2,e3⟩:=Ye5 l hl a j ha hj h o (m+100*j) (by omega) hx
  obtain⟨s1,s2,s3⟩:=s
  simp only at e2 e3
  have go:Fc s1 s3 (m+100*(j+1))/\j+1<=48:=⟨e3.more (by omega),by omega⟩
  rcases hx.h with⟨rfl,rfl⟩|rfl
  ·show Nx (J6 Stp.next Stp.exit Stp.fail _ _) _ _;simp only[J6,i5,i8,hn];rw[btD (i6 hj),e1,e2]
   rcases e3.h with⟨rfl,rfl⟩|rfl
   ·exact .nx ⟨(0,[]),rfl,go⟩
   ·exact .nx ⟨(1,s3),rfl,go⟩
  ·show Nx (J7 Stp.next Stp.exit Stp.fail _ _) _ _;simp only[J7,i5,i8,hn];rw[btD (i6 hj),e1,e2]
   rcases e3.h with⟨rfl,rfl⟩|rfl
   ·exact .nx ⟨(0,[]),rfl,go⟩
   ·exact .nx ⟨(1,s3),rfl,go⟩
 ·obtain⟨h,o⟩:=x;obtain⟨hx,h48⟩:=hx
  simp only at hx
  have h2:=hx.more (show m+100*j<=m+5000 by omega)
  rcases hx.h with⟨rfl,rfl⟩|rfl
  ·refine⟨1,?_,rfl,h2,rfl⟩;show J6 Stp.next Stp.exit Stp.fail _ _=_;simp only[J6];rw[bfD (by omega)]
  ·refine⟨2,?_,rfl,h2,rfl⟩;show J7 Stp.next Stp.exit Stp.fail _ _=_;simp only[J7];rw[bfD (by omega)]
theorem Ye7 (l : List V3) (hl : l.length ≤ 48) :
  ∃t s,lp (va1 ⟨⟩) ⟨0,l,0,[]⟩=(t,s)/\(t=s.ph+1/\Fc s.ph s.ta0 250000):=by
 refine da0 (step:=va1 ⟨⟩) (mk:=λj (x:Nat×List Pln)=>(⟨x.1,l,(j:Int),x.2⟩:C0)) l.length (λj x=>Fc x.1 x.2 (5000*j)/\j<=48) (λt s=>t=s.ph+1/\Fc s.ph s.ta0 250000) (by omega) (λj x hj hx=>?_) (λj x hj hx=>?_) 0 (0,[]) ⟨⟨.inl ⟨rfl,rfl⟩,Qji _⟩,by omega⟩
 ·obtain⟨h,o⟩:=x;obtain⟨hx,_⟩:=hx;have hn:=o4 hj (show l.length<=4611686018427387904 by omega)
  simp only at hx
  obtain⟨t,s,e1,e2,e3,e4⟩:=Ye6 l hl j hj h o (5000*j) (by omega) hx
  obtain⟨s1,s2,s3,s4⟩:=s
  simp only at e2 e3 e4
  subst e4;have go:Fc s1 s4 (5000*(j+1))/\j+1<=48:=⟨e3.more (by omega),by omega⟩
  rcases hx.h with⟨rfl,rfl⟩|rfl
  ·show Nx (J8 Stp.next Stp.exit Stp.fail ⟨⟩ _) _ _;simp only[J8,i5,i8,hn];rw[btD (i6 hj),e1,e2]
   rcases e3.h with⟨rfl,rfl⟩|rfl
   ·exact .nx ⟨(0,[]),rfl,go⟩
   ·exact .nx ⟨(1,s4),rfl,go⟩
  ·show Nx (J9 Stp.next Stp.exit Stp.fail ⟨⟩ _) _ _;simp only[J9,i5,i8,hn];rw[btD (i6 hj),e1,e2]
   rcases e3.h with⟨rfl,rfl⟩|rfl
   ·exact .nx ⟨(0,[]),rfl,go⟩
   ·exact .nx ⟨(1,s4),rfl,go⟩
 ·obtain⟨h,o⟩:=x;obtain⟨hx,h48⟩:=hx
  simp only at hx
  have h2:=hx.more (show 5000*j<=250000 by omega)
  rcases hx.h with⟨rfl,rfl⟩|rfl
  ·refine⟨1,?_,rfl,h2⟩;show J8 Stp.next Stp.exit Stp.fail ⟨⟩ _=_;simp only[J8];rw[bfD (by omega)]
  ·refine⟨2,?_,rfl,h2⟩;show J9 Stp.next Stp.exit Stp.fail ⟨⟩ _=_;simp only[J9];rw[bfD (by omega)]
theorem Je3(l:List Pln)(n:Int):(two (r1L tP) r1I).rd (.tup [eL tP l,i n],[])=some (l,n):=by
 have h:(r1L tP).rd [] (eL tP l)=some l:=by
  show Bool.rec (motive:=λ_=>Option (List Pln)) none (some (rt tP l)) (Bool.and (Nat.beq tP.es tP.es) (okE tP l))=_
  rw[i5,q8,Qjl];rfl
 simp only[two,h];rfl
theorem Je4(l:List V3)(hl:l.length<=48):Rd (two (r1L tP) r1I) (Ha7 l) (λr=>r.1.length<=250000):=by
 obtain⟨t,s,e1,e2,e3⟩:=Ye7 l hl;unfold Ha7;simp only[i5,i8,q8,vd2 l (show l.length<=1000000000 by omega),g9]
 refine Rd.sl (λ_=>⟨_,([],jb5 l),rfl,rfl,Qjaa _⟩) λ_=>?_
 rw[e1,e2];obtain⟨s1,s2,s3,s4⟩:=s
 simp only at e3 ⊢
 rcases e3.h with⟨rfl,rfl⟩|rfl
 ·exact⟨_,([],0),rfl,rfl,Qjaa _⟩
 ·exact⟨_,(s4,0),rfl,Je3 s4 0,e3.l⟩
theorem Ye8(l:List V3)(hl:l.length<=48):Cb3 l=true:=(Je4 l hl).g
def phV(out:List V3):Nat:=match out with
 |[]=>0
 |_::_=>1
theorem Ye9(out:List V3)(x:V3):phV (out++[x])=1:=by cases out<;>rfl
theorem Ud2(l:List V3)(x1 x2 x3:Int):app (bL tV l) [[i x1,i x2,i x3]]=bL tV (l++[⟨x1,x2,x3⟩]):=Ra8 tV l [⟨x1,x2,x3⟩]
theorem Af1{l:List V3}{m:Nat}(h:m<l.length):(((Nat.blt (0+m) (len (bL tV l)))&&(Nat.ble (0+3) (len (n5 (bL tV l) (0+m)))))&&(na9 [CK.int .i64,CK.int .i64,CK.int .i64] (f9 (n5 (bL tV l) (0+m)) 0)))=true:=by
 rw[Qjb,ba6 tV h,P7,show Nat.blt m l.length=true from by rw[Qjao];exact h]
 rfl
theorem Af2{l:List V3}{m:Nat}(h:m<l.length):(((Nat.blt (0+m) (len (bL tV l)))&&(Nat.ble (2+1) (len (n5 (bL tV l) (0+m)))))&&(na9 [CK.int .i64] (f9 (n5 (bL tV l) (0+m)) 2)))=true:=by
 rw[Qjb,ba6 tV h,P7,show Nat.blt m l.length=true from by rw[Qjao];exact h]
 rfl
theorem Af3{n:Nat}{l:List V3}(hn:l.length=n)(h:n<=1000000000):(Nat.beq n (len (bL tV l))&&Nat.ble ((n+1)*24) room)=true:=by
 subst hn;rw[P7,Qjl,Bool.true_and,Nat.ble_eq];unfold room;omega
theorem Ze0 (x : List Int) (N : Nat) (h4 : 4 ≤ N) (h8 : N ≤ 8) (j0 : Int) (hj0 : 0 ≤ j0 ∧ j0 ≤ 10) :
  ∃idx out,lp (Qa9 ⟨(N:Int)⟩) ⟨0,0,x,j0,0,[]⟩=(2,⟨1,(N:Int),x,idx,N,bL tV out⟩)/\out.length=N:=by
 have key:=da0 (step:=Qa9 ⟨(N:Int)⟩) (mk:=λj (a:Int×List V3)=>(⟨phV a.2,(j:Int),x,a.1,a.2.length,bL tV a.2⟩:E0)) N
  (λj a=>a.2.length=j/\0<=a.1/\a.1<=10+4*j/\j<=N) (λt s=>t=2/\∃idx out,s=⟨1,(N:Int),x,idx,N,bL tV out⟩/\out.length=N) (by omega) (λj a hj ha=>?_) (λj a hj ha=>?_) 0 (j0,[]) ⟨rfl,hj0.1,by omega,by omega⟩
 ·obtain⟨t,s,e1,rfl,idx,out,e2,e3⟩:=key;exact⟨idx,out,by rw[<- e2];exact e1,e3⟩
 ·obtain⟨at0,out⟩:=a;obtain⟨ho,ha1,ha2,_⟩:=ha
  simp only at ho ha1 ha2
  have hn:=o4 hj (show N<=4611686018427387904 by omega)
  obtain⟨v1,j1,d1,_,_,c1,b1⟩:=ta3 17 x at0 ha1 (by omega) (by omega) (by omega)
  obtain⟨v2,j2,d2,_,_,c2,b2⟩:=ta3 17 x j1 (by omega) (by omega) (by omega) (by omega)
  obtain⟨v3,j3,d3,_,_,c3,b3⟩:=ta3 17 x j2 (by omega) (by omega) (by omega) (by omega)
  obtain⟨v4,j4,d4,_,_,c4,b4⟩:=ta3 6 x j3 (by omega) (by omega) (by omega) (by omega)
  have leaf : ∀ (E : Nat → Prop) (x1 x2 x3 : Int), Nx (.next (⟨1, ((j + 1 : Nat) : Int), x, j4, j + 1, bL tV (out ++ [⟨x1, x2, x3⟩])⟩ : E0)) E
    (λs=>∃a':Int×List V3,s=⟨phV a'.2,((j+1:Nat):Int),x,a'.1,a'.2.length,bL tV a'.2⟩/\a'.2.length=j+1/\0<=a'.1/\a'.1<=10+4*((j+1:Nat):Int)/\j+1<=N):=λE x1 x2 x3=>by
   have hl:(out++[(⟨x1,x2,x3⟩:V3)]).length=j+1:=by simp[ho]
   exact .nx ⟨(j4,out++[⟨x1,x2,x3⟩]),by simp only[Ye9,hl],hl,by show 0<=j4;omega,by show j4<=_;omega,by omega⟩
  cases out with
  |nil =>
   have hj0':j=0:=by simpa using ho.symm
   subst hj0';show Nx (va2 Stp.next Stp.exit Stp.fail _ _) _ _;simp only[va2,i5,i8,d1,d2,d3,d4,hn];rw[btD (i6 hj)];have f1:decide (((0:Nat):Int)>1)=false:=rfl;have f2:decide (((0:Nat):Int)>0)=false:=rfl;have f3:decide (((0:Nat):Int)>2)=false:=rfl;have lf:∀(E:Nat->Prop) (x1 x2 x3:Int),Nx (.next (⟨1,((0+1:Nat):Int),x,j4,1,[[i x1,i x2,i x3]]⟩:E0)) E _:=leaf;simp only[f1,f2,f3,N2,Qjl,Qjp,g9];refine Nx.sl (λ_=>?_) (λ_=>?_)<;>refine Nx.sl (λ_=>?_) (λ_=>?_)
   all_goals first
    |exact lf _ _ _ _
    |(refine Nx.sl (λ_=>?_) (λ_=>?_)<;>exact lf _ _ _ _)
  |cons o os =>
   have h1:1<=j:=by simp only[List.length_cons] at ho;omega
   generalize hO:o::os=O at *
   have hph:phV O=1:=by subst hO;rfl
   have w1:W ((j:Int)-1)=((j-1:Nat):Int):=by rw[ha0 (by omega) (by omega)];omega
   have i1:inB ((j-1:Nat):Int) j=true:=f7 (by omega)
   have r1:=Af1 (l:=O) (m:=j-1) (by omega)
   have r1':=Af2 (l:=O) (m:=j-1) (by omega)
   have rr:=Af3 ho (by omega)
   have f2:∀{inst:Decidable ((j:Int)>0)},@decide ((j:Int)>0) inst=true:=decide_eq_true (by omega)
   show Nx (sel (Nat.beq (phV O) 1) (O2 Stp.next Stp.exit Stp.fail _ _) _) _ _;rw[hph];show Nx (O2 Stp.next Stp.exit Stp.fail _ _) _ _;by_cases h2:2<=j
   ·have w2:W ((j:Int)-2)=((j-2:Nat):Int):=by rw[ha0 (by omega) (by omega)];omega
    have i2:inB ((j-2:Nat):Int) j=true:=f7 (by omega)
    have r2:=Af1 (l:=O) (m:=j-2) (by omega)
    simp only[O2,i5,i8,d1,d2,d3,d4,hn,ho,w1,w2,i1,i2,Int.toNat_natCast,r1,r1',r2,rr,Ud2];rw[btD (i6 hj)];simp only[Qjl,Qjp,g9]
    repeat' (first | exact leaf _ _ _ _ | refine Nx.sl (λ_=>?_) (λ_=>?_))
   ·have hj1:j=1:=by omega
    subst hj1;simp only[O2,i5,i8,d1,d2,d3,d4,hn,ho,w1,i1,Int.toNat_natCast,r1,r1',rr,Ud2];have f1:decide (((1:Nat):Int)>1)=false:=rfl;rw[btD (i6 hj)];simp only[f1,N2,Qjl,Qjp,g9]
    repeat' (first | exact leaf _ _ _ _ | refine Nx.sl (λ_=>?_) (λ_=>?_))
 ·obtain⟨at0,out⟩:=a;obtain⟨ho,ha1,ha2,hjN⟩:=ha
  simp only at ho ha1 ha2
  have hj':j=N:=by omega
  subst hj';cases out with
  |nil=>simp only[List.length_nil] at ho;omega
  |cons o os =>
   refine⟨2,?_,rfl,at0,o::os,by rw[ho];rfl,ho⟩
   show O2 Stp.next Stp.exit Stp.fail _ _=_;simp only[O2];rw[bfD (by omega)]
theorem Je5{l:List V3}{n:Nat}{r:List (List b7)}{P:List V3->Prop}(hn:n=l.length)(hr:r=bL tV l)(h:P l):Rd (one (r1L tV)) (some (.sl 0 0 n 0,[⟨27,3,r,true,false,0⟩])) P:=by
 subst hn hr;refine⟨_,l,rfl,?_,h⟩;show Bool.rec (motive:=λ_=>Option (List V3)) none (some (slR tV (bL tV l) 0 l.length)) (Bool.and true (okS tV (bL tV l) 0 l.length))=_
 rw[Mb9,Nb0];rfl
theorem vd3(x:List Int):Rd (one (r1L tV)) (Ya2 x) (λr=>4<=r.length/\r.length<=8):=by
 obtain⟨v,j,e1,a1,b1,c1,d1⟩:=ta3 5 x 0 (by omega) (by omega) (by omega) (by omega)
 have hN:W (4+v)=(((4+v).toNat:Nat):Int):=by rw[ha0 (by omega) (by omega)];omega
 obtain⟨idx,out,e2,e3⟩:=Ze0 x (4+v).toNat (by omega) (by omega) j (by omega)
 unfold Ya2;simp only[i5,i8,e1,hN,e2];have h4:4<=(4+v).toNat:=by omega
 have h8:(4+v).toNat<=8:=by omega
 generalize (4+v).toNat=N at *
 have s1:lsL tV N (λk=>n5 (bL tV out) (0+k))=out:=by rw[<- e3];exact Mb9 tV out
 have s2:okL tV N (λk=>n5 (bL tV out) (0+k))=true:=by rw[<- e3];exact Nb0 tV out
 have gf:cb9 out=true:=fe2 out (by omega)
 rw[s1,s2,gf];simp only[Qjl,Qjp,g9,show Nat.beq 2 1=false from rfl,N2]
 refine Rd.sl (λ_=>?_) λ_=>Je5 e3.symm rfl ⟨by omega,by omega⟩
 have i0:inB 0 N=true:=f7 (j:=0) (by omega)
 have i1:inB 1 N=true:=f7 (j:=1) (by omega)
 have i2:inB 2 N=true:=f7 (j:=2) (by omega)
 have i3:inB 3 N=true:=f7 (j:=3) (by omega)
 have sp:∀(v:V3) (x1 x2 x3:Int),ba4 (tV.row v) 0 [i x1,i x2,i x3]=tV.row ⟨x1,x2,x3⟩:=λ_ _ _ _=>rfl
 have rl:∀v:V3,Nat.ble (0+3) (len (tV.row v))=true:=λ_=>rfl
 have ck:∀v:V3,na9 [CK.int .i64,CK.int .i64,CK.int .i64] (f9 (tV.row v) 0)=true:=λ_=>rfl
 have gr:∀(l:List V3) (k:Nat),l.length=N->k<4->n5 (bL tV l) k=tV.row (gL tV l k):=λl k hl hk=>ba6 tV (by omega)
 have bl:∀(l:List V3) (k:Nat),l.length=N->k<4->Nat.blt k (len (bL tV l))=true:=λl k hl hk=>by rw[P7,Qjao];omega
 have ls:∀(l:List V3) (k:Nat) (v:V3),l.length=N->(l.set k v).length=N:=λl k v hl=>by rw[Qjm];exact hl
 rw[gr out 0 e3 (by omega),gr out 1 e3 (by omega)]
 simp only[sp,Yb1];rw[gr _ 2 (ls out 1 _ e3) (by omega)]
 simp only[sp,Yb1];rw[gr _ 3 (ls _ 2 _ (ls out 1 _ e3)) (by omega)]
 simp only[sp,Yb1,rl,ck,i0,i1,i2,i3,bl out 0 e3 (by omega),bl out 1 e3 (by omega),bl _ 2 (ls out 1 _ e3) (by omega),bl _ 3 (ls _ 2 _ (ls out 1 _ e3)) (by omega),Qjp,g9]
 exact Je5 (by simp only[Qjm];omega) rfl (by simp only[Qjm];omega)
theorem Je6(x:List Int):pb8 x=true:=(vd3 x).g
theorem Je7(x:List Int):4<=(ja1 x).length/\(ja1 x).length<=8:=(vd3 x).p
theorem Je8{l:List Pln}{P:List Pln->Prop}(h:P l):Rd (one (r1L tP)) (some (eL tP l,[])) P:=⟨_,l,rfl,zc6 tP l,h⟩
theorem Tc7{l:List Pln}{k:Nat}(h:k<l.length):ldR tP (bL tP l) (0+k)=true:=by rw[Qjb];exact ce1 tP h
theorem Ac4{l:List Pln}{k:Nat}(h:k<l.length):rdR tP (bL tP l) (0+k)=gL tP l k:=by rw[Qjb];exact ce0 tP h
theorem of3{α:Type}(t:Ty α)(k:Nat)(l:List α):(one (r1L t)).rd (.sl 0 0 l.length 0,[⟨k,t.es,bL t l,true,false,0⟩])=some l:=by
 show Bool.rec (motive:=λ_=>Option (List α)) none (some (slR t (bL t l) 0 l.length)) (Bool.and (Nat.beq t.es t.es) (okS t (bL t l) 0 l.length))=_
 rw[Mb9,Nb0,Qjl];rfl
theorem Je9{l:List Pln}{n:Nat}{r:List (List b7)}{P:List Pln->Prop}(hn:n<=l.length)(hr:r=bL tP l)(h:P (l.take n)):Rd (one (r1L tP)) (some (.sl 0 0 n 0,[⟨73,4,r,true,false,0⟩])) P:=by
 subst hr;have e1:slR tP (bL tP l) 0 n=l.take n:=Ec0 tP (by rw[Qjc];omega) λk hk=>by
  rw[Qjb,ba6 tP (by omega)]
  congr 1;simp[gL,Qjw,List.getElem?_take,hk]
 have e2:okS tP (bL tP l) 0 n=true:=kb9 tP (f:=λk=>gL tP l k) λk hk=>by rw[Qjb,ba6 tP (by omega)]
 refine⟨_,l.take n,rfl,?_,h⟩;show Bool.rec (motive:=λ_=>Option (List Pln)) none (some (slR tP (bL tP l) 0 n)) (Bool.and true (okS tP (bL tP l) 0 n))=_
 rw[e1,e2];rfl
set_option maxRecDepth 100000
structure fb2 where
 (Ba7 Ba8 Ba9 Ub3:Int)
 g8:List Pt
noncomputable def cc9:List (Nat×Sum):=[(153,Cb1)]
theorem Qc6:i9 prog G cc9:=⟨Ob3,trivial⟩
structure Aa9 where
 Re2:List Pt
 is8:Int
 g8:List Pt
 (aa5 aa6 aa7 aa8:Int)
structure S9 where
 (is4 is9:Int)
noncomputable def Kb5(p:Aa9)(s:S9):St:=⟨.unk::.unk::.ptr 1 0 0 0::.unk::i s.is4::.unk::.unk::eL tX p.Re2::i p.is8::i s.is9::ra 12 [],[⟨0,1,[[eL tX p.g8]],true,false,0⟩,⟨0,4,[[i p.aa5,i p.aa6,i p.aa7,i p.aa8]],true,false,0⟩]⟩
noncomputable def qa6{α:Type}(k:S9->α)(e:Nat->α)(z:α)(p:Aa9)(s:S9):α:=let t1:=(wa7 (⟨(⟨p.aa5,p.aa6,p.aa7⟩:V3),p.aa8⟩:Pln) (gL tX p.Re2 s.is9.toNat));(sl (decide (s.is9<p.is8)) (sl (inB s.is9 (List.length p.Re2)) (sl (t1==0) (k ⟨W (s.is4+1),W (s.is9+1)⟩) (k ⟨s.is4,W (s.is9+1)⟩)) z) (e 1))
noncomputable def va3(p:Aa9)(s:S9):Stp S9:=qa6 .next .exit .fail p s
noncomputable def mb7:Lo Aa9 S9:=⟨En cc9,1,ef9,[1,1,0,1,4,4],[2,4,7,8,9],.p,[⟨sUq::sUq::sPq 1::sUq::sIq::sUq::sUq::sLq tX::sIq::sIq::ru2 12 [],[⟨0,1,true,some [[.c 4 (nL tX)]]⟩,⟨0,4,true,some [kLq 4]⟩],λa H=>(⟨aLq tX a 7,aIq a 8,hLq tX H 0 0 0,hIq H 1 0 0,hIq H 1 0 1,hIq H 1 0 2,hIq H 1 0 3⟩,⟨aIq a 4,aIq a 9⟩)⟩],va3,[(some 0,λp s=>upq (Kb5 p s) [(10,b (decide (s.is9<p.is8)))])],Kb5⟩
theorem Hc4:mb7.Ok:=Lo.ok [] (by kernel_rfl) .nil rfl (.cons (λa H=>by kernel_rfl) .nil) λp s=>(.of @qa6 (λF _ _ _ _ _=>by unfold qa6;(repeat' apply m8 (f:=F))<;>rfl) (by kernel_rfl))
structure Ca9 where
 alt:Nat
 bs0:Bool
 g8:List Pt
noncomputable def Da0{α:Type}(kk:Ca9->α)(x:fb2):α:=let t1:=(lp (va3 (⟨rt tX x.g8,(↑(List.length x.g8):Int),rt tX x.g8,x.Ba7,x.Ba8,x.Ba9,x.Ub3⟩:Aa9)) (⟨0,0⟩:S9));(sl ((cnE tX x.g8)&&((cnE tX x.g8)&&true)) (sl (Nat.beq t1.1 1) (kk ⟨1,decide (t1.2.is4<3),rt tX x.g8⟩) (kk ⟨0,false,[]⟩)) (kk ⟨0,false,[]⟩))
noncomputable def sa3(x:fb2):Ca9:=Da0 (λr=>r) x
noncomputable def wb6(x:fb2)(r:Ca9):DT (b7×List b9):=(.ite (Nat.beq r.alt 1) (.ret (b r.bs0,[⟨0,1,[[eL tX r.g8]],true,false,0⟩])) .fail)
theorem od3{α β:Type}(F:α->β)(kk:Ca9->α)(x:fb2):F (Da0 kk x)=Da0 (λr=>F (kk r)) x:=by unfold Da0;(repeat' apply m8 (f:=F))<;>rfl
noncomputable def Gb8:Sum:=Va6 ⟨[.agg (kLq 4),sPq 0],[⟨0,1,true,some [[.c 4 (nL tX)]]⟩],λa H=>(⟨cIq a 0 0,cIq a 0 1,cIq a 0 2,cIq a 0 3,hLq tX H 0 0 0⟩,())⟩ (λx=>wb6 x (sa3 x))
theorem dc0:g7 prog G 152 Gb8:=M9 (enc:=λx=>⟨[.agg [i x.Ba7,i x.Ba8,i x.Ba9,i x.Ub3],.ptr 0 0 0 0],[⟨0,1,[[eL tX x.g8]],true,false,0⟩]⟩) (λa H=>by kernel_rfl) (bd If1 Qc6) λx=>xa3 (.s .p (.s .p (.s (.s .p (.b (.u mb7.ls))) .p))) [mb7.pr] (by kernel_rfl) (.cons Hc4 .nil) (Qjk (b:=Da0 (λr=>(wb6 x r).run) x) (by kernel_rfl) (od3 (λr=>(wb6 x r).run) (λr=>r) x).symm)
structure Z8 where
 ns0:Nat
 eh0:List (List b7)
 B9:List Pt
noncomputable def Ha9:List (Nat×Sum):=[(152,Gb8)]
theorem pb9:i9 prog G Ha9:=⟨dc0,trivial⟩
structure M3 where
 ns0:Nat
 is7:Int
 eh0:List (List b7)
structure q7 where
 is8:Int
 B9:List Pt
noncomputable def Ba0(p:M3)(s:q7):St:=⟨.sl 0 0 p.ns0 0::.fn 152 [.ptr 1 0 0 0]::ra 5 (i p.is7::i s.is8::ra 10 []),[⟨73,4,p.eh0,true,false,0⟩,⟨0,1,[[eL tX s.B9]],true,false,0⟩]⟩
noncomputable def G8{α:Type}(k:q7->α)(e:Nat->α)(z:α)(p:M3)(s:q7):α:=let t1:=(sa3 ⟨(rdR tP p.eh0 (0+s.is8.toNat)).n.x,(rdR tP p.eh0 (0+s.is8.toNat)).n.y,(rdR tP p.eh0 (0+s.is8.toNat)).n.z,(rdR tP p.eh0 (0+s.is8.toNat)).b,rt tX s.B9⟩);(sl (decide (s.is8<p.is7)) (sl (inB s.is8 p.ns0) (sl (ldR tP p.eh0 (0+s.is8.toNat)) (sl ((cnE tX s.B9)&&true) (sl (Nat.beq t1.alt 1) (sl t1.bs0 (e 1) (k ⟨W (s.is8+1),t1.g8⟩)) z) z) z) z) (e 2))
noncomputable def K0(p:M3)(s:q7):Stp q7:=G8 .next .exit .fail p s
noncomputable def ja3:Lo M3 q7:=⟨En Ha9,2,Pd3,[1,0,1,4,4],[0,1,7,8],.p,[⟨.s (.o (.sl 0 0 (some 0) none))::.fn 152 [.o (.ptr 1 0 0 0)]::ru2 5 (sIq::sIq::ru2 10 []),[⟨73,4,true,none⟩,⟨0,1,true,some [[.c 4 (nL tX)]]⟩],λa H=>(⟨slN (slT a 0),aIq a 7,elT H 0⟩,⟨aIq a 8,hLq tX H 1 0 0⟩)⟩],K0,[(none,λp s=>let t1:=(sa3 ⟨(rdR tP p.eh0 (0+s.is8.toNat)).n.x,(rdR tP p.eh0 (0+s.is8.toNat)).n.y,(rdR tP p.eh0 (0+s.is8.toNat)).n.z,(rdR tP p.eh0 (0+s.is8.toNat)).b,rt tX s.B9⟩);⟨[i s.is8],[⟨73,4,p.eh0,true,false,0⟩,⟨0,1,[[eL tX t1.g8]],true,false,0⟩]⟩),(some 0,λp s=>upq (Ba0 p s) [(9,b (decide (s.is8<p.is7)))])],Ba0⟩
theorem mb8:ja3.Ok:=Lo.ok [] (by kernel_rfl) .nil rfl (.cons (λa H=>by kernel_rfl) .nil) λp s=>(.of @G8 (λF _ _ _ _ _=>by unfold G8;(repeat' apply m8 (f:=F))<;>rfl) (by kernel_rfl))
structure Z9 where
 alt:Nat
 is0:Int
 B9:List Pt
noncomputable def I0{α:Type}(kk:Z9->α)(x:Z8):α:=let t1:=(lp (K0 (⟨x.ns0,(↑x.ns0:Int),x.eh0⟩:M3)) (⟨0,rt tX x.B9⟩:q7));let t2:=(sa3 ⟨(rdR tP x.eh0 (0+t1.2.is8.toNat)).n.x,(rdR tP x.eh0 (0+t1.2.is8.toNat)).n.y,(rdR tP x.eh0 (0+t1.2.is8.toNat)).n.z,(rdR tP x.eh0 (0+t1.2.is8.toNat)).b,rt tX t1.2.B9⟩);(sl ((cnE tX x.B9)&&true) (sl (Nat.beq t1.1 1) (kk ⟨1,t1.2.is8,t2.g8⟩) (sl (Nat.beq t1.1 2) (kk ⟨1,-1,t1.2.B9⟩) (kk ⟨0,0,[]⟩))) (kk ⟨0,0,[]⟩))
noncomputable def aa0(x:Z8):Z9:=I0 (λr=>r) x
noncomputable def ma4(x:Z8)(r:Z9):DT (b7×List b9):=(.ite (Nat.beq r.alt 1) (.ret (i r.is0,[⟨73,4,x.eh0,true,false,0⟩,⟨0,1,[[eL tX r.B9]],true,false,0⟩])) .fail)
theorem zb6{α β:Type}(F:α->β)(kk:Z9->α)(x:Z8):F (I0 kk x)=I0 (λr=>F (kk r)) x:=by unfold I0;(repeat' apply m8 (f:=F))<;>rfl
noncomputable def Ma1:Sum:=Va6 ⟨[.s (.o (.sl 0 0 (some 0) none)),.fn 152 [.o (.ptr 1 0 0 0)]],[⟨73,4,true,none⟩,⟨0,1,true,some [[.c 4 (nL tX)]]⟩],λa H=>(⟨slN (slT a 0),elT H 0,hLq tX H 1 0 0⟩,())⟩ (λx=>ma4 x (aa0 x))
theorem wb7:g7 prog G 139 Ma1:=M9 (enc:=λx=>⟨[.sl 0 0 x.ns0 0,.fn 152 [.ptr 1 0 0 0]],[⟨73,4,x.eh0,true,false,0⟩,⟨0,1,[[eL tX x.B9]],true,false,0⟩]⟩) (λa H=>by kernel_rfl) (bd We3 pb9) λx=>xa3 (.s .p (.s (.s .p (.b (.u ja3.ls))) .p)) [ja3.pr] (by kernel_rfl) (.cons mb8 .nil) (Qjk (b:=I0 (λr=>(ma4 x r).run) x) (by kernel_rfl) (zb6 (λr=>(ma4 x r).run) (λr=>r) x).symm)
structure aa1 where
 ns0:Nat
 eh0:List (List b7)
 B9:List Pt
noncomputable def Ia0:List (Nat×Sum):=[(139,Ma1),(152,Gb8)]
theorem qb0:i9 prog G Ia0:=⟨wb7,dc0,trivial⟩
structure M4 where
 ns0:Nat
structure v8 where
 (is5 is6:Int)
 eh0:List (List b7)
 B9:List Pt
noncomputable def Ba1(p:M4)(s:v8):St:=⟨.sl 0 0 p.ns0 0::.fn 152 [.ptr 1 0 0 0]::ra 3 (i s.is5::i s.is6::ra 35 []),[⟨73,4,s.eh0,true,false,0⟩,⟨0,1,[[eL tX s.B9]],true,false,0⟩]⟩
noncomputable def G9{α:Type}(k:v8->α)(e:Nat->α)(z:α)(p:M4)(s:v8):α:=let t1:=(sa3 ⟨(rdR tP s.eh0 (0+s.is6.toNat)).n.x,(rdR tP s.eh0 (0+s.is6.toNat)).n.y,(rdR tP s.eh0 (0+s.is6.toNat)).n.z,(rdR tP s.eh0 (0+s.is6.toNat)).b,rt tX s.B9⟩);(sl (decide (s.is6<(↑p.ns0:Int))) (sl (inB s.is6 p.ns0) (sl (ldR tP s.eh0 (0+s.is6.toNat)) (sl ((cnE tX s.B9)&&true) (sl (Nat.beq t1.alt 1) (sl (!t1.bs0) (sl (inB s.is5 p.ns0) (sl ((Nat.blt (0+s.is5.toNat) (len s.eh0))&&(Nat.ble (0+4) (len (n5 s.eh0 (0+s.is5.toNat))))) (k ⟨W (s.is5+1),W (s.is6+1),setAt s.eh0 (0+s.is5.toNat) (ba4 (n5 s.eh0 (0+s.is5.toNat)) 0 [i (rdR tP s.eh0 (0+s.is6.toNat)).n.x,i (rdR tP s.eh0 (0+s.is6.toNat)).n.y,i (rdR tP s.eh0 (0+s.is6.toNat)).n.z,i (rdR tP s.eh0 (0+s.is6.toNat)).b]),t1.g8⟩) z) z) (k ⟨s.is5,W (s.is6+1),s.eh0,t1.g8⟩)) z) z) z) z) (e 1))
noncomputable def D8(p:M4)(s:v8):Stp v8:=G9 .next .exit .fail p s
noncomputable def ja4:Lo M4 v8:=⟨En Ia0,2,ef8,[1,1,1,0,1,4,4],[0,1,5,6],.p,[⟨.s (.o (.sl 0 0 (some 0) none))::.fn 152 [.o (.ptr 1 0 0 0)]::ru2 3 (sIq::sIq::ru2 35 []),[⟨73,4,true,none⟩,⟨0,1,true,some [[.c 4 (nL tX)]]⟩],λa H=>(⟨slN (slT a 0)⟩,⟨aIq a 5,aIq a 6,elT H 0,hLq tX H 1 0 0⟩)⟩],D8,[(some 0,λp s=>upq (Ba1 p s) [(16,i s.is6),(17,.sl 0 0 p.ns0 0),(18,i (↑p.ns0:Int)),(19,b (decide (s.is6<(↑p.ns0:Int))))])],Ba1⟩
theorem mb9:ja4.Ok:=Lo.ok [] (by kernel_rfl) .nil rfl (.cons (λa H=>by kernel_rfl) .nil) λp s=>(.of @G9 (λF _ _ _ _ _=>by unfold G9;(repeat' apply m8 (f:=F))<;>rfl) (by kernel_rfl))
structure aa2 where
 (alt ns0:Nat)
 eh0:List (List b7)
 B9:List Pt
noncomputable def I1{α:Type}(kk:aa2->α)(x:aa1):α:=let t1:=(aa0 ⟨x.ns0,x.eh0,rt tX x.B9⟩);let t2:=(lp (D8 (⟨x.ns0⟩:M4)) (⟨t1.is0,W (t1.is0+1),x.eh0,rt tX t1.B9⟩:v8));(sl ((cnE tX x.B9)&&true) (sl (Nat.beq t1.alt 1) (sl (t1.is0==(-1)) (kk ⟨1,x.ns0,x.eh0,t1.B9⟩) (sl ((cnE tX t1.B9)&&true) (sl (Nat.beq t2.1 1) (sl (inB t2.2.is5 (x.ns0+1)) (sl (inB t2.2.is5 (x.ns0+1)) (kk ⟨1,t2.2.is5.toNat-0,app (q9 t2.2.eh0 (0+t2.2.is5.toNat)) (app (List.replicate (x.ns0-t2.2.is5.toNat) [i 0,i 0,i 0,i 0]) (f9 t2.2.eh0 ((0+t2.2.is5.toNat)+(x.ns0-t2.2.is5.toNat)))),t2.2.B9⟩) (kk ⟨0,0,[],[]⟩)) (kk ⟨0,0,[],[]⟩)) (kk ⟨0,0,[],[]⟩)) (kk ⟨0,0,[],[]⟩))) (kk ⟨0,0,[],[]⟩)) (kk ⟨0,0,[],[]⟩))
noncomputable def I4(x:aa1):aa2:=I1 (λr=>r) x
noncomputable def ma5(x:aa1)(r:aa2):DT (b7×List b9):=(.ite (Nat.beq r.alt 1) (.ret (.sl 0 0 r.ns0 0,[⟨73,4,r.eh0,true,false,0⟩,⟨0,1,[[eL tX r.B9]],true,false,0⟩])) .fail)
theorem zb7{α β:Type}(F:α->β)(kk:aa2->α)(x:aa1):F (I1 kk x)=I1 (λr=>F (kk r)) x:=by unfold I1;(repeat' apply m8 (f:=F))<;>rfl
noncomputable def oa5:Sum:=Va6 ⟨[.s (.o (.sl 0 0 (some 0) none)),.fn 152 [.o (.ptr 1 0 0 0)]],[⟨73,4,true,none⟩,⟨0,1,true,some [[.c 4 (nL tX)]]⟩],λa H=>(⟨slN (slT a 0),elT H 0,hLq tX H 1 0 0⟩,())⟩ (λx=>ma5 x (I4 x))
theorem Ia1:g7 prog G 150 oa5:=M9 (enc:=λx=>⟨[.sl 0 0 x.ns0 0,.fn 152 [.ptr 1 0 0 0]],[⟨73,4,x.eh0,true,false,0⟩,⟨0,1,[[eL tX x.B9]],true,false,0⟩]⟩) (λa H=>by kernel_rfl) (bd zf0 qb0) λx=>xa3 (.s .p (.s .p (.s .p (.s (.s .p (.b (.u ja4.ls))) .p)))) [ja4.pr] (by kernel_rfl) (.cons mb9 .nil) (Qjk (b:=I1 (λr=>(ma5 x r).run) x) (by kernel_rfl) (zb7 (λr=>(ma5 x r).run) (λr=>r) x).symm)
structure ja5 where
 ns0:Nat
 eh0:List (List b7)
noncomputable def va4:List (Nat×Sum):=[]
theorem Gb9:i9 prog G va4:=trivial
structure E5 where
 (ns0 os4 ns4:Nat)
structure r6 where
 (is3 is5:Int)
 eh0:List (List b7)
noncomputable def Ma2(p:E5)(s:r6):St:=⟨.sl 0 0 p.ns0 0::.unk::.unk::i s.is3::.sl 0 p.os4 p.ns4 0::i s.is5::ra 55 [],[⟨73,4,s.eh0,true,false,0⟩]⟩
noncomputable def N5{α:Type}(k:r6->α)(e:Nat->α)(z:α)(p:E5)(s:r6):α:=(sl (decide (s.is5<(↑p.ns4:Int))) (sl (inB s.is5 p.ns4) (sl (ldR tP s.eh0 (p.os4+s.is5.toNat)) (sl (inB (W (s.is5-1)) p.ns4) (sl (ldR tP s.eh0 (p.os4+(W (s.is5-1)).toNat)) (sl (!(((rdR tP s.eh0 (p.os4+s.is5.toNat)).n.x==(rdR tP s.eh0 (p.os4+(W (s.is5-1)).toNat)).n.x)&&(((rdR tP s.eh0 (p.os4+s.is5.toNat)).n.y==(rdR tP s.eh0 (p.os4+(W (s.is5-1)).toNat)).n.y)&&(((rdR tP s.eh0 (p.os4+s.is5.toNat)).n.z==(rdR tP s.eh0 (p.os4+(W (s.is5-1)).toNat)).n.z)&&(((rdR tP s.eh0 (p.os4+s.is5.toNat)).b==(rdR tP s.eh0 (p.os4+(W (s.is5-1)).toNat)).b)&&true))))) (sl (inB s.is5 p.ns4) (sl (ldR tP s.eh0 (p.os4+s.is5.toNat)) (sl (inB s.is3 p.ns0) (sl ((Nat.blt (0+s.is3.toNat) (len s.eh0))&&(Nat.ble (0+4) (len (n5 s.eh0 (0+s.is3.toNat))))) (k ⟨W (s.is3+1),W (s.is5+1),setAt s.eh0 (0+s.is3.toNat) (ba4 (n5 s.eh0 (0+s.is3.toNat)) 0 [i (rdR tP s.eh0 (p.os4+s.is5.toNat)).n.x,i (rdR tP s.eh0 (p.os4+s.is5.toNat)).n.y,i (rdR tP s.eh0 (p.os4+s.is5.toNat)).n.z,i (rdR tP s.eh0 (p.os4+s.is5.toNat)).b])⟩) z) z) z) z) (k ⟨s.is3,W (s.is5+1),s.eh0⟩)) z) z) z) z) (e 1))
noncomputable def u9(p:E5)(s:r6):Stp r6:=N5 .next .exit .fail p s
noncomputable def sa4:Lo E5 r6:=⟨En va4,1,Ge1,[1,1,0,1,4,4,1,0,4,1,2,1,0,1,4,4],[0,3,4,5],.p,[⟨.s (.o (.sl 0 0 (some 0) none))::sUq::sUq::sIq::.s (.o (.sl 0 0 none none))::sIq::ru2 55 [],[⟨73,4,true,none⟩],λa H=>(⟨slN (slT a 0),slO (slT a 4),slN (slT a 4)⟩,⟨aIq a 3,aIq a 5,elT H 0⟩)⟩],u9,[(some 2,λp s=>upq (Ma2 p s) [(29,i s.is5),(30,.sl 0 p.os4 p.ns4 0),(31,i (↑p.ns4:Int)),(32,b (decide (s.is5<(↑p.ns4:Int))))])],Ma2⟩
theorem zb8:sa4.Ok:=Lo.ok [] (by kernel_rfl) .nil rfl (.cons (λa H=>by kernel_rfl) .nil) λp s=>(.of @N5 (λF _ _ _ _ _=>by unfold N5;(repeat' apply m8 (f:=F))<;>rfl) (by kernel_rfl))
structure Q9 where
 ns0:Nat
 eh0:List (List b7)
structure w8 where
 is3:Int
noncomputable def Ma3(p:Q9)(s:w8):St:=⟨.sl 0 0 p.ns0 0::.unk::.unk::i s.is3::ra 57 [],[⟨73,4,p.eh0,true,false,0⟩]⟩
noncomputable def N6{α:Type}(k:w8->α)(e:Nat->α)(z:α)(p:Q9)(s:w8):α:=let t1:=(lp (u9 (⟨p.ns0,0+s.is3.toNat,p.ns0-s.is3.toNat⟩:E5)) (⟨s.is3,1,p.eh0⟩:r6));(sl (decide (s.is3<(↑p.ns0:Int))) (sl (inB s.is3 p.ns0) (sl (ldR tP p.eh0 (0+s.is3.toNat)) (sl (inB (W (s.is3-1)) p.ns0) (sl (ldR tP p.eh0 (0+(W (s.is3-1)).toNat)) (sl (((rdR tP p.eh0 (0+s.is3.toNat)).n.x==(rdR tP p.eh0 (0+(W (s.is3-1)).toNat)).n.x)&&(((rdR tP p.eh0 (0+s.is3.toNat)).n.y==(rdR tP p.eh0 (0+(W (s.is3-1)).toNat)).n.y)&&(((rdR tP p.eh0 (0+s.is3.toNat)).n.z==(rdR tP p.eh0 (0+(W (s.is3-1)).toNat)).n.z)&&(((rdR tP p.eh0 (0+s.is3.toNat)).b==(rdR tP p.eh0 (0+(W (s.is3-1)).toNat)).b)&&true)))) (sl (inB s.is3 (p.ns0+1)) (sl (Nat.beq t1.1 1) (sl (inB t1.2.is3 (p.ns0+1)) (sl (inB t1.2.is3 (p.ns0+1)) (e 1) z) z) z) z) (k ⟨W (s.is3+1)⟩)) z) z) z) z) (e 2))
noncomputable def P6(p:Q9)(s:w8):Stp w8:=N6 .next .exit .fail p s
noncomputable def sa5:Lo Q9 w8:=⟨En va4,1,Ge1,[1,1,0,1,4,4],[0,3],.s .p (.s (.b (.s .p (.c (.s .p (.s (.s .p (.b (.u sa4.ls))) .p)) .p))) .p),[⟨.s (.o (.sl 0 0 (some 0) none))::sUq::sUq::sIq::ru2 57 [],[⟨73,4,true,none⟩],λa H=>(⟨slN (slT a 0),elT H 0⟩,⟨aIq a 3⟩)⟩],P6,[(none,λp s=>let t1:=(lp (u9 (⟨p.ns0,0+s.is3.toNat,p.ns0-s.is3.toNat⟩:E5)) (⟨s.is3,1,p.eh0⟩:r6));⟨[.sl 0 0 (t1.2.is3.toNat-0) 0],[⟨73,4,app (q9 t1.2.eh0 (0+t1.2.is3.toNat)) (app (List.replicate (p.ns0-t1.2.is3.toNat) [i 0,i 0,i 0,i 0]) (f9 t1.2.eh0 ((0+t1.2.is3.toNat)+(p.ns0-t1.2.is3.toNat)))),true,false,0⟩]⟩),(some 0,λp s=>upq (Ma3 p s) [(10,i s.is3),(11,.sl 0 0 p.ns0 0),(12,i (↑p.ns0:Int)),(13,b (decide (s.is3<(↑p.ns0:Int))))])],Ma3⟩
theorem zb9:sa5.Ok:=Lo.ok [sa4.pr] (by kernel_rfl) (.cons zb8 .nil) rfl (.cons (λa H=>by kernel_rfl) .nil) λp s=>(.of @N6 (λF _ _ _ _ _=>by unfold N6;(repeat' apply m8 (f:=F))<;>rfl) (by kernel_rfl))
structure ja6 where
 (alt ns0:Nat)
 eh0:List (List b7)
noncomputable def O3{α:Type}(kk:ja6->α)(x:ja5):α:=let t1:=(lp (P6 (⟨x.ns0,x.eh0⟩:Q9)) (⟨1⟩:w8));let t2:=(lp (u9 (⟨x.ns0,0+t1.2.is3.toNat,x.ns0-t1.2.is3.toNat⟩:E5)) (⟨t1.2.is3,1,x.eh0⟩:r6));(sl (decide ((↑x.ns0:Int)<2)) (kk ⟨1,x.ns0,x.eh0⟩) (sl (Nat.beq t1.1 1) (kk ⟨1,t2.2.is3.toNat-0,app (q9 t2.2.eh0 (0+t2.2.is3.toNat)) (app (List.replicate (x.ns0-t2.2.is3.toNat) [i 0,i 0,i 0,i 0]) (f9 t2.2.eh0 ((0+t2.2.is3.toNat)+(x.ns0-t2.2.is3.toNat))))⟩) (sl (Nat.beq t1.1 2) (kk ⟨1,x.ns0,x.eh0⟩) (kk ⟨0,0,[]⟩))))
noncomputable def X2(x:ja5):ja6:=O3 (λr=>r) x
noncomputable def va5(x:ja5)(r:ja6):DT (b7×List b9):=(.ite (Nat.beq r.alt 1) (.ret (.sl 0 0 r.ns0 0,[⟨73,4,r.eh0,true,false,0⟩])) .fail)
theorem Qb1{α β:Type}(F:α->β)(kk:ja6->α)(x:ja5):F (O3 kk x)=O3 (λr=>F (kk r)) x:=by unfold O3;(repeat' apply m8 (f:=F))<;>rfl
noncomputable def ya2:Sum:=Va6 ⟨[.s (.o (.sl 0 0 (some 0) none))],[⟨73,4,true,none⟩],λa H=>(⟨slN (slT a 0),elT H 0⟩,())⟩ (λx=>va5 x (X2 x))
theorem Ta8:g7 prog G 154 ya2:=M9 (enc:=λx=>⟨[.sl 0 0 x.ns0 0],[⟨73,4,x.eh0,true,false,0⟩]⟩) (λa H=>by kernel_rfl) (bd zf1 Gb9) λx=>xa3 (.s .p (.s .p (.s (.s .p (.b (.u sa5.ls))) .p))) [sa5.pr] (by kernel_rfl) (.cons zb9 .nil) (Qjk (b:=O3 (λr=>(va5 x r).run) x) (by kernel_rfl) (Qb1 (λr=>(va5 x r).run) (λr=>r) x).symm)
noncomputable def ed5:List (Nat×Sum):=[]
theorem Qc7:i9 prog G ed5:=trivial
noncomputable def Pa3(x:Int)(y:Int):Option (b7×List b9):=(sl (decide (x<y)) (some (i (-1),[])) (sl (decide (x>y)) (some (i 1,[])) (some (i 0,[]))))
noncomputable def sa6(x:Int)(y:Int):Int:=N9 (one r1I) (Pa3 x y)
noncomputable def sa7(x:Int)(y:Int):Bool:=okO (one r1I) (Pa3 x y)
noncomputable def mc7:Sum:=ta8 cI cI (λx y=>.guard (sa7 x y) (.ret ((one r1I).enc (sa6 x y),[])))
theorem ed6:g7 prog G 141 mc7:=Eb2 (bd Hf8 Qc7) (one r1I) (o:=Pa3) λx y=>y5 (by kernel_rfl)
noncomputable def Hc5:List (Nat×Sum):=[(141,mc7)]
theorem Ac5:i9 prog G Hc5:=⟨ed6,trivial⟩
noncomputable def Ba2(x:Pln)(y:Pln):Option (b7×List b9):=let t1:=(sa6 x.n.x y.n.x);let t2:=(sa6 x.n.y y.n.y);let t3:=(sa6 x.n.z y.n.z);let t4:=(sa6 x.b y.b);(sl (sa7 x.n.x y.n.x) (sl (t1==0) (sl (sa7 x.n.y y.n.y) (sl (t2==0) (sl (sa7 x.n.z y.n.z) (sl (t3==0) (sl (sa7 x.b y.b) (sl (t4==0) (some (i t4,[])) (some (i t4,[]))) none) (some (i t3,[]))) none) (some (i t2,[]))) none) (some (i t1,[]))) none)
noncomputable def Ra0(x:Pln)(y:Pln):Int:=N9 (one r1I) (Ba2 x y)
noncomputable def Ra1(x:Pln)(y:Pln):Bool:=okO (one r1I) (Ba2 x y)
noncomputable def nb0:Sum:=ta8 (fa0 tP) (fa0 tP) (λx y=>.guard (Ra1 x y) (.ret ((one r1I).enc (Ra0 x y),[])))
theorem Hc6:g7 prog G 122 nb0:=Eb2 (bd Gf8 Ac5) (one r1I) (o:=Ba2) λx y=>y5 (by kernel_rfl)
noncomputable def od4:List (Nat×Sum):=[(109,pb2),(110,hc9),(111,Sa3)]
theorem ed7:i9 prog G od4:=⟨Fb7,qc6,nb7,trivial⟩
noncomputable def Ya4(x:List Pln)(y:List Pln):Option (b7×List b9):=let t1:=(xa7 [rt tP x,rt tP y]);let t2:=(cb1 [rt tP x,rt tP y]);let t3:=(la9 (rt tP t2));(sl ((okE tP x)&&((okE tP y)&&true)) (sl (xa8 [rt tP x,rt tP y]) (sl (!t1) (some (b true,[])) (sl ((okE tP x)&&((okE tP y)&&true)) (sl (cb2 [rt tP x,rt tP y]) (sl (okE tP t2) (sl (ma0 (rt tP t2)) (some (b (!t3),[])) none) none) none) none)) none) none)
noncomputable def ya3(x:List Pln)(y:List Pln):Bool:=N9 (one r1B) (Ya4 x y)
noncomputable def ya4(x:List Pln)(y:List Pln):Bool:=okO (one r1B) (Ya4 x y)
noncomputable def qb1:Sum:=ta8 (R5 tP) (R5 tP) (λx y=>.guard (ya4 x y) (.ret ((one r1B).enc (ya3 x y),[])))
theorem Hb0:g7 prog G 56 qb1:=Eb2 (bd b56 ed7) (one r1B) (o:=Ya4) λx y=>y5 (by kernel_rfl)
structure ye8 where
 (Ba7 Ba8 Ba9 Ub3:Int)
 f0:List Pln
structure ye9 where
 alt:Nat
 bs0:Bool
structure jd6 where
 ra4:List Pt
 f0:List Pln
structure Tc8 where
 ra4:List Pt
 is7:Int
structure Tc9 where
 is8:Int
 f0:List Pln
structure jd7 where
 alt:Nat
 is0:Int
 f0:List Pln
structure Qc8 where
 ra4:List Pt
 f0:List Pln
structure Qc9 where
 alt:Nat
 bs0:Bool
 f0:List Pln
noncomputable def Ud3:List (Nat×Sum):=[]
theorem Fd6:i9 prog G Ud3:=trivial
structure Qb2 where
 (k8 pe3 pe4 pe5 pe6 pe7:Int)
noncomputable def wb8{α:Type}(kk:Qb2->α)(x:V3)(y:V3):α:=(kk ⟨y.x,W (0-x.x),y.y,W (0-x.y),y.z,W (0-x.z)⟩)
noncomputable def ed8(x:V3)(y:V3):Qb2:=wb8 (λr=>r) x y
noncomputable def dc1(r:Qb2):DT (b7×List b9):=.ret (.sl 0 0 6 0,[⟨73,4,[[i 1,i 0,i 0,i r.k8],[i (-1),i 0,i 0,i r.pe3],[i 0,i 1,i 0,i r.pe4],[i 0,i (-1),i 0,i r.pe5],[i 0,i 0,i 1,i r.pe6],[i 0,i 0,i (-1),i r.pe7]],true,false,0⟩])
theorem fe5{α β:Type}(F:α->β)(kk:Qb2->α)(x:V3)(y:V3):F (wb8 kk x y)=wb8 (λr=>F (kk r)) x y:=by unfold wb8;(repeat' apply m8 (f:=F))<;>rfl
noncomputable def ed9:Sum:=ta8 (fa0 tV) (fa0 tV) (λx y=>dc1 (ed8 x y))
theorem Ud4:g7 prog G 63 ed9:=Da9 (bd b63 Fd6) λx y=>y5 (Qjk (b:=wb8 (λr=>(dc1 r).run) x y) (by kernel_rfl) (fe5 (λr=>(dc1 r).run) (λr=>r) x y).symm)
noncomputable def has(c:List Pln)(v:V3):Bool:=(chk c==0)&&(inV v&&inn c ⟨v.x,v.y,v.z,1⟩)
theorem Ud5{a c:List Pln}(ha:(chk a==0)=true)(hc:(chk c==0)=true):Bds (a++c++ws)/\(a++c++ws).length<=200:=by
 rw[beq_iff_eq,Ha3] at ha hc;refine⟨λp hp=>?_,by rw[Qjd,Qjd,show ws.length=6 from rfl];omega⟩
 rcases List.mem_append.1 hp with hp|hp
 ·rcases List.mem_append.1 hp with hp|hp
  ·exact Pb1 (ha.2 p hp)
  ·exact Pb1 (hc.2 p hp)
 ·exact gf8 p hp
noncomputable def apart(a c:List Pln):Bool:=!((chk a==0)&&(chk c==0))||!Qc0 (a++c++ws)
theorem Ud6{a c:List Pln}(ha:a.length<=100000000)(hc:c.length<=100000000):Ya4 a c=some (b (apart a c),[]):=by
 have hn:[a,c].length<=1000000000:=by simp
 have hl:∀x∈[a,c],x.length<=1000000000:=by
  intro x hx;simp only[Qja,List.not_mem_nil,or_false] at hx
  rcases hx with rfl|rfl<;>omega
 have hf:[a,c].flatten=a++c:=by simp
 have hfl:[a,c].flatten.length<=1000000000:=by rw[hf,Qjd];omega
 unfold Ya4 apart;simp only[i5,q8,Sd2 _ hn hl,Sd3 _ hn hl,zf5 _ hn hfl,zf6 _ hn hfl,hf,List.all_cons,List.all_nil,Qjp];cases h1:chk a==0 with
 |false=>rfl
 |true =>
  cases h2:chk c==0 with
  |false=>rfl
  |true =>
   obtain⟨q1,q2⟩:=Ud5 h1 h2;rw[Ie4 _ q1 q2,Ie5 _ q1 q2];rfl
theorem Fd7{a c:List Pln}(ha:a.length<=100000000)(hc:c.length<=100000000):ya3 a c=apart a c:=by unfold ya3;rw[Ud6 ha hc];rfl
theorem Fd8{a c:List Pln}(ha:a.length<=100000000)(hc:c.length<=100000000):ya4 a c=true:=by unfold ya4;rw[Ud6 ha hc];rfl
noncomputable def lies(a c:List Pln):Bool:=ful a&&((chk c==0)&&(pts a).all (inn c))
end Go.Ev.Ce
namespace Go.Ev.L
open Go Go.Ev Go.Sort Go.Proofs
section
variable{α:Type}[Inhabited α]{P:Program}{G:Nat->List Value}{g:FuncId}{S:Sum}{t:Ty α}{enc:α->List Value}{cf:α->α->Int}
theorem Ze1 (hc : g7 P G g S) (hS : ∀ x y, (S [.agg (t.row x), .agg (t.row y)] []).run = some (i (cf x y), [])) (hG : ∀ n, G n = []) (he : ∀ x, t.row x = (enc x).map .v) (k blk off size : Nat) (w : World) :
  CmpLays P g #[] enc k cf blk off size w:=by
 intro m os dk _ x y;generalize sortWorldK enc k w blk off m dk os=w0;have hrow:∀(z:α),ka8 (λ_=>⟨0,0,0⟩) [] (λ_ _=>False) w0 (.agg (t.row z)) (.agg (enc z).toArray):=λz=>by
  refine .agg _ _ (by rw[he];simp) λi u u' hu hu'=>?_
  rw[he,Qjy] at hu;have hu':(enc z)[i]?=some u':=by simpa using hu'
  rw[hu'] at hu;injection hu with hu;subst hu;exact .v _
 obtain⟨_,h⟩:=hc _ _ _ _ (hS x y) (λk=>w0.heap.size<=k) (λ_=>⟨0,0,0⟩) (λ_ _=>False) w0 [.agg (enc x).toArray,.agg (enc y).toArray]
  ⟨λid b hb=>by simp at hb,λid id' b b' hb=>by simp at hb,λb o hf=>hf.elim,λk hk=>hk⟩ rfl
  (λi u u' hu hu'=>by
   match i,hu,hu' with
   |0,hu,hu'=>cases hu;cases hu';exact .val (hrow x)
   |1,hu,hu'=>cases hu;cases hu';exact .val (hrow y))
  (λn c v hv=>by rw[hG] at hv;simp at hv)
 refine h.mono λe w' ⟨r',h1,ρ',F',h2,h3,h4⟩=>?_
 have h5:=ga9 h4;subst h5;refine⟨h1,w'.drawn-w0.drawn,w'.heap.extract w0.heap.size w'.heap.size,?_⟩;have hd:=h2.ext.drawn;have hs:=h2.ext.size;have hheap:w'.heap=w0.heap++w'.heap.extract w0.heap.size w'.heap.size:=by
  apply Array.ext_getElem?;intro j
  rcases Nat.lt_or_ge j w0.heap.size with hj|hj
  ·rw[Qjx hj,h2.ext.block j hj (by omega)]
  ·rw[Array.getElem?_append_right hj,Array.getElem?_extract];have e:w0.heap.size+(j-w0.heap.size)=j:=by omega
   rw[e];split
   ·rfl
   ·rw[Qjas (by omega)]
 obtain⟨hp,tp,dr,os',out⟩:=w';have e1:=h2.ext.os;have e2:=h2.ext.tape;have e3:=h2.ext.output
 simp only at e1 e2 e3 hd hheap
 subst e1 e2 e3;unfold grow World.drewN
 simp only
 congr 1;omega
noncomputable def Ke0(t:Ty α)(g:Nat)(et:Nat)(srt:List α->List α):Sum:=λargs blks=>match args,blks with
 |[.sl 0 0 n 0,.fn g' []],[⟨et',es',el,true,false,0⟩] =>
  Bool.rec (motive:=λ_=>DT (b7×List b9)) .fail (.guard (Bool.and (Nat.ble n room) (Bool.and (Nat.ble n (len el)) (okS t el 0 n))) (.ret (.v (.tuple #[]),[⟨et',es',app (bL t (srt (slR t el 0 n))) (f9 el n),true,false,0⟩])))
   (Bool.and (Nat.beq g' g) (Bool.and (Nat.beq et' et) (Nat.beq es' t.es)))
 |_,_=>.fail
theorem Ac6(l:List α)(j:Nat)(h:j<l.length):l.toArray[j]! = l[j]:=by
 rw[getElem!_pos l.toArray j (by simpa using h)]
 simp
theorem Ze2 {f : FuncId} {et : Nat} {srt : List α → List α} (hcall : sb8 P f) (hes : 0 < t.es) (he : ∀ x, t.row x = (enc x).map .v) (hx : ∀ r, t.ok r = true → r = t.row (t.rd r)) (h1 : ∀ x, ∀ v ∈ enc x, v.oneCell' = true)
  (hlen:∀l,(srt l).length=l.length) (hcl:∀blk off size w,CmpLays P g #[] enc t.es cf blk off size w)
  (hcon:∀(blk cap:Nat) (d:Array α) (w:World),(∀off size,CmpLays P g #[] enc t.es cf blk off size w)->HoldsK enc t.es w blk 0 d->blk<w.heap.size->d.size<4611686018427387904 ->
   Calls P f #[.slice (some ⟨blk,0,none⟩) d.size cap,.func (.func g) #[] #[]] w λe w'=>e=.returned (.tuple #[])/\∃n os,w'=sortWorldK enc t.es w blk 0 n (srt d.toList).toArray os) :
  g7 P G f (Ke0 t g et srt):=by
 intro args blks r out hr W ρ F w args' hH hl hargs hG;refine⟨hcall,?_⟩;unfold Ke0 at hr
 split at hr
 case h_2=>cases hr
 rename_i n g' et' es' el;cases hb0:Bool.and (Nat.beq g' g) (Bool.and (Nat.beq et' et) (Nat.beq es' t.es)) with
 |false=>rw[hb0] at hr;cases hr
 |true =>
 rw[hb0] at hr;rw[Qju,Qju] at hb0;have q1:=Qjt hb0.1;have q2:=Qjt hb0.2.1;have q3:=Qjt hb0.2.2;subst q1 q2 q3;obtain⟨hg0,hr⟩:=DT.run_guard_some hr;rw[Qju,Qju] at hg0;have hroom:n<=room:=Qjav hg0.1;have hn:=Qjav hg0.2.1;rw[n7] at hn;have hok:=hg0.2.2;injection hr with hr;injection hr with p1 p2;subst p1 p2
 match args',hl with
 |[v0,v1],_ =>
 obtain⟨a,cap,b,rfl,hb,hd,_,hncap,hspot,hcap,hq⟩:=Ma7 (hargs 0 _ _ rfl rfl);obtain⟨vs1,rfl,hvs1,_⟩:=Mb2 (hargs 1 _ _ rfl rfl);have hvs1:vs1=#[]:=Array.eq_empty_of_size_eq_zero (by simpa using hvs1.symm)
 subst hvs1;rw[rb2] at *
 have hb:b=⟨et',t.es,el,true,false,0⟩:=by simpa using hb.symm
 subst hb;obtain⟨ha,hsz,hne⟩:=hq rfl;have ha:a=⟨(ρ 0).blk,(ρ 0).off+0*t.es,none⟩:=ha.resolve_left λh=>by omega
 obtain⟨cc,tt,fr,hB⟩:=hH.blk 0 _ rfl rfl;obtain⟨hfr,hW,hoff,hsize,hnF,het⟩:=hB.own rfl;subst hfr;rw[hoff,Nat.zero_mul,Nat.add_zero] at ha;subst ha;generalize hbk:(ρ 0).blk=blk at *
 -- the rows asq data
 have hrow:∀j,j<n->n5 el j=(enc (gL t (slR t el 0 n) j)).map .v:=λj hj=>by
  have h2:t.ok (n5 el (0+j))=true:=Qjaq.1 hok j (by simpa using hj)
  rw[Qjb] at h2;rw[<- he,slR,je2 t _ hj,Qjb];exact hx _ h2
 have hld:(slR t el 0 n).length=n:=je1 ..;have hk:∀x,(enc x).length=t.es:=λx=>by have:=t.h0 x;rw[n7,he] at this;simpa using this
 have hlt:blk<w.heap.size:=by
  have:=hB.obj
  rcases Nat.lt_or_ge blk w.heap.size with h|h
  ·exact h
  ·rw[hbk,Qjas h] at this;cases this
 have hobj:w.heap[blk]?=some (.cells cc tt (0,0)):=by rw[<- hbk];exact hB.obj
 have hgd:∀(l:List α) (j:Nat) (h:j<l.length),gL t l j=l[j]:=λl j h=>by simp[gL,Qjw,Qjj h]
 have hdm:∀q,q<n*t.es->q / t.es<n/\q % t.es<t.es/\(q / t.es)*t.es+q % t.es=q:=λq hq=>⟨Nat.div_lt_of_lt_mul (by rw[Nat.mul_comm];exact hq),Nat.mod_lt _ hes,Nat.div_add_mod' q t.es⟩
 have hrowAt:∀j,j<el.length->el[j]?=some (n5 el j):=λj hj=>by
  unfold n5;rw[D9,Qjj hj]
 have hH0:HoldsK enc t.es w blk 0 (slR t el 0 n).toArray:=by
  intro q hq;have hq:q<n*t.es:=by rw[size_flatK] at hq;simpa [hld] using hq
  obtain⟨e1,e2,e3⟩:=hdm q hq;rw[get_flatK _ _ _ _ (by simpa [hld] using hq),Ac6 _ _ (by rw[hld];exact e1),<- hgd _ _ (by rw[hld];exact e1)]
  have hcx:(n5 el (q / t.es))[q % t.es]?=some (.v ((enc (gL t (slR t el 0 n) (q / t.es)))[q % t.es]!)):=by
   rw[hrow _ e1,Qjy,Qjj (by rw[hk];exact e2),getElem!_pos _ _ (by rw[hk];exact e2)]
   rfl
  obtain⟨x',h5,h6⟩:=hB.cell (q / t.es) _ (q % t.es) _ (hrowAt _ (by omega)) hcx
  have h6:x'=(enc (gL t (slR t el 0 n) (q / t.es)))[q % t.es]! :=by cases h6;rfl
  subst h6;rw[hoff] at h5;simp only[e3,Qjb] at h5;constructor
  ·simp only[World.cell?,hobj,Qjb];simpa using h5
  ·simp[World.frozen?,hobj]
 have hds:(slR t el 0 n).toArray.size=n:=by simpa using hld
 have hmax:n<4611686018427387904:=by unfold room at hroom;omega
 have hcalls:=hcon blk cap (slR t el 0 n).toArray w (λoff size=>hcl blk off size w) hH0 hlt (by rw[hds];exact hmax)
 rw[hds] at hcalls;refine hcalls.mono λe w' ⟨h5,m,os,h6⟩=>⟨_,h5,ρ,F,?_⟩
 generalize hsd:srt (slR t el 0 n)=sd at *
 have hsl:sd.length=n:=by rw[<- hsd,hlen,hld]
 have h6:w'=grow (mapBlock (Sort.ahead w m) blk (putCells id 0 (flatK enc t.es sd.toArray))) os:=h6;have hw'size:w'.heap.size=w.heap.size+os.size:=by rw[h6];simp[mapBlock]
 have hold:∀k,k<w.heap.size->k≠blk->w'.heap[k]?=w.heap[k]?:=λk h7 h8=>by
  rw[h6];simp only[grow,mapBlock];rw[Qjx (by simpa using h7),Qjaw]
  simp[Ne.symm h8]
 have hnew:w'.heap[blk]?=some (.cells (putCells id 0 (flatK enc t.es sd.toArray) cc) tt (0,0)):=by
  rw[h6];simp only[grow,mapBlock];rw[Qjx (by simpa using hlt),Qjaw]
  simp[hobj,onCells]
 have hcells:∀b o,F b o->w'.cell? ⟨b,o,none⟩=w.cell? ⟨b,o,none⟩:=λb o hf=>by
  have h7:b≠blk:=λh8=>hnF o (h8 ▸ hf)
  have:=Mb0 (hH.frz b o hf)
  simp only[World.cell?,hold b this h7]
 have hpc:∀q,q<cc.size->(putCells id 0 (flatK enc t.es sd.toArray) cc)[q]?=if q<n*t.es then some ((enc sd.toArray[q / t.es]!)[q % t.es]!) else cc[q]?:=λq hq=>by
  simp only[putCells,Array.getElem?_mapIdx,Array.getElem?_eq_getElem hq,Option.map_some,size_flatK,Qjaa,true_and,Qjb,Nat.sub_zero,id]
  have:sd.toArray.size=n:=by simpa using hsl
  rw[this];split
  ·next h7=>rw[get_flatK _ _ _ _ (by rw[this];exact h7)]
  ·rfl
 have hel:(app (bL t sd) (f9 el n)).length=el.length:=by
  rw[I6,Qjd,<- n7 (bL t sd),P7,hsl,L5,Qjv];omega
 have hnrow:∀(j:Nat) r,(app (bL t sd) (f9 el n))[j]?=some r->(j<n/\r=t.row (gL t sd j))\/(n<=j/\el[j]?=some r):=λj r hr=>by
  have hlb:(bL t sd).length=n:=by rw[<- n7,P7,hsl]
  rw[I6] at hr
  rcases Nat.lt_or_ge j n with h7|h7
  ·rw[List.getElem?_append_left (by omega)] at hr
   left;refine⟨h7,?_⟩;unfold bL at hr;rw[p5,Qjy,Qjj (by omega)] at hr
   injection hr with hr;rw[<- hr,hgd sd j (by omega)]
  ·rw[List.getElem?_append_right (by omega),hlb,L5,List.getElem?_drop] at hr
   right;exact⟨h7,by rw[<- hr];congr 1;omega⟩
 have hcs:el.length*t.es<=cc.size:=by have:=hB.len;rw[hsize] at this;exact this
 refine⟨⟨⟨?_,?_,?_,by omega,λk h7 h8=>hold k h7 λh9=>h8 (h9 ▸ hW),hcells,?_⟩,λid b hb=>?_,λ_ _ h=>h,λ_ _ h=>.inl h,λid b' hb' hn'=>?_⟩,⟨λid b hb hd'=>?_,λid id' b b' hb hb' h7 h8 h9 h10=>?_,λb o hf=>by rw[hcells b o hf];exact hH.frz b o hf,λk hk'=>hH.new k (by omega)⟩,.ofv _⟩
 ·rw[h6];rfl
 ·rw[h6];rfl
 ·rw[h6];rfl
 ·rw[h6];exact Nat.le_add_right _ _
 ·match id,hb with
  |0,hb =>
   cases hb;exact⟨_,rfl,rfl,Qji _,λ_=>⟨rfl,rfl,by simp only[hel];exact Qji _⟩⟩
 ·match id,hb' with
  |0,hb'=>cases hb';exact absurd rfl (hn' ⟨et',t.es,el,true,false,0⟩ rfl)
 ·match id,hb with
  |0,hb =>
   cases hb;refine⟨_,tt,(0,0),by rw[hbk];exact hnew,?_,?_,?_,?_,λ_=>⟨rfl,by rw[hbk];exact hW,hoff,?_,by rw[hbk];exact hnF,het⟩,λh=>by cases h⟩
   ·rw[hoff,hsize];simp[putCells]
   ·simp only[hel];exact hB.len
   ·intro j r hr
    rcases hnrow j r hr with⟨_,h8⟩|⟨_,h8⟩
    ·rw[h8,<- n7];exact t.h0 _
    ·exact hB.rows j r h8
   ·intro j r c x hr hc;rw[hoff,Qjb]
    rcases hnrow j r hr with⟨h7,h8⟩|⟨h7,h8⟩
    ·subst h8;have hclt:c<t.es:=by
      have:=(List.getElem?_eq_some_iff.1 hc).1
      rw[<- n7,t.h0] at this;exact this
     have hq:j*t.es+c<n*t.es:=by
      have:=Qjag t.es (show j+1<=n from h7)
      rw[Nat.add_mul,Nat.one_mul] at this;omega
     have hqn:n*t.es<=el.length*t.es:=Qjag _ hn;have e1:(j*t.es+c) / t.es=j:=by rw[Nat.mul_comm,Nat.mul_add_div hes,Nat.div_eq_of_lt hclt,Nat.add_zero]
     have e2:(j*t.es+c) % t.es=c:=by rw[Nat.mul_comm,Nat.mul_add_mod,Nat.mod_eq_of_lt hclt]
     rw[he,Qjy,Qjj (by rw[hk];exact hclt)] at hc
     injection hc with hc;subst hc;refine⟨(enc (gL t sd j))[c]'(by rw[hk];exact hclt),?_,.v _ (h1 _ _ (List.getElem_mem _))⟩
     rw[hpc _ (Nat.lt_of_lt_of_le hq (Nat.le_trans hqn hcs)),if_pos hq,e1,e2,Ac6 _ _ (by omega),hgd sd j (by omega),getElem!_pos _ _ (by rw[hk];exact hclt)]
    ·obtain⟨x',h9,h10⟩:=hB.cell j r c x h8 hc;rw[hoff,Qjb] at h9;have hq:¬ j*t.es+c<n*t.es:=by
      have:=Qjag t.es h7
      omega
     have hlt':j*t.es+c<cc.size:=(Array.getElem?_eq_some_iff.1 h9).1;exact⟨x',by rw[hpc _ hlt',if_neg hq];exact h9,h10.adv (λ_ _ h=>h) hcells⟩
   ·rw[hsize];simp[putCells]
 ·match id,hb,id',hb' with
  |0,hb,0,hb'=>exact absurd rfl h10
end
end Go.Ev.L
namespace Go.Proofs
open Go.Shelf
set_option maxRecDepth 100000 in
def Ce.sortLay_ren:Go.Shelf.Ren:=⟨fun | 6=>121 | 15=>180 | 14=>179 | 28=>207 | 29=>208 | 20=>199 | 21=>200 | 22=>201 | 23=>202 | 24=>203 | 25=>204 | 26=>205 | 27=>206 | 46=>223 | 47=>224 | 48=>225 | 49=>226 | 50=>227 | 57=>233 | n=>n,fun | 22=>24 | 24=>73 | 25=>148 | 3=>3 | 39=>173 | 0=>0 | 53=>197 | 55=>199 | 4=>4 | 46=>191 | 45=>190 | 50=>50 | 5=>5 | 9=>9 | 66=>210 | 70=>214 | 76=>218 | 77=>219 | n=>n,fun | n=>n⟩
set_option maxRecDepth 100000 in
theorem Ce.sortLay:Go.Proofs.SlLaysF0.n6 Tryz.prog Ce.sortLay_ren:={
 mixed:=by kernel_rfl
 f6:=⟨Tryz.f121.name,by decide,Tryz.func121.trans (congrArg some (by kernel_rfl))⟩
 f14:=⟨Tryz.f179.name,by decide,Tryz.func179.trans (congrArg some (by kernel_rfl))⟩
 f15:=Tryz.func180.trans (congrArg some (by kernel_rfl))
 f20:=⟨Tryz.f199.name,by decide,Tryz.func199.trans (congrArg some (by kernel_rfl))⟩
 f21:=⟨Tryz.f200.name,by decide,Tryz.func200.trans (congrArg some (by kernel_rfl))⟩
 f22:=⟨Tryz.f201.name,by decide,Tryz.func201.trans (congrArg some (by kernel_rfl))⟩
 f23:=⟨Tryz.f202.name,by decide,Tryz.func202.trans (congrArg some (by kernel_rfl))⟩
 f24:=⟨Tryz.f203.name,by decide,Tryz.func203.trans (congrArg some (by kernel_rfl))⟩
 f25:=⟨Tryz.f204.name,by decide,Tryz.func204.trans (congrArg some (by kernel_rfl))⟩
 f26:=⟨Tryz.f205.name,by decide,Tryz.func205.trans (congrArg some (by kernel_rfl))⟩
 f27:=⟨Tryz.f206.name,by decide,Tryz.func206.trans (congrArg some (by kernel_rfl))⟩
 f28:=Tryz.func207.trans (congrArg some (by kernel_rfl))
 f29:=Tryz.func208.trans (congrArg some (by kernel_rfl))
 f46:=⟨Tryz.f223.name,by decide,Tryz.func223.trans (congrArg some (by kernel_rfl))⟩
 f47:=Tryz.func224.trans (congrArg some (by kernel_rfl))
 f48:=Tryz.func225.trans (congrArg some (by kernel_rfl))
 f49:=⟨Tryz.f226.name,by decide,Tryz.func226.trans (congrArg some (by kernel_rfl))⟩
 f50:=⟨Tryz.f227.name,by decide,Tryz.func227.trans (congrArg some (by kernel_rfl))⟩
 f57:=⟨Tryz.f233.name,by decide,Tryz.func233.trans (congrArg some (by kernel_rfl))⟩
 t0:=Tryz.underlying0
 a0:=Tryz.isAgg0
 z0:=Tryz.sizeOf0
 v0:=Tryz.zeroValue0
 t3:=Tryz.underlying3
 a3:=Tryz.isAgg3
 z3:=Tryz.sizeOf3
 v3:=Tryz.zeroValue3
 t4:=Tryz.underlying4
 a4:=Tryz.isAgg4
 z4:=Tryz.sizeOf4
 v4:=Tryz.zeroValue4
 t5:=Tryz.underlying5
 a5:=Tryz.isAgg5
 z5:=Tryz.sizeOf5
 v5:=Tryz.zeroValue5
 t9:=Tryz.underlying9
 a9:=Tryz.isAgg9
 z9:=Tryz.sizeOf9
 v9:=Tryz.zeroValue9
 t22:=Tryz.underlying24
 a22:=Tryz.isAgg24
 z22:=Tryz.sizeOf24
 v22:=Tryz.zeroValue24
 t25:=Tryz.underlying148
 a25:=Tryz.isAgg148
 z25:=Tryz.sizeOf148
 v25:=Tryz.zeroValue148
 t39:=Tryz.underlying173
 a39:=Tryz.isAgg173
 z39:=Tryz.sizeOf173
 v39:=Tryz.zeroValue173
 t45:=Tryz.underlying190
 a45:=Tryz.isAgg190
 z45:=Tryz.sizeOf190
 v45:=Tryz.zeroValue190
 t46:=Tryz.underlying191
 a46:=Tryz.isAgg191
 z46:=Tryz.sizeOf191
 v46:=Tryz.zeroValue191
 t50:=Tryz.underlying50
 a50:=Tryz.isAgg50
 z50:=Tryz.sizeOf50
 v50:=Tryz.zeroValue50
 t53:=Tryz.underlying197
 a53:=Tryz.isAgg197
 z53:=Tryz.sizeOf197
 v53:=Tryz.zeroValue197
 t55:=Tryz.underlying199
 a55:=Tryz.isAgg199
 z55:=Tryz.sizeOf199
 v55:=Tryz.zeroValue199
 t66:=Tryz.underlying210
 a66:=Tryz.isAgg210
 z66:=Tryz.sizeOf210
 v66:=Tryz.zeroValue210
 t70:=Tryz.underlying214
 a70:=Tryz.isAgg214
 z70:=Tryz.sizeOf214
 v70:=Tryz.zeroValue214
 t76:=Tryz.underlying218
 a76:=Tryz.isAgg218
 z76:=Tryz.sizeOf218
 v76:=Tryz.zeroValue218
 t77:=Tryz.underlying219
 a77:=Tryz.isAgg219
 z77:=Tryz.sizeOf219
 v77:=Tryz.zeroValue219 }
end Go.Proofs
namespace Go.Ev.Ce
open Go Go.Ev Go.Ev.L Go.Proofs Go.Sort
def wb9(x y:Int):Int:=if x<y then -1 else if x>y then 1 else 0
def ja7(x y:Pln):Int :=
 if wb9 x.n.x y.n.x=0 then if wb9 x.n.y y.n.y=0 then if wb9 x.n.z y.n.z=0 then wb9 x.b y.b else wb9 x.n.z y.n.z else wb9 x.n.y y.n.y else wb9 x.n.x y.n.x
theorem Uc0(x y:Int):wb9 x y<0↔x<y:=by unfold wb9;split<;>(try split)<;>omega
theorem Fd9(x y:Int):wb9 x y=0↔x=y:=by unfold wb9;split<;>(try split)<;>omega
def LtP(x y:Pln):Prop:=x.n.x<y.n.x\/x.n.x=y.n.x/\(x.n.y<y.n.y\/x.n.y=y.n.y/\(x.n.z<y.n.z\/x.n.z=y.n.z/\x.b<y.b))
instance(x y:Pln):Decidable (LtP x y):=by unfold LtP;exact inferInstance
theorem Gd0(x y:Pln):ja7 x y<0↔LtP x y:=by
 have h1:=Uc0 x.n.x y.n.x;have h2:=Fd9 x.n.x y.n.x;have h3:=Uc0 x.n.y y.n.y;have h4:=Fd9 x.n.y y.n.y;have h5:=Uc0 x.n.z y.n.z;have h6:=Fd9 x.n.z y.n.z;have h7:=Uc0 x.b y.b;unfold ja7 LtP;split
 ·split
  ·split<;>omega
  ·omega
 ·omega
theorem db2(x y:Pln):ltOf ja7 x y=decide (LtP x y):=by
 unfold ltOf;rw[decide_eq_decide];exact Gd0 x y
theorem Af4:SWO (ltOf ja7) where
 irrefl x:=by rw[db2];simp[LtP]
 trans x y z h1 h2:=by rw[db2,decide_eq_true_eq] at *;unfold LtP at *;omega
 ntrans x y z h1 h2:=by rw[db2,decide_eq_false_iff_not] at *;unfold LtP at *;omega
theorem Mf3(x y:Pln)(h1:ltOf ja7 x y=false)(h2:ltOf ja7 y x=false):x=y:=by
 rw[db2,decide_eq_false_iff_not] at *
 unfold LtP at *
 obtain⟨⟨a,b,c⟩,d⟩:=x;obtain⟨⟨a',b',c'⟩,d'⟩:=y
 simp only at *
 have:a=a'/\b=b'/\c=c'/\d=d':=by omega
 obtain⟨rfl,rfl,rfl,rfl⟩:=this;rfl
theorem Ud7(x y:Int):Pa3 x y=some (i (wb9 x y),[]):=by
 unfold Pa3 wb9;simp only[tb3,decide_eq_true_eq]
 split<;>(try split)<;>rfl
theorem Ze3(x y:Int):sa6 x y=wb9 x y:=by unfold sa6;rw[Ud7];rfl
theorem Ze4(x y:Int):sa7 x y=true:=by unfold sa7;rw[Ud7];rfl
theorem fd0(x y:Pln):Ba2 x y=some (i (ja7 x y),[]):=by
 unfold Ba2 ja7;simp only[Ze3,Ze4,tb3,beq_iff_eq,if_true]
 repeat' (first | rfl | split)
theorem Af5(x y:Pln):Ra0 x y=ja7 x y:=by unfold Ra0;rw[fd0];rfl
theorem Af6(x y:Pln):Ra1 x y=true:=by unfold Ra1;rw[fd0];rfl
theorem Af7(x y:Pln):(nb0 [.agg (tP.row x),.agg (tP.row y)] []).run=some (i (ja7 x y),[]):=by
 have:(nb0 [.agg (tP.row x),.agg (tP.row y)] []).run=sel (Ra1 x y) (some (i (Ra0 x y),[])) none:=by kernel_rfl
 rw[this,Af6,Af5]
def Ec8(p:Pln):List Value:=[.int .i64 p.n.x,.int .i64 p.n.y,.int .i64 p.n.z,.int .i64 p.b]
instance:Inhabited Pln:=⟨⟨⟨0,0,0⟩,0⟩⟩
def Ta9(l:List Pln):List Pln:=l.mergeSort λx y=>!ltOf ja7 y x
theorem ic2(l:List Pln):(Ta9 l).length=l.length:=List.length_mergeSort l
noncomputable def va6:Sum:=Ke0 tP 122 73 Ta9
theorem Ke1:Ce.sortLay_ren.f 6=121:=by kernel_rfl
theorem vd4:Ce.sortLay_ren.t 24=73:=by kernel_rfl
set_option maxRecDepth 100000 in
theorem Pa4:g7 prog G 121 va6:=by
 refine Ze2 (enc:=Ec8) (cf:=ja7) ⟨_,Tryz.func121,by kernel_rfl,of_decide_eq_true (by kernel_rfl)⟩ (by decide) (λ_=>rfl) (λr h=>bb3 (n:=4) h) (λx v hv=>?_) ic2
  (λblk off size w=>Ze1 Hc6 Af7 (λ_=>rfl) (λ_=>rfl) _ _ _ _ _) (λblk cap d w hcl hH hb hs=>?_)
 ·simp[Ec8] at hv
  rcases hv with rfl|rfl|rfl|rfl<;>rfl
 ·have eg:∀args w,(callFunc 122 args).run Tryz.prog w=.ok (.enter 122 args) w:=enters_of Tryz.func122 (by kernel_rfl) rfl
  have:=AnyQ.slices_SortFunc Ce.sortLay 4 (by rw[vd4];exact Tryz.isAgg73) (by rw[vd4];exact Tryz.sizeOf73) Ec8 (λ_=>rfl) (λx v hv=>by simp[Ec8] at hv;rcases hv with rfl | rfl | rfl | rfl<;>rfl) ja7 Af4 122 #[] blk 0 cap d w eg (hcl 0 d.size) hH hb hs
  rw[Ke1] at this;refine this.mono λe w' ⟨h1,d',n,os,h2,h3,h4⟩=>⟨h1,n,os,?_⟩
  have h5:=sorted_unique_holds Af4 Mf3 d d' h2 h3;rw[h4];show _=sortWorldK Ec8 4 w blk 0 n (d.toList.mergeSort λx y=>!ltOf ja7 y x).toArray os
  rw[<- h5]
end Go.Ev.Ce
namespace Go.Ev.Ce
open Go Go.Ev Go.Ev.L Go.Proofs
set_option maxRecDepth 100000
noncomputable def Ub8:List (Nat×Sum):=[]
theorem Qb3:i9 prog G Ub8:=trivial
structure qa7 where
 (alt ns0:Nat)
 eh0:List (List b7)
noncomputable def T8{α:Type}(kk:qa7->α)(x:Pln×List Pln):α:=(sl (Nat.beq 0 0&&Nat.ble ((0+(len (o8 (λk=>(tP).row (gL tP (x.1::x.2) k)) (List.range (List.length x.2+1)))))*32) room) (kk ⟨1,(0+(len (o8 (λk=>(tP).row (gL tP (x.1::x.2) k)) (List.range (List.length x.2+1))))),(app [] (o8 (λk=>(tP).row (gL tP (x.1::x.2) k)) (List.range (List.length x.2+1))))⟩) (kk ⟨0,0,[]⟩))
noncomputable def qa8(x:Pln×List Pln):qa7:=T8 (λr=>r) x
noncomputable def Da7(r:qa7):DT (b7×List b9):=(.ite (Nat.beq r.alt 1) (.ret (.sl 0 0 r.ns0 0,[⟨73,4,r.eh0,true,false,0⟩])) .fail)
theorem dc2{α β:Type}(F:α->β)(kk:qa7->α)(x:Pln×List Pln):F (T8 kk x)=T8 (λr=>F (kk r)) x:=by unfold T8;(repeat' apply m8 (f:=F))<;>rfl
noncomputable def jb7:Sum:=V1 (Be8 tP) (λx=>Da7 (qa8 x))
theorem Ub9:g7 prog G 151 jb7:=Bb1 (bd mf0 Qb3) λx=>y5 (Qjk (b:=T8 (λr=>(Da7 r).run) x) (by kernel_rfl) (dc2 (λr=>(Da7 r).run) (λr=>r) x).symm)
noncomputable def Gd1:List (Nat×Sum):=[(55,Ha1),(113,eb8),(151,jb7),(150,oa5),(121,va6),(154,ya2)]
theorem od5:i9 prog G Gd1:=⟨Ka0,vb9,Ub9,Ia1,Pa4,Ta8,trivial⟩
noncomputable def jb8(x:Pln×List Pln):Option (b7×List b9):=let t1:=(ka4 (rt tP (x.1::x.2)));let t2:=(Ca6 (rt tP (x.1::x.2)));let t3:=(qa8 (hC tP (λk=>(tP).row (gL tP (x.1::x.2) k)),tC tP (List.length x.2) (λk=>(tP).row (gL tP (x.1::x.2) k))));let t4:=(I4 ⟨t3.ns0,t3.eh0,rt tX t2⟩);let t5:=(X2 ⟨t4.ns0,app (bL tP (Ta9 (slR tP t4.eh0 0 t4.ns0))) (f9 t4.eh0 t4.ns0)⟩);(sl (okE tP (x.1::x.2)) (sl (ka5 (rt tP (x.1::x.2))) (sl (!t1) (some (.v (.slice none 0 0),[])) (sl (okE tP (x.1::x.2)) (sl (Ca7 (rt tP (x.1::x.2))) (sl (okL tP (List.length x.2+1) (λk=>(tP).row (gL tP (x.1::x.2) k))) (sl (Nat.beq t3.alt 1) (sl ((cnE tX t2)&&true) (sl (Nat.beq t4.alt 1) (sl (Bool.and (Nat.ble t4.ns0 room) (Bool.and (Nat.ble t4.ns0 (len t4.eh0)) (okS tP t4.eh0 0 t4.ns0))) (sl (Nat.beq t5.alt 1) (some (.sl 0 0 t5.ns0 0,[⟨73,4,t5.eh0,true,false,0⟩])) none) none) none) none) none) none) none) none)) none) none)
noncomputable def Mc6(x:Pln×List Pln):List Pln:=N9 (one (r1L tP)) (jb8 x)
noncomputable def Mc7(x:Pln×List Pln):Bool:=okO (one (r1L tP)) (jb8 x)
noncomputable def Ud8:Sum:=V1 (Be8 tP) (λx=>.guard (Mc7 x) (.ret ((one (r1L tP)).enc (Mc6 x),[])))
theorem Gd2:g7 prog G 98 Ud8:=Fa2 (bd b98 od5) (one (r1L tP)) (o:=jb8) λx=>y5 (by kernel_rfl)
noncomputable def onc(X:List Pt)(p:Pln):Nat:=X.countP λx=>rm p x==0
noncomputable def keep(X:List Pt)(p:Pln):Bool:=!decide ((onc X p:Int)<3)
theorem fd1(p:Pln)(X:List Pt)(hX:X.length<=1000000000):sa3 ⟨p.n.x,p.n.y,p.n.z,p.b,X⟩=⟨1,!keep X p,X⟩:=by
 have h:=wc5 (step:=va3 ⟨X,(X.length:Int),X,p.n.x,p.n.y,p.n.z,p.b⟩) (mk:=λj (n:Nat)=>(⟨(n:Int),(j:Int)⟩:S9)) (f:=λn x=>if rm p x==0 then n+1 else n) (fin:=1) tX X (λj n=>n<=j) hX
  (λj n hj hi=>by
   have hW:W ((n:Int)+1)=((n+1:Nat):Int):=by rw[ha0 (by omega) (by omega)];omega
   refine⟨?_,by show (if rm p (gL tX X j)==0 then n+1 else n)<=j+1;split<;>omega⟩
   simp only[va3,qa6,Int.toNat_natCast,Dd6,hW,o4 hj (show X.length<=4611686018427387904 by omega)]
   rw[btD (i6 hj),bt (f7 hj)];cases rm p (gL tX X j)==0<;>rfl)
  (λn _=>by simp only[va3,qa6];rw[bfD (r8 (Qjba _))]) 0 (Qjaa _) 0 (Qji _)
 have h:=h.1;have e:∀(l:List Pt) (n:Nat),l.foldl (λn x=>if rm p x==0 then n+1 else n) n=n+l.countP λx=>rm p x==0:=by
  intro l
  induction l with
  |nil=>intro n;rfl
  |cons x l ih =>
   intro n;rw[List.foldl_cons,ih,List.countP_cons]
   split<;>omega
 rw[Qjax,e,Qjb] at h;unfold sa3 Da0 keep onc;simp only[i5,i8];rw[show (⟨0,0⟩:S9)=⟨((0:Nat):Int),((0:Nat):Int)⟩ from rfl,h]
 show Ca9.mk 1 (decide _) X=Ca9.mk 1 (!(!(decide _))) X;rw[Bool.not_not]
theorem Ze5(l:List Pln)(X:List Pt)(hl:l.length<=1000000000)(hX:X.length<=1000000000):aa0 ⟨l.length,bL tP l,X⟩=⟨1,if l.any (λp=>!keep X p) then ((l.findIdx (λp=>!keep X p):Nat):Int) else -1,X⟩:=by
 have h:=Qa3 (step:=K0 ⟨l.length,(l.length:Int),bL tP l⟩) (mk:=λj=>(⟨(j:Int),X⟩:q7)) (c:=λp=>!keep X p) (u:=1) (fin:=2) tP l hl
  (λj hj=>by
   simp only[K0,G8,Int.toNat_natCast,i5,i8,Tc7 hj,Ac4 hj,fd1 _ _ hX,o4 hj (show l.length<=4611686018427387904 by omega)]
   rw[btD (i6 hj),bt (f7 hj)]
   rfl)
  (by simp only[K0,G8];rw[bfD (r8 (Qjba _))]) 0 (Qjaa _)
 rw[Qjax] at h;unfold aa0 I0;simp only[i5,i8];rw[show (⟨0,X⟩:q7)=⟨((0:Nat):Int),X⟩ from rfl,h]
 cases ha:l.any λp=>!keep X p with
 |false=>rfl
 |true =>
  have hf:l.findIdx (λp=>!keep X p)<l.length:=by
   rw[Qjac] at ha;obtain⟨p,hp,hc⟩:=ha;exact Qjad ⟨p,hp,hc⟩
  simp only[if_true,Qjb,Int.toNat_natCast,Ac4 hf,fd1 _ _ hX,i5];rfl
theorem Ac7{α:Type}(c:α->Bool):∀l:List α,(l.take (l.findIdx c)).filter (λx=>!c x)=l.take (l.findIdx c)
 |[]=>rfl
 |x::l=>by
  rw[Qjam];cases h:c x with
  |true=>rfl
  |false =>
   simp only[cond_false,List.take_succ_cons,Qjae,h,Bool.not_false,if_true];rw[Ac7 c l]
theorem fe6{α:Type}(l:List α)(j:Nat)(h:j<l.length):l.take (j+1)=l.take j++[l[j]]:=by rw[Qjn h]
theorem Uc1{α:Type}(t:Ty α){l:List α}{j:Nat}(h:j<l.length):l.take (j+1)=l.take j++[gL t l j]:=by rw[fe6 l j h,Ta2 t h]
theorem Hc7{α:Type}(t:Ty α){l r:List α}{j:Nat}(h:l.drop j=r.drop j):gL t l j=gL t r j:=by
 have h1:=zc5 t l j 0;have h2:=zc5 t r j 0;rw[Nat.add_zero] at h1 h2;rw[<- h1,<- h2,h]
theorem Ac8{α:Type}{l r:List α}{j:Nat}(h:l.drop j=r.drop j)(k:Nat):l.drop (j+k)=r.drop (j+k):=by rw[<- List.drop_drop,<- List.drop_drop,h]
structure Del(l:List Pln)(f:Pln->Bool)(cur:List Pln)(m j:Nat):Prop where
 len:cur.length=l.length
 t:cur.take m=(l.take j).filter f
 d:cur.drop j=l.drop j
 le:m<=j
 lm:m<=l.length
theorem Ud9 (l : List Pln) (X : List Pt) (hl : l.length ≤ 1000000000) (hX : X.length ≤ 1000000000) (m j : Nat) (cur : List Pln) (hd : Del l (keep X) cur m j) :
  ∃t s,lp (D8 ⟨l.length⟩) ⟨(m:Int),(j:Int),bL tP cur,X⟩=(t,s)/\(t=1/\∃m' cur' k,s=⟨((m':Nat):Int),((k:Nat):Int),bL tP cur',X⟩/\Del l (keep X) cur' m' k/\l.length<=k):=by
 refine da0 (step:=D8 ⟨l.length⟩) (mk:=λj (x:Nat×List Pln)=>(⟨(x.1:Int),(j:Int),bL tP x.2,X⟩:v8)) l.length (λj x=>Del l (keep X) x.2 x.1 j) (λt s=>t=1/\∃m' cur' k,s=⟨((m':Nat):Int),((k:Nat):Int),bL tP cur',X⟩/\Del l (keep X) cur' m' k/\l.length<=k) hl (λj x hj hx=>?_) (λj x hj hx=>?_) j (m,cur) hd
 ·obtain⟨m,cur⟩:=x;obtain⟨h1,h2,h3,h4,h5⟩:=hx
  simp only at h1 h2 h3 h4 h5
  have hjc:j<cur.length:=by omega
  have hmc:m<cur.length:=by omega
  have hg:gL tP cur j=gL tP l j:=Hc7 tP h3;have hWm:W ((m:Int)+1)=((m+1:Nat):Int):=by rw[ha0 (by omega) (by omega)];omega
  have hb:Nat.blt m cur.length=true:=by rw[Qjao];exact hmc
  have hrow:n5 (bL tP cur) m=tP.row (gL tP cur m):=ba6 tP hmc;have sp:∀(v:Pln) (x1 x2 x3 x4:Int),ba4 (tP.row v) 0 [i x1,i x2,i x3,i x4]=tP.row ⟨⟨x1,x2,x3⟩,x4⟩:=λ_ _ _ _ _=>rfl
  have rl:∀v:Pln,Nat.ble (0+4) (len (tP.row v))=true:=λ_=>rfl
  simp only[D8,G9,Int.toNat_natCast,i5,i8,Tc7 hjc,Ac4 hjc,fd1 _ _ hX,o4 hj (show l.length<=4611686018427387904 by omega),hWm]
  rw[btD (i6 hj),bt (f7 hj)];simp only[Qjb,hrow,P7,hb,sp,Yb1,f7 (show m<l.length by omega),hg]
  have ht:=Uc1 tP hj;have hd1:cur.drop (j+1)=l.drop (j+1):=Ac8 h3 1;cases hk:keep X (gL tP l j) with
  |true =>
   refine .nx ⟨(m+1,cur.set m (gL tP l j)),rfl,⟨by rw[Qjm];exact h1,?_,?_,by omega,by show m+1<=l.length;omega⟩⟩
   ·show (cur.set m (gL tP l j)).take (m+1)=_;rw[ht,Qjak,Qjn (by rw[Qjm];exact hmc),Qjay,List.take_set_of_le (Qji _),h2,Qjae,hk,if_pos rfl,List.filter_nil]
   ·show (cur.set m (gL tP l j)).drop (j+1)=_;rw[List.drop_set_of_lt (by omega),hd1]
  |false =>
   refine .nx ⟨(m,cur),rfl,⟨h1,?_,hd1,by omega,h5⟩⟩
   show cur.take m=_;rw[ht,Qjak,h2,Qjae,hk,if_neg (by simp),List.filter_nil,Qjah]
 ·obtain⟨m,cur⟩:=x;refine⟨1,?_,rfl,m,cur,j,rfl,hx,hj⟩;simp only[D8,G9];rw[bfD (by omega)]
theorem me6(l:List Pln)(n:Nat):q9 (bL tP l) n=bL tP (l.take n):=by unfold bL;rw[L4,p5,p5,List.map_take]
theorem Gd3(l:List Pln)(n:Nat):f9 (bL tP l) n=bL tP (l.drop n):=by unfold bL;rw[L5,p5,p5,List.map_drop]
theorem me7(n:Nat):List.replicate n [i 0,i 0,i 0,i 0]=bL tP (List.replicate n ⟨⟨0,0,0⟩,0⟩):=by unfold bL;rw[p5,List.map_replicate];rfl
theorem vd5 (l : List Pln) (X : List Pt) (hl : l.length ≤ 1000000000) (hX : X.length ≤ 1000000000) :
  ∃m r,I4 ⟨l.length,bL tP l,X⟩=⟨1,m,bL tP r,X⟩/\m<=r.length/\r.take m=l.filter (keep X)/\r.length=l.length:=by
 unfold I4 I1;simp only[i5,i8,Ze5 l X hl hX];cases ha:l.any λp=>!keep X p with
 |false =>
  refine⟨l.length,l,rfl,Qji _,?_,rfl⟩;rw[List.take_length]
  symm
  rw[List.filter_eq_self];intro p hp
  have:=List.any_eq_false.1 ha p hp
  simpa using this
 |true =>
  have hf:l.findIdx (λp=>!keep X p)<l.length:=by
   rw[Qjac] at ha;obtain⟨p,hp,hc⟩:=ha;exact Qjad ⟨p,hp,hc⟩
  have hk:keep X (gL tP l (l.findIdx λp=>!keep X p))=false:=by
   have:=List.findIdx_getElem (xs:=l) (p:=λp=>!keep X p) (w:=hf)
   rw[Ta2 tP hf];simpa using this
  have ht:=Ac7 (λp=>!keep X p) l
  simp only[Bool.not_not] at ht;generalize hF:l.findIdx (λp=>!keep X p)=F at *
  have hW:W ((F:Int)+1)=((F+1:Nat):Int):=o4 hf (by omega)
  have hne:((F:Int)==-1)=false:=by rw[beq_eq_false_iff_ne];omega
  obtain⟨t,s,e1,rfl,m,cur,k,e2,e3,e4⟩:=Ud9 l X hl hX F (F+1) l ⟨rfl,by rw[Uc1 tP hf,Qjak,ht,Qjae,hk,if_neg (by simp),List.filter_nil,Qjah],rfl,by omega,by omega⟩
  have hm:m<=l.length:=e3.lm;have hin:inB (m:Int) (l.length+1)=true:=f7 (by omega)
  have hfin:cur.take m=l.filter (keep X):=by rw[e3.t,Qjat e4]
  simp only[if_true,hW,hne,e1,e2,Int.toNat_natCast,hin,Qjb,Nat.sub_zero];refine⟨m,cur.take m++(List.replicate (l.length-m) ⟨⟨0,0,0⟩,0⟩++cur.drop (m+(l.length-m))),?_,?_,?_,?_⟩
  ·rw[me6,me7,Gd3,Ra8,Ra8];rfl
  ·rw[Qjd,Qjd,Qjc,Qjaz,e3.len];omega
  ·rw[Qjs (by rw[Qjc,e3.len];omega),List.take_take,Nat.min_self,hfin]
  ·rw[Qjd,Qjd,Qjc,Qjaz,Qjv,e3.len];omega
def eqP(x y:Pln):Bool:=x.n.x==y.n.x&&(x.n.y==y.n.y&&(x.n.z==y.n.z&&(x.b==y.b&&true)))
theorem Cb4(x y:Pln):eqP x y=true↔x=y:=by
 unfold eqP;simp only[Qjp,Qju,beq_iff_eq];refine⟨λ⟨h1,h2,h3,h4⟩=>?_,λh=>by subst h;exact⟨rfl,rfl,rfl,rfl⟩⟩
 obtain⟨⟨x1,x2,x3⟩,x4⟩:=x;obtain⟨⟨y1,y2,y3⟩,y4⟩:=y
 simp only at h1 h2 h3 h4
 subst h1 h2 h3 h4;rfl
def ddF:Pln->List Pln->List Pln
 |_,[]=>[]
 |a,x::l=>if eqP x a then ddF x l else x::ddF x l
def dd:List Pln->List Pln
 |[]=>[]
 |x::l=>x::ddF x l
theorem me8:∀(a:Pln) (l:List Pln),(ddF a l).length<=l.length
 |_,[]=>Qji _
 |a,x::l=>by
  have:=me8 x l
  unfold ddF
  split<;>simp only[List.length_cons]<;>omega
structure Cmp(l:List Pln)(n:Nat)(cur:List Pln)(m j:Nat)(R:List Pln):Prop where
 len:cur.length=l.length
 t:cur.take m++ddF (gL tP l (j-1)) ((l.take n).drop j)=R
 d:cur.drop (j-1)=l.drop (j-1)
 le:m+1<=j
theorem Gd4 (l : List Pln) (n o : Nat) (hn : n ≤ l.length) (hl : l.length ≤ 1000000000) (ho : o < n) (m : Nat) (cur : List Pln) (R : List Pln) (hd : Cmp l n cur m (o + 1) R) :
  ∃t s,lp (u9 ⟨n,0+o,n-o⟩) ⟨(m:Int),((1:Nat):Int),bL tP cur⟩=(t,s)/\(t=1/\∃m' cur' k,s=⟨((m':Nat):Int),k,bL tP cur'⟩/\cur'.length=l.length/\cur'.take m'=R/\m'<=n):=by
 refine da0 (step:=u9 ⟨n,0+o,n-o⟩) (mk:=λj (x:Nat×List Pln)=>(⟨(x.1:Int),(j:Int),bL tP x.2⟩:r6)) (n-o) (λj x=>Cmp l n x.2 x.1 (o+j) R/\1<=j/\x.1<=n) (λt s=>t=1/\∃m' cur' k,s=⟨((m':Nat):Int),k,bL tP cur'⟩/\cur'.length=l.length/\cur'.take m'=R/\m'<=n) (by omega) (λj x hj hx=>?_) (λj x hj hx=>?_) 1 (m,cur) ⟨hd,Qji _,by have:=hd.le;show m<=n;omega⟩
 ·obtain⟨m,cur⟩:=x;obtain⟨⟨h1,h2,h3,h4⟩,hj1,hmn⟩:=hx
  simp only at h1 h2 h3 h4 hmn
  have hoj:o+j<n:=by omega
  have hjc:o+j<cur.length:=by omega
  have hjc':o+(j-1)<cur.length:=by omega
  have hmc:m<cur.length:=by omega
  have hg':gL tP cur (o+(j-1))=gL tP l (o+j-1):=by rw[show o+(j-1)=o+j-1 by omega];exact Hc7 tP h3
  have hd1:cur.drop (o+j)=l.drop (o+j):=by have:=Ac8 h3 1;rw[show o+j-1+1=o+j by omega] at this;exact this
  have hg:gL tP cur (o+j)=gL tP l (o+j):=Hc7 tP hd1;have hWm:W ((m:Int)+1)=((m+1:Nat):Int):=by rw[ha0 (by omega) (by omega)];omega
  have hWj:W ((j:Int)-1)=((j-1:Nat):Int):=by rw[ha0 (by omega) (by omega)];omega
  have hb:Nat.blt m cur.length=true:=by rw[Qjao];exact hmc
  have hrow:n5 (bL tP cur) m=tP.row (gL tP cur m):=ba6 tP hmc;have sp:∀(v:Pln) (x1 x2 x3 x4:Int),ba4 (tP.row v) 0 [i x1,i x2,i x3,i x4]=tP.row ⟨⟨x1,x2,x3⟩,x4⟩:=λ_ _ _ _ _=>rfl
  have rl:∀v:Pln,Nat.ble 4 (len (tP.row v))=true:=λ_=>rfl
  simp only[u9,N5,Int.toNat_natCast,Qjb,hWj,ce1 tP hjc,ce1 tP hjc',ce0 tP hjc,ce0 tP hjc',o4 hj (show n-o<=4611686018427387904 by omega),hWm,hg,hg',hrow,P7,hb,sp,rl,Yb1,f7 (show m<n by omega)]
  rw[btD (i6 hj)];simp only[f7 hj,f7 (show j-1<n-o by omega),g9,Bool.and_self]
  rw[show ((gL tP l (o+j)).n.x==(gL tP l (o+j-1)).n.x&&((gL tP l (o+j)).n.y==(gL tP l (o+j-1)).n.y&&((gL tP l (o+j)).n.z==(gL tP l (o+j-1)).n.z&&((gL tP l (o+j)).b==(gL tP l (o+j-1)).b&&true))))=eqP (gL tP l (o+j)) (gL tP l (o+j-1)) from rfl]
  have hcons:(l.take n).drop (o+j)=gL tP l (o+j)::(l.take n).drop (o+(j+1)):=by
   rw[Qjap (by rw[Qjc];omega),List.getElem_take,Ta2 tP (by omega)]
   rfl
  rw[hcons] at h2;have hlast:o+(j+1)-1=o+j:=by omega
  unfold ddF at h2;cases he:eqP (gL tP l (o+j)) (gL tP l (o+j-1)) with
  |true =>
   rw[he] at h2;simp only[if_true] at h2;refine .nx ⟨(m,cur),rfl,⟨⟨h1,?_,?_,by show m+1<=o+(j+1);omega⟩,by omega,hmn⟩⟩
   ·rw[hlast];exact h2
   ·rw[hlast];exact hd1
  |false =>
   rw[he] at h2;simp only[Bool.false_eq_true,if_false] at h2;refine .nx ⟨(m+1,cur.set m (gL tP l (o+j))),rfl,⟨⟨by rw[Qjm];exact h1,?_,?_,by show m+1+1<=o+(j+1);omega⟩,by omega,by show m+1<=n;omega⟩⟩
   ·rw[hlast];show (cur.set m (gL tP l (o+j))).take (m+1)++_=R;rw[Qjn (by rw[Qjm];exact hmc),Qjay,List.take_set_of_le (Qji _),Qjan]
    exact h2
   ·rw[hlast];show (cur.set m (gL tP l (o+j))).drop (o+j)=_;rw[List.drop_set_of_lt (by omega),hd1]
 ·obtain⟨m,cur⟩:=x;obtain⟨⟨h1,h2,h3,h4⟩,hj1,hmn⟩:=hx
  simp only at h1 h2 h3 h4 hmn
  refine⟨1,?_,rfl,m,cur,_,rfl,h1,?_,hmn⟩
  ·simp only[u9,N5];rw[bfD (by omega)]
  ·rw[Qjau (by rw[Qjc];omega)] at h2
   unfold ddF at h2;rw[Qjah] at h2;exact h2
theorem fd2 (l : List Pln) (n : Nat) (hn : n ≤ l.length) (hl : l.length ≤ 1000000000) :
  ∃m r,X2 ⟨n,bL tP l⟩=⟨1,m,bL tP r⟩/\m<=r.length/\r.take m=dd (l.take n):=by
 unfold X2 O3
 simp only
 by_cases h2:(n:Int)<2
 ·rw[btD h2];refine⟨n,l,rfl,hn,?_⟩
  have:n=0\/n=1:=by omega
  rcases this with rfl|rfl
  ·rfl
  ·cases l with
   |nil=>rfl
   |cons x l=>rfl
 ·rw[bfD h2];have h1n:1<=n:=by omega
  have hI : ∀ j, j < n → 1 ≤ j → l.take j ++ ddF (gL tP l (j - 1)) ((l.take n).drop j) = dd (l.take n) →
    (eqP (gL tP l j) (gL tP l (j-1))=true->Cmp l n l j (j+1) (dd (l.take n)))/\(eqP (gL tP l j) (gL tP l (j-1))=false->l.take (j+1)++ddF (gL tP l (j+1-1)) ((l.take n).drop (j+1))=dd (l.take n)):=by
   intro j hj hj1 hR;have hcons:(l.take n).drop j=gL tP l j::(l.take n).drop (j+1):=by
    rw[Qjap (by rw[Qjc];omega),List.getElem_take,Ta2 tP (by omega)]
   rw[hcons] at hR;unfold ddF at hR;constructor
   ·intro he;rw[he] at hR;simp only[if_true] at hR;exact⟨rfl,hR,rfl,Qji _⟩
   ·intro he;rw[he] at hR;simp only[Bool.false_eq_true,if_false] at hR;rw[Uc1 tP (show j<l.length by omega),Qjan]
    exact hR
  have inner:∀k,k<n->1<=k->Cmp l n l k (k+1) (dd (l.take n))->∃m' cur' k',lp (u9 ⟨n,0+k,n-k⟩) ⟨(k:Int),1,bL tP l⟩=(1,⟨((m':Nat):Int),k',bL tP cur'⟩)/\cur'.length=l.length/\cur'.take m'=dd (l.take n)/\m'<=n:=by
   intro k hk hk1 hc;obtain⟨t,s,e1,rfl,m',cur',k',rfl,e2,e3,e4⟩:=Gd4 l n k hn hl hk k l _ hc;exact⟨m',cur',k',e1,e2,e3,e4⟩
  have key:=da0 (step:=P6 ⟨n,bL tP l⟩) (mk:=λj (_:Unit)=>(⟨(j:Int)⟩:w8)) n (λj _=>1<=j/\j<=n/\l.take j++ddF (gL tP l (j-1)) ((l.take n).drop j)=dd (l.take n))
   (λt s=>(t=1/\∃k:Nat,s=⟨(k:Int)⟩/\k<n/\1<=k/\Cmp l n l k (k+1) (dd (l.take n)))\/(t=2/\l.take n=dd (l.take n))) (by omega) (λj x hj hx=>?_) (λj x hj hx=>?_) 1 () ⟨Qji _,h1n,by
    cases l with
    |nil=>simp only[List.length_nil] at hn;omega
    |cons x l =>
     cases n with
     |zero=>omega
     |succ n=>rfl⟩
  ·obtain⟨t,s,e1,e2⟩:=key;rw[show (⟨1⟩:w8)=⟨((1:Nat):Int)⟩ from rfl,e1]
   rcases e2 with⟨rfl,k,rfl,hk,hk1,hc⟩|⟨rfl,he⟩
   ·obtain⟨m',cur',k',e2,e3,e4,e5⟩:=inner k hk hk1 hc;simp only[Int.toNat_natCast,e2];simp only[Qjb,Nat.sub_zero];refine⟨m',cur'.take m'++(List.replicate (n-m') ⟨⟨0,0,0⟩,0⟩++cur'.drop (m'+(n-m'))),?_,?_,?_⟩
    ·rw[me6,me7,Gd3,Ra8,Ra8];rfl
    ·rw[Qjd,Qjc,e3];omega
    ·rw[Qjs (by rw[Qjc,e3];omega),List.take_take,Nat.min_self,e4]
   ·exact⟨n,l,rfl,hn,he⟩
  ·obtain⟨hj1,hjn,hR⟩:=hx;obtain⟨i1,i2⟩:=hI j hj hj1 hR;have hWj:W ((j:Int)-1)=((j-1:Nat):Int):=by rw[ha0 (by omega) (by omega)];omega
   have hjl:j<l.length:=by omega
   have hjl':j-1<l.length:=by omega
   simp only[P6,N6,Int.toNat_natCast,hWj,Tc7 hjl,Tc7 hjl',Ac4 hjl,Ac4 hjl',o4 hj (show n<=4611686018427387904 by omega)]
   rw[btD (i6 hj),bt (f7 hj),bt (f7 (show j-1<n by omega)),bt (f7 (show j<n+1 by omega))]
   simp only[g9];rw[show ((gL tP l j).n.x==(gL tP l (j-1)).n.x&&((gL tP l j).n.y==(gL tP l (j-1)).n.y&&((gL tP l j).n.z==(gL tP l (j-1)).n.z&&((gL tP l j).b==(gL tP l (j-1)).b&&true))))=eqP (gL tP l j) (gL tP l (j-1)) from rfl]
   cases he:eqP (gL tP l j) (gL tP l (j-1)) with
   |false=>exact .nx ⟨(),rfl,by omega,by omega,i2 he⟩
   |true =>
    obtain⟨m',cur',k',e2,e3,e4,e5⟩:=inner j hj hj1 (i1 he);rw[e2];simp only[f7 (show m'<n+1 by omega)]
    exact .ex (.inl ⟨rfl,j,rfl,hj,hj1,i1 he⟩)
  ·obtain⟨hj1,hjn,hR⟩:=hx;refine⟨2,?_,.inr ⟨rfl,?_⟩⟩
   ·simp only[P6,N6];rw[bfD (by omega)]
   ·have:j=n:=by omega
    subst this;rw[Qjau (by rw[Qjc];omega)] at hR
    unfold ddF at hR;rw[Qjah] at hR;exact hR
theorem Ke2(l:List Pln)(n:Nat)(hn:n<=l.length):slR tP (bL tP l) 0 n=l.take n:=Ec0 tP (by rw[Qjc];omega) λk hk=>by
 rw[Qjb,ba6 tP (by omega)]
 congr 1;simp[gL,Qjw,List.getElem?_take,hk]
theorem Ke3(l:List Pln)(n:Nat)(hn:n<=l.length):okS tP (bL tP l) 0 n=true:=kb9 tP (f:=λk=>gL tP l k) λk hk=>by rw[Qjb,ba6 tP (by omega)]
noncomputable def lean(c:List Pln):List Pln:=if ful c then dd (Ta9 (c.filter (keep (pts c)))) else []
theorem me9(p:Pln)(c:List Pln)(hc:c.length<=1000000):Rd (one (r1L tP)) (jb8 (p,c)) (λr=>r=lean (p::c)):=by
 have hl:(p::c).length<=1000000000:=by simp only[List.length_cons];omega
 have hX:=Fd3 (p::c);unfold jb8 lean;simp only[i5,q8,i8,tf5,tf6,rc0 hl,rc1 hl,cd6 hl,cd7 hl];cases hf:ful (p::c) with
 |false=>exact⟨_,[],rfl,rfl,rfl⟩
 |true =>
  have ec:o8 (λk=>tP.row (gL tP (p::c) k)) (List.range (c.length+1))=bL tP (p::c):=tb4 tP (p::c)
  have hcl:qa8 (p,c)=⟨1,(p::c).length,bL tP (p::c)⟩:=by
   unfold qa8 T8;simp only[ec,P7];have r:Nat.ble ((0+(p::c).length)*32) room=true:=ca1 (by simp only[List.length_cons];omega)
   rw[r,Qjb];rfl
  obtain⟨m,r,e1,e2,e3,e4⟩:=vd5 (p::c) (pts (p::c)) hl (by omega)
  have hm:m<=(p::c).length:=by
   have h1:=congrArg List.length e3;have h2:=List.length_filter_le (keep (pts (p::c))) (p::c);rw[Qjc] at h1;omega
  have hs:(Ta9 (r.take m)).length=m:=by rw[ic2,Qjc];omega
  have hrows:app (bL tP (Ta9 (r.take m))) (f9 (bL tP r) m)=bL tP (Ta9 (r.take m)++r.drop m):=by rw[Gd3,Ra8]
  have hok:okL tP (c.length+1) (λk=>tP.row (gL tP (p::c) k))=true:=kb9 tP (f:=λk=>gL tP (p::c) k) λ_ _=>rfl
  simp only[hcl,e1,Ke2 r m e2,Ke3 r m e2,hrows,hok];obtain⟨m2,r2,k1,k2,k3⟩:=fd2 (Ta9 (r.take m)++r.drop m) m (by rw[Qjd,hs];omega) (by rw[Qjd,hs,Qjv,e4];omega)
  rw[k1,P7];have q1:Nat.ble m room=true:=by rw[Nat.ble_eq];unfold room;simp only[List.length_cons] at hm;omega
  have q2:Nat.ble m r.length=true:=by rw[Nat.ble_eq];exact e2
  rw[q1,q2];have hfin:r2.take m2=dd (Ta9 ((p::c).filter (keep (pts (p::c))))):=by
   rw[k3,Qjs (by rw[hs];omega),Qjat (by rw[hs];omega),e3]
  exact Je9 k2 rfl hfin
theorem of4(p:Pln)(c:List Pln)(hc:c.length<=1000000):Mc6 (p,c)=lean (p::c):=(me9 p c hc).p
theorem of5(p:Pln)(c:List Pln)(hc:c.length<=1000000):Mc7 (p,c)=true:=(me9 p c hc).g
end Go.Ev.Ce
namespace Go.Ev.Ce
open Go Go.Ev Go.Ev.L Go.Proofs Go.Sort
theorem fd3(l:List Pln):List.Perm (Ta9 l) l:=List.mergeSort_perm l _
theorem ve7(x y z:Pln)(h1:(!ltOf ja7 y x)=true)(h2:(!ltOf ja7 z y)=true):(!ltOf ja7 z x)=true:=by
 simp only[Bool.not_eq_true',db2,decide_eq_false_iff_not] at *
 unfold LtP at *
 omega
theorem ve8(x y:Pln):((!ltOf ja7 y x)||!ltOf ja7 x y)=true:=by
 simp only[Bool.or_eq_true,Bool.not_eq_true',db2,decide_eq_false_iff_not];unfold LtP;omega
theorem Gd5(l:List Pln):(Ta9 l).Pairwise λx y=>(!ltOf ja7 y x)=true:=List.pairwise_mergeSort ve7 ve8 l
instance:DecidableEq Pln:=λx y=>decidable_of_iff _ (Cb4 x y)
def PC:List Pt:=[⟨0,0,0,1⟩,⟨0,0,1,4⟩,⟨0,1,0,3⟩,⟨1,0,0,2⟩]
theorem fe7:ful []=true:=by kernel_rfl
end Go.Ev.Ce
namespace Go.Ev.Ce
open Go Go.Ev Go.Ev.L Go.Proofs
set_option maxRecDepth 100000
noncomputable def fd4:List (Nat×Sum):=[(182,Gb1)]
theorem Vd0:i9 prog G fd4:=⟨cc2,trivial⟩
structure jb9 where
 d7:List Pln
 (j8 d8 j9 k8:Int)
structure qa9 where
 is5:Int
noncomputable def Ac9(p:jb9)(s:qa9):St:=⟨eL tP p.d7::.unk::.unk::.ptr 0 0 0 0::.unk::i s.is5::ra 43 [],[⟨0,4,[[i p.j8,i p.d8,i p.j9,i p.k8]],true,false,0⟩]⟩
noncomputable def Pa5{α:Type}(k:qa9->α)(e:Nat->α)(z:α)(p:jb9)(s:qa9):α:=let t1:=(ca6 (gL tP p.d7 s.is5.toNat) (⟨(⟨p.j8,p.d8,p.j9⟩:V3),p.k8⟩:Pln));(sl (decide (s.is5<(↑(List.length p.d7):Int))) (sl (inB s.is5 (List.length p.d7)) (sl (fb1 (gL tP p.d7 s.is5.toNat) (⟨(⟨p.j8,p.d8,p.j9⟩:V3),p.k8⟩:Pln)) (sl (decide (t1<0)) (k ⟨W (s.is5+1)⟩) (e 1)) z) z) (e 2))
noncomputable def Ka3(p:jb9)(s:qa9):Stp qa9:=Pa5 .next .exit .fail p s
noncomputable def dc3:Lo jb9 qa9:=⟨En fd4,0,ff1,[1,1,0,4,4],[0,3,5],.p,[⟨sLq tP::sUq::sUq::sPq 0::sUq::sIq::ru2 43 [],[⟨0,4,true,some [kLq 4]⟩],λa H=>(⟨aLq tP a 0,hIq H 0 0 0,hIq H 0 0 1,hIq H 0 0 2,hIq H 0 0 3⟩,⟨aIq a 5⟩)⟩],Ka3,[(some 0,λp s=>let t1:=(ca6 (gL tP p.d7 s.is5.toNat) (⟨(⟨p.j8,p.d8,p.j9⟩:V3),p.k8⟩:Pln));⟨eL tP p.d7::.unk::.unk::.ptr 0 0 0 0::.unk::i s.is5::.unk::i s.is5::eL tP p.d7::i (↑(List.length p.d7):Int)::b (decide (s.is5<(↑(List.length p.d7):Int)))::b true::eL tP p.d7::i s.is5::.tptr [i (gL tP p.d7 s.is5.toNat).n.x,i (gL tP p.d7 s.is5.toNat).n.y,i (gL tP p.d7 s.is5.toNat).n.z,i (gL tP p.d7 s.is5.toNat).b]::.agg [i (gL tP p.d7 s.is5.toNat).n.x,i (gL tP p.d7 s.is5.toNat).n.y,i (gL tP p.d7 s.is5.toNat).n.z,i (gL tP p.d7 s.is5.toNat).b]::.agg [i p.j8,i p.d8,i p.j9,i p.k8]::i t1::b (decide (t1<0))::b (decide (t1<0))::ra 29 [],[⟨0,4,[[i p.j8,i p.d8,i p.j9,i p.k8]],true,false,0⟩]⟩),(some 0,λp s=>upq (Ac9 p s) [(7,i s.is5),(8,eL tP p.d7),(9,i (↑(List.length p.d7):Int)),(10,b (decide (s.is5<(↑(List.length p.d7):Int)))),(11,b false),(12,u),(13,u),(14,u),(15,u),(16,u),(17,u),(18,u),(19,b false)])],Ac9⟩
theorem Gd6:dc3.Ok:=Lo.ok [] (by kernel_rfl) .nil rfl (.cons (λa H=>by kernel_rfl) .nil) λp s=>(.of @Pa5 (λF _ _ _ _ _=>by unfold Pa5;(repeat' apply m8 (f:=F))<;>rfl) (by kernel_rfl))
noncomputable def Kb6(x:List Pln)(y:Pln):Option (b7×List b9):=let t1:=(lp (Ka3 (⟨rt tP x,y.n.x,y.n.y,y.n.z,y.b⟩:jb9)) (⟨0⟩:qa9));let a0:=(o8 (λk=>(λk=>(tP).row (gL tP (rt tP x) k)) (0+k)) (List.range (t1.2.is5.toNat-0)));let a1:=(o8 (λk=>(λk=>(tP).row (gL tP (rt tP x) k)) (t1.2.is5.toNat+k)) (List.range ((List.length (rt tP x))-t1.2.is5.toNat)));let a2:=(inB t1.2.is5 ((List.length (rt tP x))+1));let a3:=(Nat.beq (0+(len a0)) (len (app [] a0))&&Nat.ble (((0+(len a0))+1)*32) room);let a4:=(((0+(len a0))+1)+(len a1));let a5:=(gL tP (rt tP x) t1.2.is5.toNat);let a6:=(Nat.beq 0 0&&Nat.ble ((0+(len a0))*32) room);let w0:Option (b7×List b9):=(sl a2 (sl a6 (sl a3 (sl a2 (sl (Nat.beq ((0+(len a0))+1) (len (app (app [] a0) [[i y.n.x,i y.n.y,i y.n.z,i y.b]]))&&Nat.ble (a4*32) room) (some (.sl 0 0 a4 0,[⟨73,4,app (app (app [] a0) [[i y.n.x,i y.n.y,i y.n.z,i y.b]]) a1,true,false,0⟩])) none) none) none) none) none);let w1:Option (b7×List b9):=(sl (decide (t1.2.is5<(↑(List.length (rt tP x)):Int))) (sl (inB t1.2.is5 (List.length (rt tP x))) (sl ((a5.n.x==y.n.x)&&((a5.n.y==y.n.y)&&((a5.n.z==y.n.z)&&((a5.b==y.b)&&true)))) (some (eL tP (rt tP x),[])) w0) none) w0);(sl ((cnE tP x)&&true) (sl (Nat.beq t1.1 1) w1 (sl (Nat.beq t1.1 2) w1 none)) none)
noncomputable def rb9(x:List Pln)(y:Pln):List Pln:=N9 (one (r1L tP)) (Kb6 x y)
noncomputable def sb0(x:List Pln)(y:Pln):Bool:=okO (one (r1L tP)) (Kb6 x y)
noncomputable def vd6:Sum:=ta8 (R5 tP) (fa0 tP) (λx y=>.guard (sb0 x y) (.ret ((one (r1L tP)).enc (rb9 x y),[])))
theorem fe8:g7 prog G 159 vd6:=Eb2 (bd If7 Vd0) (one (r1L tP)) (o:=Kb6) λx y=>xa3 (.s .p (.s .p (.s (.b (.u dc3.ls)) .p))) [dc3.pr] (by kernel_rfl) (.cons Gd6 .nil) (by kernel_rfl)
end Go.Ev.Ce
namespace Go.Ev.L
open Go Go.Ev
noncomputable def of6:Cod Unit where
 enc _:=.v (.slice none 0 0)
 dec x:=match x with
  |.v (.slice none 0 0)=>some ()
  |_=>none
 grd _:=true
 ok x a hx _:=by
  split at hx
  ·exact .refl _
  ·cases hx
noncomputable def cE0:Cod (Addr×Nat) where
 enc z:=.v (.slice (some z.1) 0 z.2)
 dec x:=match x with
  |.v (.slice (some a) 0 c)=>some (a,c)
  |_=>none
 grd _:=true
 ok x a hx _:=by
  split at hx
  ·cases hx;exact .refl _
  ·cases hx
section
variable{α:Type}{t:Ty α}{P:Program}{G:Nat->List Value}{f:FuncId}
theorem Gd7{β:Type}{c:Cod β}{k k':β->DT (b7×List b9)}(h:g7 P G f (V1 c k))(hk:∀a r,(k' a).run=some r->(k a).run=some r):g7 P G f (V1 c k'):=h.le λargs blks r hr=>by
 unfold V1 at hr ⊢
 split at hr
 ·obtain⟨a,h1,hr⟩:=G3 hr;obtain⟨g,hr⟩:=DT.run_guard_some hr;simp only[h1,onO,g];exact hk a r hr
 ·cases hr
theorem of7{k:List α->DT (b7×List b9)}(hA:g7 P G f (V1 (Be8 t) λz=>k (z.1::z.2)))(hN:g7 P G f (V1 of6 λ_=>k []))(hE:g7 P G f (V1 cE0 λ_=>k [])):g7 P G f (V1 (R5 t) k):=by
 intro args blks r out he W ρ F w args' hH hlen hargs hG;unfold V1 at he
 split at he
 ·rename_i x;obtain⟨a,h1,he⟩:=G3 he;obtain⟨g1,hk⟩:=DT.run_guard_some he;have nilCase:∀v',args'[0]?=some v'->v'=.slice none 0 0->a=[]->sb8 P f/\Calls P f args'.toArray w λe w'=>∃r',e=.returned r'/\P4 W ρ [] F w r out r' w':=λv' hv e ha=>by
   subst ha;refine hN [.v (.slice none 0 0)] [] r out ?_ W ρ F w args' hH hlen (λi x' y' hx hy=>?_) hG
   ·exact hk
   ·match i with
    |0=>cases hx;rw[hv] at hy;cases hy;rw[e];exact .val (.cell (.v _))
    |i+1=>cases hx
  have emptyCase:∀v' ad c,args'[0]?=some v'->v'=.slice (some ad) 0 c->a=[]->sb8 P f/\Calls P f args'.toArray w λe w'=>∃r',e=.returned r'/\P4 W ρ [] F w r out r' w':=λv' ad c hv e ha=>by
   subst ha;refine hE [.v (.slice (some ad) 0 c)] [] r out ?_ W ρ F w args' hH hlen (λi x' y' hx hy=>?_) hG
   ·exact hk
   ·match i with
    |0=>cases hx;rw[hv] at hy;cases hy;rw[e];exact .val (.cell (.v _))
    |i+1=>cases hx
  obtain⟨v',hv⟩:∃v',args'[0]?=some v':=by
   cases args' with
   |nil=>simp at hlen
   |cons v' r'=>exact⟨v',rfl⟩
  cases x with
  |tree e n get =>
   have hb:Nat.beq e t.es=true/\a=lsL t n get:=by
    have h1:(Bool.rec none (some (lsL t n get)) (Nat.beq e t.es):Option (List α))=some a:=h1;cases hb:Nat.beq e t.es with
    |false=>rw[hb] at h1;cases h1
    |true =>
     rw[hb] at h1;have h1:some (lsL t n get)=some a:=h1;injection h1 with h1;exact⟨rfl,h1.symm⟩
   cases n with
   |zero =>
    have ha:a=[]:=hb.2;have hm:=ya9 (hargs 0 _ v' rfl hv);cases hm with
    |tree _ _ _ ad cap cs hs hcap hes hF hw hr=>exact emptyCase _ ad cap hv rfl ha
    |nil=>exact nilCase _ hv rfl ha
   |succ m =>
    have ha:a=hC t get::tC t m get:=hb.2.trans (Md5 t m get);subst ha;refine hA [.tree e (m+1) get] [] r out ?_ W ρ F w args' hH hlen hargs hG;have hc:(Be8 t).dec (.tree e (m+1) get)=some (hC t get,tC t m get):=by
     show (Bool.rec none (some (hC t get,tC t m get)) (Nat.beq e t.es):Option (α×List α))=_;rw[hb.1]
    have hg:(Be8 t).grd (.tree e (m+1) get)=true:=g1;simp only[V1,hc,onO,hg];exact hk
  |v q =>
   have hq:=ga9 (hargs 0 _ v' rfl hv);unfold R5 at h1
   simp only at h1
   split at h1
   ·rename_i heq;cases heq
   ·rename_i heq;injection heq with heq;injection h1 with h1;exact nilCase v' hv (hq.trans heq) h1.symm
   ·rename_i ad c heq;injection heq with heq;injection h1 with h1;exact emptyCase v' _ _ hv (hq.trans heq) h1.symm
   ·cases h1
  |_=>cases h1
 ·cases he
end
end Go.Ev.L
namespace Go.Ev.Ce
open Go Go.Ev Go.Ev.L Go.Proofs
set_option maxRecDepth 100000
noncomputable def xb0:List (Nat×Sum):=[]
theorem jc9:i9 prog G xb0:=trivial
@[reducible] noncomputable def Cb5:Sum:=Hb5 (En xb0) gf2
theorem sc0:g7 prog G 208 Cb5:=bd Lf2 jc9
noncomputable def xb1:List (Nat×Sum):=[]
theorem kc0:i9 prog G xb1:=trivial
@[reducible] noncomputable def Cb6:Sum:=Hb5 (En xb1) gf1
theorem sc1:g7 prog G 207 Cb6:=bd Lf1 kc0
noncomputable def Kb7:List (Nat×Sum):=[(208,Cb5),(207,Cb6)]
theorem Bc0:i9 prog G Kb7:=⟨sc0,sc1,trivial⟩
@[reducible] noncomputable def Tb5:Sum:=Hb5 (En Kb7) ff5
theorem Hc8:g7 prog G 180 Tb5:=bd Kf0 Bc0
structure E9 where
noncomputable def fa2:List (Nat×Sum):=[]
theorem Ia2:i9 prog G fa2:=trivial
structure w9 where
structure n9 where
noncomputable def ca0(p:w9)(s:n9):St:=⟨.v (.slice none 0 0)::i 0::i 0::.fn 122 []::ra 4 (i 1::ra 44 []),[]⟩
noncomputable def L3{α:Type}(k:n9->α)(e:Nat->α)(z:α)(p:w9)(s:n9):α:=(e 1)
noncomputable def M8(p:w9)(s:n9):Stp n9:=L3 .next .exit .fail p s
noncomputable def N7:Lo w9 n9:=⟨En fa2,0,gf0,[1,4,4],[0,1,2,3,8],.p,[⟨.s (.o .nil)::.s (.o (.lit .i64 0))::.s (.o (.lit .i64 0))::.s (.o (.fn 122))::ru2 4 (.s (.o (.lit .i64 1))::ru2 44 []),[],λa H=>(⟨⟩,⟨⟩)⟩],M8,[(some 0,λp s=>upq (ca0 p s) [(12,i 1),(13,i 0),(14,b false)])],ca0⟩
theorem Ea5:N7.Ok:=Lo.ok [] (by kernel_rfl) .nil rfl (.cons (λa H=>by kernel_rfl) .nil) λp s=>(.of @L3 (λF _ _ _ _ _=>by unfold L3;(repeat' apply m8 (f:=F))<;>rfl) (by kernel_rfl))
structure F4 where
 alt:Nat
noncomputable def s7{α:Type}(kk:F4->α)(x:E9):α:=let t1:=(lp (M8 (⟨⟩:w9)) (⟨⟩:n9));(sl (Nat.beq t1.1 1) (kk ⟨1⟩) (kk ⟨0⟩))
noncomputable def F5(x:E9):F4:=s7 (λr=>r) x
noncomputable def O4(x:E9)(r:F4):DT (b7×List b9):=(.ite (Nat.beq r.alt 1) (.ret (.tup [],[])) .fail)
theorem Ma9{α β:Type}(F:α->β)(kk:F4->α)(x:E9):F (s7 kk x)=s7 (λr=>F (kk r)) x:=by unfold s7;(repeat' apply m8 (f:=F))<;>rfl
noncomputable def ha5:Sum:=Va6 ⟨[.s (.o .nil),.s (.o (.lit .i64 0)),.s (.o (.lit .i64 0)),.s (.o (.fn 122))],[],λa H=>(⟨⟩,())⟩ (λx=>O4 x (F5 x))
theorem Ka4:g7 prog G 199 ha5:=M9 (enc:=λx=>⟨[.v (.slice none 0 0),i 0,i 0,.fn 122 []],[]⟩) (λa H=>by kernel_rfl) (bd Lf0 Ia2) λx=>xa3 (.s .p (.b (.u N7.ls))) [N7.pr] (by kernel_rfl) (.cons Ea5 .nil) (Qjk (b:=s7 (λr=>(O4 x r).run) x) (by kernel_rfl) (Ma9 (λr=>(O4 x r).run) (λr=>r) x).symm)
structure O5 where
noncomputable def sa9:List (Nat×Sum):=[(199,ha5)]
theorem Ya5:i9 prog G sa9:=⟨Ka4,trivial⟩
structure E1 where
structure r9 where
noncomputable def Ua3(p:E1)(s:r9):St:=⟨.v (.slice none 0 0)::i 0::i 0::i 0::.fn 122 []::ra 5 (b true::b true::ra 136 []),[]⟩
noncomputable def I7{α:Type}(k:r9->α)(e:Nat->α)(z:α)(p:E1)(s:r9):α:=let t1:=(F5 ⟨⟩);(sl (Nat.beq t1.alt 1) (e 1) z)
noncomputable def K4(p:E1)(s:r9):Stp r9:=I7 .next .exit .fail p s
noncomputable def X3:Lo E1 r9:=⟨En sa9,0,ff4,[1,1,4,4],[0,1,2,3,4,10,11],.p,[⟨.s (.o .nil)::.s (.o (.lit .i64 0))::.s (.o (.lit .i64 0))::.s (.o (.lit .i64 0))::.s (.o (.fn 122))::ru2 5 (.s (.o (.blit true))::.s (.o (.blit true))::ru2 136 []),[],λa H=>(⟨⟩,⟨⟩)⟩],K4,[(none,λp s=>⟨[.tup []],[]⟩)],Ua3⟩
theorem Ua4:X3.Ok:=Lo.ok [] (by kernel_rfl) .nil rfl (.cons (λa H=>by kernel_rfl) .nil) λp s=>(.of @I7 (λF _ _ _ _ _=>by unfold I7;(repeat' apply m8 (f:=F))<;>rfl) (by kernel_rfl))
structure O6 where
 alt:Nat
noncomputable def B0{α:Type}(kk:O6->α)(x:O5):α:=let t1:=(lp (K4 (⟨⟩:E1)) (⟨⟩:r9));(sl (Nat.beq t1.1 1) (kk ⟨1⟩) (kk ⟨0⟩))
noncomputable def O7(x:O5):O6:=B0 (λr=>r) x
noncomputable def Y8(x:O5)(r:O6):DT (b7×List b9):=(.ite (Nat.beq r.alt 1) (.ret (.tup [],[])) .fail)
theorem db3{α β:Type}(F:α->β)(kk:O6->α)(x:O5):F (B0 kk x)=B0 (λr=>F (kk r)) x:=by unfold B0;(repeat' apply m8 (f:=F))<;>rfl
noncomputable def va7:Sum:=Va6 ⟨[.s (.o .nil),.s (.o (.lit .i64 0)),.s (.o (.lit .i64 0)),.s (.o (.lit .i64 0)),.s (.o (.fn 122))],[],λa H=>(⟨⟩,())⟩ (λx=>Y8 x (O7 x))
theorem Za8:g7 prog G 179 va7:=M9 (enc:=λx=>⟨[.v (.slice none 0 0),i 0,i 0,i 0,.fn 122 []],[]⟩) (λa H=>by kernel_rfl) (bd Jf9 Ya5) λx=>xa3 (.s .p (.s .p (.b (.u X3.ls)))) [X3.pr] (by kernel_rfl) (.cons Ua4 .nil) (Qjk (b:=B0 (λr=>(Y8 x r).run) x) (by kernel_rfl) (db3 (λr=>(Y8 x r).run) (λr=>r) x).symm)
structure da1 where
noncomputable def Ab0:List (Nat×Sum):=[(179,va7),(180,Tb5)]
theorem xb2:i9 prog G Ab0:=⟨Za8,Hc8,trivial⟩
structure da2 where
 alt:Nat
noncomputable def K9{α:Type}(kk:da2->α)(x:da1):α:=let t1:=(O7 ⟨⟩);(sl (Nat.beq t1.alt 1) (kk ⟨1⟩) (kk ⟨0⟩))
noncomputable def da3(x:da1):da2:=K9 (λr=>r) x
noncomputable def oa6(x:da1)(r:da2):DT (b7×List b9):=(.ite (Nat.beq r.alt 1) (.ret (.tup [],[])) .fail)
theorem Hb1{α β:Type}(F:α->β)(kk:da2->α)(x:da1):F (K9 kk x)=K9 (λr=>F (kk r)) x:=by unfold K9;(repeat' apply m8 (f:=F))<;>rfl
noncomputable def Pa6:Sum:=Va6 ⟨[.s (.o .nil),.s (.o (.fn 122))],[],λa H=>(⟨⟩,())⟩ (λx=>oa6 x (da3 x))
theorem Ab1:g7 prog G 121 Pa6:=M9 (enc:=λx=>⟨[.v (.slice none 0 0),.fn 122 []],[]⟩) (λa H=>by kernel_rfl) (bd Gf7 xb2) λx=>y5 (Qjk (b:=K9 (λr=>(oa6 x r).run) x) (by kernel_rfl) (Hb1 (λr=>(oa6 x r).run) (λr=>r) x).symm)
structure aa3 where
 g8:List Pt
noncomputable def Ia3:List (Nat×Sum):=[]
theorem qb2:i9 prog G Ia3:=trivial
structure M5 where
 g8:List Pt
structure A4 where
noncomputable def Ba3(p:M5)(s:A4):St:=⟨.v (.slice none 0 0)::.fn 152 [.ptr 0 0 0 0]::ra 5 (i 0::i 0::ra 10 []),[⟨0,1,[[eL tX p.g8]],true,false,0⟩]⟩
noncomputable def ea6{α:Type}(k:A4->α)(e:Nat->α)(z:α)(p:M5)(s:A4):α:=(e 1)
noncomputable def ga5(p:M5)(s:A4):Stp A4:=ea6 .next .exit .fail p s
noncomputable def ja8:Lo M5 A4:=⟨En Ia3,1,Pd3,[1,0,1,4,4],[0,1,7,8],.p,[⟨.s (.o .nil)::.fn 152 [.o (.ptr 0 0 0 0)]::ru2 5 (.s (.o (.lit .i64 0))::.s (.o (.lit .i64 0))::ru2 10 []),[⟨0,1,true,some [[.c 4 (nL tX)]]⟩],λa H=>(⟨hLq tX H 0 0 0⟩,⟨⟩)⟩],ga5,[(some 0,λp s=>upq (Ba3 p s) [(9,b false)])],Ba3⟩
theorem nb1:ja8.Ok:=Lo.ok [] (by kernel_rfl) .nil rfl (.cons (λa H=>by kernel_rfl) .nil) λp s=>(.of @ea6 (λF _ _ _ _ _=>by unfold ea6;(repeat' apply m8 (f:=F))<;>rfl) (by kernel_rfl))
structure aa4 where
 alt:Nat
 g8:List Pt
noncomputable def I5{α:Type}(kk:aa4->α)(x:aa3):α:=let t1:=(lp (ga5 (⟨rt tX x.g8⟩:M5)) (⟨⟩:A4));(sl ((cnE tX x.g8)&&true) (sl (Nat.beq t1.1 1) (kk ⟨1,rt tX x.g8⟩) (kk ⟨0,[]⟩)) (kk ⟨0,[]⟩))
noncomputable def oa7(x:aa3):aa4:=I5 (λr=>r) x
noncomputable def ma6(x:aa3)(r:aa4):DT (b7×List b9):=(.ite (Nat.beq r.alt 1) (.ret (i (-1),[⟨0,1,[[eL tX r.g8]],true,false,0⟩])) .fail)
theorem Ab2{α β:Type}(F:α->β)(kk:aa4->α)(x:aa3):F (I5 kk x)=I5 (λr=>F (kk r)) x:=by unfold I5;(repeat' apply m8 (f:=F))<;>rfl
noncomputable def Ma4:Sum:=Va6 ⟨[.s (.o .nil),.fn 152 [.o (.ptr 0 0 0 0)]],[⟨0,1,true,some [[.c 4 (nL tX)]]⟩],λa H=>(⟨hLq tX H 0 0 0⟩,())⟩ (λx=>ma6 x (oa7 x))
theorem xb3:g7 prog G 139 Ma4:=M9 (enc:=λx=>⟨[.v (.slice none 0 0),.fn 152 [.ptr 0 0 0 0]],[⟨0,1,[[eL tX x.g8]],true,false,0⟩]⟩) (λa H=>by kernel_rfl) (bd We3 qb2) λx=>xa3 (.s .p (.s (.s .p (.b (.u ja8.ls))) .p)) [ja8.pr] (by kernel_rfl) (.cons nb1 .nil) (Qjk (b:=I5 (λr=>(ma6 x r).run) x) (by kernel_rfl) (Ab2 (λr=>(ma6 x r).run) (λr=>r) x).symm)
structure X4 where
 g8:List Pt
noncomputable def qb3:List (Nat×Sum):=[(139,Ma4)]
theorem nb2:i9 prog G qb3:=⟨xb3,trivial⟩
structure X5 where
 alt:Nat
 g8:List Pt
noncomputable def F8{α:Type}(kk:X5->α)(x:X4):α:=let t1:=(oa7 ⟨rt tX x.g8⟩);(sl ((cnE tX x.g8)&&true) (sl (Nat.beq t1.alt 1) (kk ⟨1,t1.g8⟩) (kk ⟨0,[]⟩)) (kk ⟨0,[]⟩))
noncomputable def X6(x:X4):X5:=F8 (λr=>r) x
noncomputable def ja9(x:X4)(r:X5):DT (b7×List b9):=(.ite (Nat.beq r.alt 1) (.ret (.v (.slice none 0 0),[⟨0,1,[[eL tX r.g8]],true,false,0⟩])) .fail)
theorem xb4{α β:Type}(F:α->β)(kk:X5->α)(x:X4):F (F8 kk x)=F8 (λr=>F (kk r)) x:=by unfold F8;(repeat' apply m8 (f:=F))<;>rfl
noncomputable def Ia4:Sum:=Va6 ⟨[.s (.o .nil),.fn 152 [.o (.ptr 0 0 0 0)]],[⟨0,1,true,some [[.c 4 (nL tX)]]⟩],λa H=>(⟨hLq tX H 0 0 0⟩,())⟩ (λx=>ja9 x (X6 x))
theorem qb4:g7 prog G 150 Ia4:=M9 (enc:=λx=>⟨[.v (.slice none 0 0),.fn 152 [.ptr 0 0 0 0]],[⟨0,1,[[eL tX x.g8]],true,false,0⟩]⟩) (λa H=>by kernel_rfl) (bd zf0 nb2) λx=>xa3 .p [] (by kernel_rfl) .nil (Qjk (b:=F8 (λr=>(ja9 x r).run) x) (by kernel_rfl) (xb4 (λr=>(ja9 x r).run) (λr=>r) x).symm)
structure fa3 where
noncomputable def Hb2:List (Nat×Sum):=[]
theorem Ab3:i9 prog G Hb2:=trivial
structure fa4 where
noncomputable def T9{α:Type}(kk:fa4->α)(x:fa3):α:=(kk ⟨⟩)
noncomputable def Kb8(x:fa3):fa4:=T9 (λr=>r) x
noncomputable def sa8(x:fa3)(r:fa4):DT (b7×List b9):=.ret (.v (.slice none 0 0),[])
theorem Kb9{α β:Type}(F:α->β)(kk:fa4->α)(x:fa3):F (T9 kk x)=T9 (λr=>F (kk r)) x:=by unfold T9;(repeat' apply m8 (f:=F))<;>rfl
noncomputable def Ua0:Sum:=Va6 ⟨[.s (.o .nil)],[],λa H=>(⟨⟩,())⟩ (λx=>sa8 x (Kb8 x))
theorem Hb3:g7 prog G 154 Ua0:=M9 (enc:=λx=>⟨[.v (.slice none 0 0)],[]⟩) (λa H=>by kernel_rfl) (bd zf1 Ab3) λx=>xa3 .p [] (by kernel_rfl) .nil (Qjk (b:=T9 (λr=>(sa8 x r).run) x) (by kernel_rfl) (Kb9 (λr=>(sa8 x r).run) (λr=>r) x).symm)
noncomputable def Qb4:List (Nat×Sum):=[]
theorem Lb0:i9 prog G Qb4:=trivial
structure na7 where
noncomputable def ba2{α:Type}(kk:na7->α)(x:Unit):α:=(kk ⟨⟩)
noncomputable def Vb0(x:Unit):na7:=ba2 (λr=>r) x
noncomputable def ya5(r:na7):DT (b7×List b9):=.ret (.v (.slice none 0 0),[])
theorem Vb1{α β:Type}(F:α->β)(kk:na7->α)(x:Unit):F (ba2 kk x)=ba2 (λr=>F (kk r)) x:=by unfold ba2;(repeat' apply m8 (f:=F))<;>rfl
noncomputable def ab2:Sum:=V1 of6 (λx=>ya5 (Vb0 x))
theorem Qb5:g7 prog G 151 ab2:=Bb1 (bd mf0 Lb0) λx=>y5 (Qjk (b:=ba2 (λr=>(ya5 r).run) x) (by kernel_rfl) (Vb1 (λr=>(ya5 r).run) (λr=>r) x).symm)
noncomputable def od6:List (Nat×Sum):=[(55,Ha1),(113,eb8),(151,ab2),(150,Ia4),(121,Pa6),(154,Ua0)]
theorem fd5:i9 prog G od6:=⟨Ka0,vb9,Qb5,qb4,Ab1,Hb3,trivial⟩
noncomputable def Ya6(x:Unit):Option (b7×List b9):=let t1:=(ka4 []);let t2:=(Ca6 []);let t4:=(X6 ⟨rt tX t2⟩);let t5:=(da3 ⟨⟩);(sl (ka5 []) (sl (!t1) (some (.v (.slice none 0 0),[])) (sl (Ca7 []) (sl ((cnE tX t2)&&true) (sl (Nat.beq t4.alt 1) (sl (Nat.beq t5.alt 1) (some (.v (.slice none 0 0),[])) none) none) none) none)) none)
noncomputable def Qb6(x:Unit):List Pln:=N9 (one (r1L tP)) (Ya6 x)
noncomputable def Qb7(x:Unit):Bool:=okO (one (r1L tP)) (Ya6 x)
noncomputable def Gd8:Sum:=V1 of6 (λx=>.guard (Qb7 x) (.ret ((one (r1L tP)).enc (Qb6 x),[])))
theorem od7:g7 prog G 98 Gd8:=Fa2 (bd b98 fd5) (one (r1L tP)) (o:=Ya6) λx=>y5 (by kernel_rfl)
noncomputable def Qb8:List (Nat×Sum):=[]
theorem Lb1:i9 prog G Qb8:=trivial
structure na8 where
noncomputable def ba3{α:Type}(kk:na8->α)(x:Addr×Nat):α:=(kk ⟨⟩)
noncomputable def Vb2(x:Addr×Nat):na8:=ba3 (λr=>r) x
noncomputable def ya6(r:na8):DT (b7×List b9):=.ret (.sl 0 0 0 0,[⟨73,4,[],true,false,0⟩])
theorem Vb3{α β:Type}(F:α->β)(kk:na8->α)(x:Addr×Nat):F (ba3 kk x)=ba3 (λr=>F (kk r)) x:=by unfold ba3;(repeat' apply m8 (f:=F))<;>rfl
noncomputable def ab3:Sum:=V1 cE0 (λx=>ya6 (Vb2 x))
theorem Qb9:g7 prog G 151 ab3:=Bb1 (bd mf0 Lb1) λx=>y5 (Qjk (b:=ba3 (λr=>(ya6 r).run) x) (by kernel_rfl) (Vb3 (λr=>(ya6 r).run) (λr=>r) x).symm)
noncomputable def od8:List (Nat×Sum):=[(55,Ha1),(113,eb8),(151,ab3),(150,oa5),(121,va6),(154,ya2)]
theorem fd6:i9 prog G od8:=⟨Ka0,vb9,Qb9,Ia1,Pa4,Ta8,trivial⟩
noncomputable def Ya7(x:Addr×Nat):Option (b7×List b9):=let t1:=(ka4 []);let t2:=(Ca6 []);let t4:=(I4 ⟨0,[],rt tX t2⟩);let t5:=(X2 ⟨t4.ns0,app (bL tP (Ta9 (slR tP t4.eh0 0 t4.ns0))) (f9 t4.eh0 t4.ns0)⟩);(sl (ka5 []) (sl (!t1) (some (.v (.slice none 0 0),[])) (sl (Ca7 []) (sl ((cnE tX t2)&&true) (sl (Nat.beq t4.alt 1) (sl (Bool.and (Nat.ble t4.ns0 room) (Bool.and (Nat.ble t4.ns0 (len t4.eh0)) (okS tP t4.eh0 0 t4.ns0))) (sl (Nat.beq t5.alt 1) (some (.sl 0 0 t5.ns0 0,[⟨73,4,t5.eh0,true,false,0⟩])) none) none) none) none) none)) none)
noncomputable def Bc1(x:Addr×Nat):List Pln:=N9 (one (r1L tP)) (Ya7 x)
noncomputable def Bc2(x:Addr×Nat):Bool:=okO (one (r1L tP)) (Ya7 x)
noncomputable def Gd9:Sum:=V1 cE0 (λx=>.guard (Bc2 x) (.ret ((one (r1L tP)).enc (Bc1 x),[])))
theorem od9:g7 prog G 98 Gd9:=Fa2 (bd b98 fd6) (one (r1L tP)) (o:=Ya7) λx=>y5 (by kernel_rfl)
structure Ke4 where
 is1:Int
structure Ke5 where
 ph:Nat
 is7:Int
 l8:List Int
 d8:Int
 ns6:Nat
 eh1:List (List b7)
noncomputable def dc4:List (Nat×Sum):=[(70,qc2),(157,yc1),(158,Nb7),(159,vd6)]
theorem Hd0:i9 prog G dc4:=⟨Lc5,ld7,Zb4,fe8,trivial⟩
structure ka0 where
 d7:List Pln
 T1:List Pt
 is5:Int
 Y7:List Pln
structure O8 where
 ph:Nat
 (is6 is7:Int)
noncomputable def dc5(p:ka0)(s:O8):St:=⟨eL tP p.d7::.unk::.unk::eL tX p.T1::.v (.slice none 0 0)::i p.is5::i s.is6::i s.is7::ra 38 [],[]⟩
noncomputable def dc6(p:ka0)(s:O8):St:=⟨eL tP p.d7::.unk::.unk::eL tX p.T1::eL tP p.Y7::i p.is5::i s.is6::i s.is7::ra 38 [],[]⟩
noncomputable def pd0(p:ka0)(s:O8):St:=(sel (Nat.beq s.ph 1) (dc6 p s) (dc5 p s))
noncomputable def ma7{α:Type}(k:O8->α)(e:Nat->α)(z:α)(p:ka0)(s:O8):α:=let t1:=(Sa1 (gL tP p.d7 p.is5.toNat) (gL tX p.T1 s.is7.toNat));(sl (decide (s.is7<(↑(List.length p.T1):Int))) (sl (inB p.is5 (List.length p.d7)) (sl (inB s.is7 (List.length p.T1)) (sl (t1==0) (k ⟨0,W (s.is6+1),W (s.is7+1)⟩) (k ⟨0,s.is6,W (s.is7+1)⟩)) z) z) (e 1))
noncomputable def ma8{α:Type}(k:O8->α)(e:Nat->α)(z:α)(p:ka0)(s:O8):α:=let t1:=(Sa1 (gL tP p.d7 p.is5.toNat) (gL tX p.T1 s.is7.toNat));(sl (decide (s.is7<(↑(List.length p.T1):Int))) (sl (inB p.is5 (List.length p.d7)) (sl (inB s.is7 (List.length p.T1)) (sl (t1==0) (k ⟨1,W (s.is6+1),W (s.is7+1)⟩) (k ⟨1,s.is6,W (s.is7+1)⟩)) z) z) (e 2))
noncomputable def Pa7(p:ka0)(s:O8):Stp O8:=(sel (Nat.beq s.ph 1) (ma8 .next .exit .fail p s) (ma7 .next .exit .fail p s))
noncomputable def Rb0:Lo ka0 O8:=⟨En dc4,0,Fe9,[1,1,1,1,0,1,4,4,1,0,4,1,0,1,4,4],[0,3,4,5,6,7],.p,[⟨sLq tP::sUq::sUq::sLq tX::.s (.o .nil)::sIq::sIq::sIq::ru2 38 [],[],λa H=>(⟨aLq tP a 0,aLq tX a 3,aIq a 5,[]⟩,⟨0,aIq a 6,aIq a 7⟩)⟩,⟨sLq tP::sUq::sUq::sLq tX::sLq tP::sIq::sIq::sIq::ru2 38 [],[],λa H=>(⟨aLq tP a 0,aLq tX a 3,aIq a 5,aLq tP a 4⟩,⟨1,aIq a 6,aIq a 7⟩)⟩],Pa7,[(some 2,λp s=>upq (dc5 p s) [(19,i s.is7),(20,eL tX p.T1),(21,i (↑(List.length p.T1):Int)),(22,b (decide (s.is7<(↑(List.length p.T1):Int))))]),(some 2,λp s=>upq (dc6 p s) [(19,i s.is7),(20,eL tX p.T1),(21,i (↑(List.length p.T1):Int)),(22,b (decide (s.is7<(↑(List.length p.T1):Int))))])],pd0⟩
theorem pd1:Rb0.Ok:=Lo.ok [] (by kernel_rfl) .nil rfl (.cons (λa H=>by kernel_rfl) (.cons (λa H=>by kernel_rfl) .nil)) λp s=>(.sel (Nat.beq s.ph 1) (.of @ma8 (λF _ _ _ _ _=>by unfold ma8;(repeat' apply m8 (f:=F))<;>rfl) (by kernel_rfl)) (.of @ma7 (λF _ _ _ _ _=>by unfold ma7;(repeat' apply m8 (f:=F))<;>rfl) (by kernel_rfl)))
structure ra0 where
structure I8 where
 ph:Nat
 d7:List Pln
 T1:List Pt
 is5:Int
 Y7:List Pln
noncomputable def dc7(p:ra0)(s:I8):St:=⟨eL tP s.d7::.unk::.unk::eL tX s.T1::.v (.slice none 0 0)::i s.is5::ra 40 [],[]⟩
noncomputable def dc8(p:ra0)(s:I8):St:=⟨eL tP s.d7::.unk::.unk::eL tX s.T1::eL tP s.Y7::i s.is5::ra 40 [],[]⟩
noncomputable def pd2(p:ra0)(s:I8):St:=(sel (Nat.beq s.ph 1) (dc8 p s) (dc7 p s))
noncomputable def ma9{α:Type}(k:I8->α)(e:Nat->α)(z:α)(p:ra0)(s:I8):α:=let t1:=(lp (Pa7 (⟨rt tP s.d7,rt tX s.T1,s.is5,[]⟩:ka0)) (⟨0,0,0⟩:O8));let t2:=(rb9 [] (gL tP (rt tP s.d7) s.is5.toNat));let t3:=(rb9 (rt tP []) (gL tP (rt tP s.d7) s.is5.toNat));(sl (decide (s.is5<(↑(List.length s.d7):Int))) (sl ((cnE tP s.d7)&&((cnE tX s.T1)&&true)) (sl (Nat.beq t1.1 1) (sl (decide (t1.2.is6>=3)) (sl (inB s.is5 (List.length (rt tP s.d7))) (sl (sb0 [] (gL tP (rt tP s.d7) s.is5.toNat)) (k ⟨1,rt tP s.d7,rt tX s.T1,W (s.is5+1),t2⟩) z) z) (k ⟨0,rt tP s.d7,rt tX s.T1,W (s.is5+1),[]⟩)) (sl (Nat.beq t1.1 2) (sl (decide (t1.2.is6>=3)) (sl (inB s.is5 (List.length (rt tP s.d7))) (sl (okE tP []) (sl (sb0 (rt tP []) (gL tP (rt tP s.d7) s.is5.toNat)) (k ⟨1,rt tP s.d7,rt tX s.T1,W (s.is5+1),t3⟩) z) z) z) (k ⟨1,rt tP s.d7,rt tX s.T1,W (s.is5+1),[]⟩)) z)) z) (e 1))
noncomputable def na0{α:Type}(k:I8->α)(e:Nat->α)(z:α)(p:ra0)(s:I8):α:=let t1:=(lp (Pa7 (⟨rt tP s.d7,rt tX s.T1,s.is5,rt tP s.Y7⟩:ka0)) (⟨1,0,0⟩:O8));let t2:=(rb9 [] (gL tP (rt tP s.d7) s.is5.toNat));let t3:=(rb9 (rt tP (rt tP s.Y7)) (gL tP (rt tP s.d7) s.is5.toNat));(sl (decide (s.is5<(↑(List.length s.d7):Int))) (sl ((cnE tP s.d7)&&((cnE tX s.T1)&&((cnE tP s.Y7)&&true))) (sl (Nat.beq t1.1 1) (sl (decide (t1.2.is6>=3)) (sl (inB s.is5 (List.length (rt tP s.d7))) (sl (sb0 [] (gL tP (rt tP s.d7) s.is5.toNat)) (k ⟨1,rt tP s.d7,rt tX s.T1,W (s.is5+1),t2⟩) z) z) (k ⟨0,rt tP s.d7,rt tX s.T1,W (s.is5+1),[]⟩)) (sl (Nat.beq t1.1 2) (sl (decide (t1.2.is6>=3)) (sl (inB s.is5 (List.length (rt tP s.d7))) (sl (okE tP (rt tP s.Y7)) (sl (sb0 (rt tP (rt tP s.Y7)) (gL tP (rt tP s.d7) s.is5.toNat)) (k ⟨1,rt tP s.d7,rt tX s.T1,W (s.is5+1),t3⟩) z) z) z) (k ⟨1,rt tP s.d7,rt tX s.T1,W (s.is5+1),rt tP s.Y7⟩)) z)) z) (e 2))
noncomputable def fb3(p:ra0)(s:I8):Stp I8:=(sel (Nat.beq s.ph 1) (na0 .next .exit .fail p s) (ma9 .next .exit .fail p s))
noncomputable def Rb1:Lo ra0 I8:=⟨En dc4,0,Fe9,[1,1,1,1,0,1,4,4],[0,3,4,5],.s .p (.s (.b (.s .p (.s (.s .p (.b (.u Rb0.ls))) .p))) .p),[⟨sLq tP::sUq::sUq::sLq tX::.s (.o .nil)::sIq::ru2 40 [],[],λa H=>(⟨⟩,⟨0,aLq tP a 0,aLq tX a 3,aIq a 5,[]⟩)⟩,⟨sLq tP::sUq::sUq::sLq tX::sLq tP::sIq::ru2 40 [],[],λa H=>(⟨⟩,⟨1,aLq tP a 0,aLq tX a 3,aIq a 5,aLq tP a 4⟩)⟩],fb3,[(some 0,λp s=>upq (dc7 p s) [(13,i s.is5),(14,eL tP s.d7),(15,i (↑(List.length s.d7):Int)),(16,b (decide (s.is5<(↑(List.length s.d7):Int))))]),(some 0,λp s=>upq (dc8 p s) [(13,i s.is5),(14,eL tP s.d7),(15,i (↑(List.length s.d7):Int)),(16,b (decide (s.is5<(↑(List.length s.d7):Int))))])],pd2⟩
theorem pd3:Rb1.Ok:=Lo.ok [Rb0.pr] (by kernel_rfl) (.cons pd1 .nil) rfl (.cons (λa H=>by kernel_rfl) (.cons (λa H=>by kernel_rfl) .nil)) λp s=>(.sel (Nat.beq s.ph 1) (.of @na0 (λF _ _ _ _ _=>by unfold na0;(repeat' apply m8 (f:=F))<;>rfl) (by kernel_rfl)) (.of @ma9 (λF _ _ _ _ _=>by unfold ma9;(repeat' apply m8 (f:=F))<;>rfl) (by kernel_rfl)))
noncomputable def xb5(x:List Pln):Option (b7×List b9):=let t1:=(bb4 (rt tP x));let t2:=(ob6 (rt tP x));let t3:=(lp (fb3 (⟨⟩:ra0)) (⟨0,rt tP x,rt tX t2,0,[]⟩:I8));(sl (okE tP x) (sl (bb5 (rt tP x)) (sl (!t1) (some (.v (.slice none 0 0),[])) (sl (okE tP x) (sl (ob7 (rt tP x)) (sl ((cnE tP x)&&((cnE tX t2)&&true)) (sl (Nat.beq t3.1 1) (some (.v (.slice none 0 0),[])) (sl (Nat.beq t3.1 2) (some (eL tP t3.2.Y7,[])) none)) none) none) none)) none) none)
noncomputable def sc2(x:List Pln):List Pln:=N9 (one (r1L tP)) (xb5 x)
noncomputable def sc3(x:List Pln):Bool:=okO (one (r1L tP)) (xb5 x)
noncomputable def fd7:Sum:=V1 (R5 tP) (λx=>.guard (sc3 x) (.ret ((one (r1L tP)).enc (sc2 x),[])))
theorem Vd1:g7 prog G 101 fd7:=Fa2 (bd Ff6 Hd0) (one (r1L tP)) (o:=xb5) λx=>xa3 (.s .p (.s .p (.s .p (.s .p (.s (.s .p (.b (.u Rb1.ls))) .p))))) [Rb1.pr] (by kernel_rfl) (.cons pd3 .nil) (by kernel_rfl)
theorem Ze6(p q:Pln):sa1 p q=some (i (ja7 p q),[]):=by
 have key:∃t s,lp (K8 ⟨p.n.x,p.n.y,p.n.z,p.b,q.n.x,q.n.y,q.n.z,q.b⟩) ⟨0⟩=(t,s)/\((t=1/\ja7 p q=-1)\/(t=2/\ja7 p q=1)\/(t=3/\ja7 p q=0)):=by
  refine da0 (step:=K8 ⟨p.n.x,p.n.y,p.n.z,p.b,q.n.x,q.n.y,q.n.z,q.b⟩) (mk:=λj (_:Unit)=>(⟨(j:Int)⟩:S8)) 4
   (λj _=>(1<=j->p.n.x=q.n.x)/\(2<=j->p.n.y=q.n.y)/\(3<=j->p.n.z=q.n.z)/\(4<=j->p.b=q.b))
   (λt s=>(t=1/\ja7 p q=-1)\/(t=2/\ja7 p q=1)\/(t=3/\ja7 p q=0)) (by omega) (λj x hj hI=>?_) (λj x hj hI=>?_) 0 () ⟨by omega,by omega,by omega,by omega⟩
  ·have hn:=o4 hj (show 4<=4611686018427387904 by omega)
   simp only[K8,W9,Int.toNat_natCast,hn];have hlt:(j:Int)<4:=by omega
   have hin:=f7 hj;have g:∀x1 x2 x3 x4:Int,((Nat.ble ((0+(j*1))+1) 4)&&(na9 [CK.int .i64] (f9 [i x1,i x2,i x3,i x4] (0+(j*1)))))=true:=by
    intro x1 x2 x3 x4
    match j,hj with
    |0,_=>rfl
    |1,_=>rfl
    |2,_=>rfl
    |3,_=>rfl
   rw[btD hlt];simp only[hin,g,g9];obtain⟨i1,i2,i3,i4⟩:=hI
   match j,hj with
   |0,_ =>
    show Nx (sl (decide (p.n.x<q.n.x)) _ (sl (decide (p.n.x>q.n.x)) _ _)) _ _;refine Nx.sl (λh=>.ex ?_) λh=>Nx.sl (λh'=>.ex ?_) λh'=>.nx ⟨(),rfl,?_⟩<;>simp only[decide_eq_true_eq,decide_eq_false_iff_not] at h
    ·left;exact⟨rfl,by simp[ja7,wb9,h]⟩
    ·right;left;simp only[decide_eq_true_eq] at h';exact⟨rfl,by simp[ja7,wb9,h,h']⟩
    ·simp only[decide_eq_false_iff_not] at h';exact⟨by omega,by omega,by omega,by omega⟩
   |1,_ =>
    have j1:=i1 (by omega)
    show Nx (sl (decide (p.n.y<q.n.y)) _ (sl (decide (p.n.y>q.n.y)) _ _)) _ _;refine Nx.sl (λh=>.ex ?_) λh=>Nx.sl (λh'=>.ex ?_) λh'=>.nx ⟨(),rfl,?_⟩<;>simp only[decide_eq_true_eq,decide_eq_false_iff_not] at h
    ·left;exact⟨rfl,by simp[ja7,wb9,h,j1]⟩
    ·right;left;simp only[decide_eq_true_eq] at h';exact⟨rfl,by simp[ja7,wb9,h,h',j1]⟩
    ·simp only[decide_eq_false_iff_not] at h';exact⟨λ_=>j1,by omega,by omega,by omega⟩
   |2,_ =>
    have j1:=i1 (by omega);have j2:=i2 (by omega)
    show Nx (sl (decide (p.n.z<q.n.z)) _ (sl (decide (p.n.z>q.n.z)) _ _)) _ _;refine Nx.sl (λh=>.ex ?_) λh=>Nx.sl (λh'=>.ex ?_) λh'=>.nx ⟨(),rfl,?_⟩<;>simp only[decide_eq_true_eq,decide_eq_false_iff_not] at h
    ·left;exact⟨rfl,by simp[ja7,wb9,h,j1,j2]⟩
    ·right;left;simp only[decide_eq_true_eq] at h';exact⟨rfl,by simp[ja7,wb9,h,h',j1,j2]⟩
    ·simp only[decide_eq_false_iff_not] at h';exact⟨λ_=>j1,λ_=>j2,by omega,by omega⟩
   |3,_ =>
    have j1:=i1 (by omega);have j2:=i2 (by omega);have j3:=i3 (by omega)
    show Nx (sl (decide (p.b<q.b)) _ (sl (decide (p.b>q.b)) _ _)) _ _;refine Nx.sl (λh=>.ex ?_) λh=>Nx.sl (λh'=>.ex ?_) λh'=>.nx ⟨(),rfl,?_⟩<;>simp only[decide_eq_true_eq,decide_eq_false_iff_not] at h
    ·left;exact⟨rfl,by simp[ja7,wb9,h,j1,j2,j3]⟩
    ·right;left;simp only[decide_eq_true_eq] at h';exact⟨rfl,by simp[ja7,wb9,h,h',j1,j2,j3]⟩
    ·simp only[decide_eq_false_iff_not] at h';exact⟨λ_=>j1,λ_=>j2,λ_=>j3,by omega⟩
  ·simp only[K8,W9];rw[bfD (by omega)]
   obtain⟨i1,i2,i3,i4⟩:=hI;have j1:=i1 (by omega);have j2:=i2 (by omega);have j3:=i3 (by omega);have j4:=i4 (by omega)
   exact⟨_,rfl,.inr (.inr ⟨rfl,by simp[ja7,wb9,j1,j2,j3,j4]⟩)⟩
 obtain⟨t,s,h1,h2⟩:=key;unfold sa1
 simp only
 rw[h1]
 rcases h2 with⟨rfl,e⟩|⟨rfl,e⟩|⟨rfl,e⟩<;>rw[e]<;>rfl
theorem Ke6(p q:Pln):ca6 p q=ja7 p q:=by unfold ca6;rw[Ze6];rfl
def atP(x:List Pln)(y:Pln):Nat:=x.findIdx λp=>!decide (ja7 p y<0)
noncomputable def ins(x:List Pln)(y:Pln):List Pln:=if (atP x y<x.length/\eqP (gL tP x (atP x y)) y=true) then x else wb5 x y (atP x y)
theorem fd8(x:List Pln)(y:Pln)(hx:x.length<=1000000):Rd (one (r1L tP)) (Kb6 x y) (λr=>r=ins x y):=by
 have h:=Qa3 (step:=Ka3 ⟨x,y.n.x,y.n.y,y.n.z,y.b⟩) (mk:=λj=>(⟨(j:Int)⟩:qa9)) (c:=λp=>!decide (ja7 p y<0)) (u:=1) (fin:=2) tP x (by omega)
  (λj hj=>by
   simp only[Ka3,Pa5,Int.toNat_natCast,fe4,Ke6,o4 hj (show x.length<=4611686018427387904 by omega)]
   rw[btD (i6 hj),bt (f7 hj),g9];show sl (decide (ja7 (gL tP x j) y<0)) _ _=_;cases decide (ja7 (gL tP x j) y<0)<;>rfl)
  (by simp only[Ka3,Pa5];rw[bfD (r8 (Qjba _))]) 0 (Qjaa _)
 rw[Qjax] at h;have key:∃t,lp (Ka3 ⟨x,y.n.x,y.n.y,y.n.z,y.b⟩) ⟨0⟩=(t,⟨((atP x y:Nat):Int)⟩)/\(t=1\/t=2):=by
  rw[show (⟨0⟩:qa9)=⟨((0:Nat):Int)⟩ from rfl,h]
  split
  ·exact⟨1,by rw[Qjb];rfl,.inl rfl⟩
  ·rename_i hn;refine⟨2,?_,.inr rfl⟩
   have:atP x y=x.length:=by
    unfold atP;rw[List.findIdx_eq_length];intro p hp;cases hb:(!decide (ja7 p y<0)) with
    |false=>rfl
    |true=>exact absurd (Qjac.2 ⟨p,hp,hb⟩) hn
   rw[this]
 obtain⟨t,h1,h2⟩:=key;have h3:atP x y<=x.length:=List.findIdx_le_length;have hdef:ins x y=if (atP x y<x.length/\eqP (gL tP x (atP x y)) y=true) then x else wb5 x y (atP x y):=rfl
 generalize atP x y=n at *
 have hlo:inB (n:Int) (x.length+1)=true:=f7 (by omega)
 have hd:(bL tP (x.take n)).length=n:=by rw[<- n7,P7,Qjc];omega
 have hlen:(wb5 x y n).length=x.length+1:=by unfold wb5;simp only[Qjd,List.length_cons,Qjc,Qjv];omega
 have lt:len (bL tP (x.take n))=n:=by rw[n7];exact hd
 have ld:len (bL tP (x.drop n))=x.length-n:=by rw[P7,Qjv]
 have b1:(Nat.beq 1 1&&Nat.ble ((1+(x.length-n))*32) room)=true:=by rw[ca1 (by omega)];rfl
 have b2:(Nat.beq 0 0&&Nat.ble ((0+n)*32) room)=true:=by rw[ca1 (by omega)];rfl
 have e0:app [] (bL tP (x.take n))=bL tP (x.take n):=rfl;have b3:(Nat.beq (0+n) n&&Nat.ble (((0+n)+1)*32) room)=true:=by rw[ca1 (by omega),Qjb,Qjl];rfl
 have l3:len (bL tP (x.take n++[y]))=n+1:=by rw[P7,Qjd,Qjc];simp only[List.length_singleton];omega
 have b4:(Nat.beq ((0+n)+1) (n+1)&&Nat.ble ((((0+n)+1)+(x.length-n))*32) room)=true:=by rw[ca1 (by omega),Qjb,Qjl];rfl
 have z0:∀{k:Nat},Nat.beq k 0=true->k=0:=λ{k} h=>Qjt h
 have fin:ins x y=wb5 x y n->∀m r,m=x.length+1->r=bL tP (wb5 x y n)->Rd (one (r1L tP)) (some (.sl 0 0 m 0,[⟨73,4,r,true,false,0⟩])) (λr=>r=ins x y) :=
  λhq m r hm hr=>Fd5 (by rw[hlen];exact hm) hr hq.symm
 have tail:ins x y=wb5 x y n->Rd (one (r1L tP)) (some (.sl 0 0 (((0+n)+1)+(x.length-n)) 0,[⟨73,4,app (bL tP (x.take n++[y])) (bL tP (x.drop n)),true,false,0⟩])) (λr=>r=ins x y):=λhq=>by
  refine fin hq _ _ (by omega) ?_
  rw[Ra8];unfold wb5;rw[Qjan];rfl
 unfold Kb6;simp only[i5,i8];rw[h1];simp only[Int.toNat_natCast,rc8 x n h3,rc9,lt,ld,b1,b2,e0,b3,cc8,l3,b4,hlo,g9];have main:Rd (one (r1L tP)) (sl (decide ((n:Int)<(x.length:Int))) (sl (inB (n:Int) x.length) (sl (((gL tP x n).n.x==y.n.x)&&(((gL tP x n).n.y==y.n.y)&&(((gL tP x n).n.z==y.n.z)&&(((gL tP x n).b==y.b)&&true)))) (some (eL tP x,[])) (some (.sl 0 0 (((0+n)+1)+(x.length-n)) 0,[⟨73,4,app (bL tP (x.take n++[y])) (bL tP (x.drop n)),true,false,0⟩]))) none) (some (.sl 0 0 (((0+n)+1)+(x.length-n)) 0,[⟨73,4,app (bL tP (x.take n++[y])) (bL tP (x.drop n)),true,false,0⟩]))) (λr=>r=ins x y):=by
  by_cases hn:n<x.length
  ·rw[btD (i6 hn),bt (f7 hn)];exact Rd.sl (λq=>⟨_,x,rfl,zc6 tP x,by rw[hdef,if_pos ⟨hn,q⟩]⟩) λq=>tail (by
    rw[hdef,if_neg λh=>?_]
    have h:=h.2;rw[show eqP (gL tP x n) y=false from q] at h
    cases h)
  ·rw[bfD (r8 hn)];exact tail (by rw[hdef,if_neg λh=>hn h.1])
 rcases h2 with rfl|rfl
 ·exact main
 ·exact main
def Ua1(l:List Pln):Prop:=l.Pairwise LtP
theorem Hc9{x y z:Pln}(h1:LtP x y)(h2:LtP y z):LtP x z:=by unfold LtP at *;omega
theorem Uc2(x:Pln):¬ LtP x x:=by unfold LtP;omega
theorem ne0(x y:Pln):LtP x y\/x=y\/LtP y x:=by
 by_cases h1:LtP x y
 ·exact .inl h1
 ·by_cases h2:LtP y x
  ·exact .inr (.inr h2)
  ·refine .inr (.inl ?_);unfold LtP at h1 h2;have e1:x.n.x=y.n.x:=by omega
   have e2:x.n.y=y.n.y:=by omega
   have e3:x.n.z=y.n.z:=by omega
   have e4:x.b=y.b:=by omega
   cases x with | mk n b=>cases y with | mk m c=>cases n;cases m;simp_all
theorem vd7:∀{l r:List Pln},Ua1 l->Ua1 r->(∀p,p∈l↔p∈r)->l=r
 |[],[],_,_,_=>rfl
 |[],b::r,_,_,h=>by have:=(h b).2 Qjg;cases this
 |a::l,[],_,_,h=>by have:=(h a).1 Qjg;cases this
 |a::l,b::r,hl,hr,h=>by
  obtain⟨hl1,hl2⟩:=Qjq.1 hl;obtain⟨hr1,hr2⟩:=Qjq.1 hr;have hab:a=b:=by
   rcases Qja.1 ((h a).1 Qjg) with e|h1
   ·exact e
   ·rcases Qja.1 ((h b).2 Qjg) with e|h2
    ·exact e.symm
    ·exact absurd (Hc9 (hr1 a h1) (hl1 b h2)) (Uc2 b)
  subst hab;rw[vd7 hl2 hr2 λp=>?_]
  constructor
  ·intro hp
   rcases Qja.1 ((h p).1 (Qje _ hp)) with e|h1
   ·subst e;exact absurd (hl1 p hp) (Uc2 p)
   ·exact h1
  ·intro hp
   rcases Qja.1 ((h p).2 (Qje _ hp)) with e|h1
   ·subst e;exact absurd (hr1 p hp) (Uc2 p)
   ·exact h1
def kb0:List Pln->Pln->List Pln
 |[],y=>[y]
 |a::l,y=>if ja7 a y<0 then a::kb0 l y else if eqP a y then a::l else y::a::l
theorem fe9(y:Pln):∀x,ins x y=kb0 x y
 |[]=>rfl
 |a::l=>by
  have ih:=fe9 y l;unfold kb0;by_cases h:ja7 a y<0
  ·rw[if_pos h,<- ih];have e:atP (a::l) y=atP l y+1:=by unfold atP;rw[Qjam];simp[h]
   unfold ins;rw[e];have e2:gL tP (a::l) (atP l y+1)=gL tP l (atP l y):=rfl;rw[e2];simp only[List.length_cons,Nat.add_lt_add_iff_right];split
   ·rfl
   ·rfl
  ·rw[if_neg h];have e:atP (a::l) y=0:=by unfold atP;rw[Qjam];simp[h]
   unfold ins;rw[e];have e2:gL tP (a::l) 0=a:=rfl;rw[e2];simp only[List.length_cons,Nat.zero_lt_succ,true_and];split
   ·rfl
   ·rfl
theorem xb6(y p:Pln):∀x,p∈kb0 x y↔p=y\/p∈x
 |[]=>by simp[kb0]
 |a::l=>by
  unfold kb0;have ih:=xb6 y p l;split
  ·simp only[Qja,ih];constructor
   ·rintro (h|h|h)
    ·exact .inr (.inl h)
    ·exact .inl h
    ·exact .inr (.inr h)
   ·rintro (h|h|h)
    ·exact .inr (.inl h)
    ·exact .inl h
    ·exact .inr (.inr h)
  ·split
   ·rename_i h;rw[Cb4] at h;subst h;simp only[Qja];constructor
    ·exact λh=>.inr h
    ·rintro (h|h)
     ·exact .inl h
     ·exact h
   ·simp only[Qja]
theorem dc9(y:Pln):∀{x},Ua1 x->Ua1 (kb0 x y)
 |[],_=>List.pairwise_singleton _ _
 |a::l,h=>by
  obtain⟨h1,h2⟩:=Qjq.1 h;unfold kb0;split
  ·rename_i hc;rw[Gd0] at hc;refine Qjq.2 ⟨λp hp=>?_,dc9 y h2⟩
   rcases (xb6 y p l).1 hp with e|hp
   ·subst e;exact hc
   ·exact h1 p hp
  ·rename_i hc;rw[Gd0] at hc;split
   ·exact h
   ·rename_i hne;have hlt:LtP y a:=by
     rcases ne0 y a with h|h|h
     ·exact h
     ·exact absurd ((Cb4 _ _).2 h.symm) hne
     ·exact absurd h hc
    refine Qjq.2 ⟨λp hp=>?_,h⟩
    rcases Qja.1 hp with e|hp
    ·subst e;exact hlt
    ·exact Hc9 hlt (h1 p hp)
theorem Bc3{σ:Type}{step:σ->Stp σ}{s:σ}{t:Nat}(h:step s=.exit t):lp step s=(t,s):=by rw[Be4];exact Xc6 h
theorem vd8:Ta9 []=[]:=Qjai (ic2 [])
theorem Vd2:lean []=[]:=by
 unfold lean;rw[fe7,if_pos rfl,List.filter_nil,vd8];rfl
theorem Mf4(X:List Pt):X6 ⟨X⟩=⟨1,X⟩:=by
 unfold X6 F8 oa7 I5;simp only[i5,i8];rw[Bc3 (step:=ga5 ⟨X⟩) (s:=⟨⟩) (t:=1) rfl];rfl
theorem Af8:da3 ⟨⟩=⟨1⟩:=by
 have h1:F5 ⟨⟩=⟨1⟩:=by
  unfold F5 s7
  simp only
  rw[Bc3 (step:=M8 ⟨⟩) (s:=⟨⟩) (t:=1) rfl];rfl
 have h2:O7 ⟨⟩=⟨1⟩:=by
  unfold O7 B0
  simp only
  rw[Bc3 (step:=K4 ⟨⟩) (s:=⟨⟩) (t:=1) (by
   unfold K4 I7;simp only[h1]
   rfl)]
  rfl
 unfold da3 K9;simp only[h2];rfl
theorem Vd3(x:Unit):Ya6 x=some (.v (.slice none 0 0),[]):=by
 have hn:([]:List Pln).length<=1000000000:=by simp
 unfold Ya6;simp only[i5,i8,rc0 hn,rc1 hn,cd6 hn,cd7 hn,fe7,Mf4,Af8];rfl
theorem Vd4(x:Addr×Nat):Rd (one (r1L tP)) (Ya7 x) (λr=>r=[]):=by
 have hn:([]:List Pln).length<=1000000000:=by simp
 have hX:=Fd3 [];obtain⟨m,r,e1,e2,e3,e4⟩:=vd5 [] (pts []) hn (by omega)
 have hr:r=[]:=Qjai (by simpa using e4)
 subst hr;have hm:m=0:=by simpa using e2
 subst hm;obtain⟨m2,r2,k1,k2,k3⟩:=fd2 [] 0 (by simp) hn
 have e1:I4 ⟨0,[],pts []⟩=_:=e1;unfold Ya7;simp only[i5,i8,rc0 hn,rc1 hn,cd6 hn,cd7 hn,fe7,e1];have hs:app (bL tP (Ta9 (slR tP (bL tP []) 0 0))) (f9 (bL tP []) 0)=bL tP []:=by
  rw[show slR tP (bL tP []) 0 0=[] from rfl,vd8];rfl
 rw[hs,k1];have hfin:r2.take m2=[]:=by rw[k3];rfl
 exact Je9 (P:=λr=>r=[]) k2 rfl hfin
noncomputable def O9(l:List Pln):List Pln:=lean l
noncomputable def s6(l:List Pln):Bool:=decide (l.length<=1000000)
noncomputable def Rb2:Sum:=V1 (R5 tP) λl=>.guard (s6 l) (.ret ((one (r1L tP)).enc (O9 l),[]))
theorem mc8:g7 prog G 98 Rb2:=by
 refine of7 (Gd7 Gd2 λa r hr=>?_) (Gd7 od7 λa r hr=>?_) (Gd7 od9 λa r hr=>?_)
 ·obtain⟨p,c⟩:=a;obtain⟨hg,hr⟩:=DT.run_guard_some hr;have hl:c.length<=1000000:=by
   have:=of_decide_eq_true hg
   simp only[List.length_cons] at this;omega
  rw[of4 p c hl,of5 p c hl];exact hr
 ·obtain⟨hg,hr⟩:=DT.run_guard_some hr;have e:Qb6 a=lean []:=by unfold Qb6;rw[Vd3,Vd2];exact Ca8 _ rfl
  have e2:Qb7 a=true:=by unfold Qb7;rw[Vd3];exact Oa8 (r:=[]) _ rfl
  rw[e,e2];exact hr
 ·obtain⟨hg,hr⟩:=DT.run_guard_some hr;have e:Bc1 a=lean []:=by rw[Vd2];exact (Vd4 a).p
  rw[e,show Bc2 a=true from (Vd4 a).g]
  exact hr
theorem Ze7(l:List Pln){n:Nat}(h:n=l.length):okS tP (bL tP l) 0 n=true:=by subst h;exact Nb0 tP l
theorem Ze8(l:List Pln){n:Nat}(h:n=l.length):slR tP (bL tP l) 0 n=l:=by subst h;exact Mb9 tP l
end Go.Ev.Ce
namespace Go.Ev.Ce
def rmZ(p:Pln)(x:Pt):Int:=p.b*x.pw-(p.n.x*x.px+p.n.y*x.py+p.n.z*x.pz)
structure Inr(r:List Pln)(x:Pt):Prop where
 w:0<x.pw
 h:∀p∈r,0<=rmZ p x
def o3(p:Pln):Pln:=⟨⟨-p.n.x,-p.n.y,-p.n.z⟩,-p.b⟩
theorem R2(p:Pln)(x:Pt):rmZ (o3 p) x=-rmZ p x:=by unfold rmZ o3;grind
structure Cn(r:List Pln)(x:Pt):Prop extends Inr r x where
 c:∃p q s,p∈r/\q∈r/\s∈r/\mw p q s≠0/\rmZ p x=0/\rmZ q x=0/\rmZ s x=0
def Bdd(r:List Pln):Prop:=∀d:V3,d≠⟨0,0,0⟩->∃p∈r,0<dot p.n d
def go(x:Pt)(q:Pln)(d:V3):Pt:=⟨x.px*dot q.n d+rmZ q x*d.x,x.py*dot q.n d+rmZ q x*d.y,x.pz*dot q.n d+rmZ q x*d.z,x.pw*dot q.n d⟩
theorem Vd5(p q:Pln)(x:Pt)(d:V3):rmZ p (go x q d)=dot q.n d*rmZ p x-rmZ q x*dot p.n d:=by simp only[rmZ,go,dot];grind
theorem fb4{a b c:Int}(hc:0<c)(h:a*c<=b*c):a<=b:=Int.le_of_mul_le_mul_right h hc
theorem first(x:Pt)(d:V3):∀r:List Pln,(∀p∈r,0<=rmZ p x)->(∃p∈r,0<dot p.n d)->∃q∈r,0<dot q.n d/\∀p∈r,0<dot p.n d->rmZ q x*dot p.n d<=rmZ p x*dot q.n d
 |[],_,h=>by obtain⟨p,hp,_⟩:=h;cases hp
 |a::r,hx,h=>by
  by_cases hr:∃p∈r,0<dot p.n d
  ·obtain⟨q,hq,h1,h2⟩:=first x d r (λp hp=>hx p (Qje _ hp)) hr
   by_cases ha:0<dot a.n d
   ·by_cases hc:rmZ q x*dot a.n d<=rmZ a x*dot q.n d
    ·refine⟨q,Qje _ hq,h1,λp hp h3=>?_⟩
     rcases Qja.1 hp with rfl|hp
     ·exact hc
     ·exact h2 p hp h3
    ·refine⟨a,Qjg,ha,λp hp h3=>?_⟩
     rcases Qja.1 hp with rfl|hp
     ·exact Int.le_refl _
     ·have h4:=h2 p hp h3;have h5:rmZ a x*dot q.n d<rmZ q x*dot a.n d:=by omega
      have h6:=Qjr h4 (Qjf ha);have h7:=Int.mul_lt_mul_of_pos_right h5 h3;have e1:rmZ q x*dot p.n d*dot a.n d=rmZ q x*dot a.n d*dot p.n d:=by grind
      have e2:rmZ a x*dot q.n d*dot p.n d=rmZ a x*dot p.n d*dot q.n d:=by grind
      have e3:rmZ p x*dot q.n d*dot a.n d=rmZ p x*dot a.n d*dot q.n d:=by grind
      refine fb4 h1 ?_;omega
   ·refine⟨q,Qje _ hq,h1,λp hp h3=>?_⟩
    rcases Qja.1 hp with rfl|hp
    ·exact absurd h3 ha
    ·exact h2 p hp h3
  ·have ha : 0 < dot a.n d := by
    obtain⟨p,hp,h3⟩:=h
    rcases Qja.1 hp with rfl|hp
    ·exact h3
    ·exact absurd ⟨p,hp,h3⟩ hr
   refine⟨a,Qjg,ha,λp hp h3=>?_⟩
   rcases Qja.1 hp with rfl|hp
   ·exact Int.le_refl _
   ·exact absurd ⟨p,hp,h3⟩ hr
theorem step{r:List Pln}{x:Pt}(hx:Inr r x)(d:V3)(h:∃p∈r,0<dot p.n d):∃q∈r,0<dot q.n d/\Inr r (go x q d):=by
 obtain⟨q,hq,h1,h2⟩:=first x d r hx.h h;refine⟨q,hq,h1,⟨Qjab hx.w h1,λp hp=>?_⟩⟩
 rw[Vd5];have h3:=hx.h p hp;have h4:=hx.h q hq;by_cases h5:0<dot p.n d
 ·have:=h2 p hp h5
  have e:rmZ p x*dot q.n d=dot q.n d*rmZ p x:=Int.mul_comm _ _;omega
 ·have h6:=Qjh (Qjf h1) h3;have h7:rmZ q x*dot p.n d<=0:=Int.mul_nonpos_of_nonneg_of_nonpos h4 (by omega)
  omega
theorem Ke7{h q:Pln}{x:Pt}{d:V3}(h1:0<=rmZ q x)(h2:0<=dot h.n d):rmZ h (go x q d)*x.pw<=rmZ h x*(go x q d).pw\/x.pw<=0:=by
 rcases Int.lt_or_le 0 x.pw with hw|hw
 ·left;rw[Vd5]
  have:=Qjh h1 h2
  have h3:=Qjh this (Qjf hw);have e:rmZ h x*(go x q d).pw=dot q.n d*rmZ h x*x.pw:=by unfold go;grind
  have e2:(dot q.n d*rmZ h x-rmZ q x*dot h.n d)*x.pw=dot q.n d*rmZ h x*x.pw-rmZ q x*dot h.n d*x.pw:=by grind
  omega
 ·exact .inr hw
def neg(d:V3):V3:=⟨-d.x,-d.y,-d.z⟩
theorem ne2(a d:V3):dot a (neg d)=-dot a d:=by unfold dot neg;grind
theorem Hd1{d:V3}(h:d≠⟨0,0,0⟩):neg d≠⟨0,0,0⟩:=λh'=>h (by
 cases d;unfold neg at h';simp only[V3.mk.injEq] at h' ⊢;omega)
theorem turn(h:Pln){d:V3}(hd:d≠⟨0,0,0⟩):∃e,e≠(⟨0,0,0⟩:V3)/\0<=dot h.n e/\∀a,dot a d=0->dot a e=0:=by
 by_cases h1:0<=dot h.n d
 ·exact⟨d,hd,h1,λ_ h=>h⟩
 ·exact⟨neg d,Hd1 hd,by rw[ne2];omega,λa h=>by rw[ne2,h];rfl⟩
theorem of8{n:V3}(hn:n≠⟨0,0,0⟩):∃d,d≠(⟨0,0,0⟩:V3)/\dot n d=0:=by
 by_cases h:n.x=0/\n.y=0
 ·exact⟨⟨1,0,0⟩,by simp,by unfold dot;simp[h.1]⟩
 ·refine⟨⟨n.y,-n.x,0⟩,λh'=>h ?_,by unfold dot;grind⟩
  simp only[V3.mk.injEq] at h';omega
theorem V3.ext'{a b:V3}(h1:a.x=b.x)(h2:a.y=b.y)(h3:a.z=b.z):a=b:=by cases a;cases b;simp_all
theorem Vd6{m n d:V3}(hm:m≠⟨0,0,0⟩)(h1:dot m d=0)(h2:dot n d≠0):d9 m n≠⟨0,0,0⟩:=λh=>by
 unfold d9 at h;simp only[V3.mk.injEq] at h;obtain⟨c1,c2,c3⟩:=h;unfold dot at h1 h2;have e1:m.x*(n.x*d.x+n.y*d.y+n.z*d.z)=0:=by grind
 have e2:m.y*(n.x*d.x+n.y*d.y+n.z*d.z)=0:=by grind
 have e3:m.z*(n.x*d.x+n.y*d.y+n.z*d.z)=0:=by grind
 have k:∀{a:Int},a*(n.x*d.x+n.y*d.y+n.z*d.z)=0->a=0:=λh=>(Qjar.1 h).resolve_right h2
 exact hm (V3.ext' (k e1) (k e2) (k e3))
theorem Mc8(a b:V3):dot a (d9 a b)=0:=by unfold dot d9;grind
theorem Mc9(a b:V3):dot b (d9 a b)=0:=by unfold dot d9;grind
theorem Ke8{p q:Pln}{x:Pt}{d:V3}(h:rmZ p x=0)(h':dot p.n d=0):rmZ p (go x q d)=0:=by rw[Vd5,h,h'];simp
theorem Ke9(q:Pln)(x:Pt)(d:V3):rmZ q (go x q d)=0:=by rw[Vd5];grind
theorem Af9{q:Pln}{d:V3}(h:0<dot q.n d):q.n≠⟨0,0,0⟩:=λh'=>by rw[h'] at h;unfold dot at h;simp at h
theorem if1{a b c u v w:Int}(hu:0<u)(hv:0<v)(hw:0<w)(h1:a*v<=b*u)(h2:b*w<=c*v):a*w<=c*u:=by
 have h3:=Qjr h1 (Qjf hw);have h4:=Qjr h2 (Qjf hu);have e1:a*v*w=a*w*v:=by grind
 have e2:b*u*w=b*w*u:=by grind
 have e3:c*v*u=c*u*v:=by grind
 exact fb4 hv (by omega)
theorem Le0{r:List Pln}(hb:Bdd r)(h:Pln){x:Pt}(hx:Inr r x):∃v,Cn r v/\rmZ h v*x.pw<=rmZ h x*v.pw:=by
 obtain⟨d0,n0,p0,_⟩:=turn h (d:=⟨1,0,0⟩) (by simp)
 obtain⟨q1,m1,k1,i1⟩:=step hx d0 (hb d0 n0);have l1:=(Ke7 (h:=h) (x:=x) (hx.h q1 m1) p0).resolve_right (by have:=hx.w;omega)
 obtain⟨e1,ne1,he1⟩:=of8 (Af9 k1);obtain⟨d1,n1,p1,z1⟩:=turn h ne1;obtain⟨q2,m2,k2,i2⟩:=step i1 d1 (hb d1 n1);have l2:=(Ke7 (h:=h) (x:=go x q1 d0) (i1.h q2 m2) p1).resolve_right (by have:=i1.w;omega)
 have hc:=Vd6 (Af9 k1) (z1 _ he1) (n:=q2.n) (by omega)
 obtain⟨d2,n2,p2,z2⟩:=turn h hc;obtain⟨q3,m3,k3,i3⟩:=step i2 d2 (hb d2 n2);have l3:=(Ke7 (h:=h) (x:=go (go x q1 d0) q2 d1) (i2.h q3 m3) p2).resolve_right (by have:=i2.w;omega)
 have a1:rmZ q1 (go (go x q1 d0) q2 d1)=0:=Ke8 (Ke9 _ _ _) (z1 _ he1);refine⟨_,⟨i3,q3,q1,q2,m3,m1,m2,λh0=>?_,Ke9 _ _ _,Ke8 a1 (z2 _ (Mc8 _ _)),Ke8 (Ke9 _ _ _) (z2 _ (Mc9 _ _))⟩,?_⟩
 ·have:dot q3.n d2=0:=z2 _ h0
  omega
 ·exact if1 i3.w i2.w hx.w l3 (if1 i2.w i1.w hx.w l2 l1)
theorem nb3{r:List Pln}(hb:Bdd r){h:Pln}(hv:∀v,Cn r v->0<=rmZ h v){x:Pt}(hx:Inr r x):0<=rmZ h x:=by
 obtain⟨v,h1,h2⟩:=Le0 hb h hx;have h3:=Qjh (hv v h1) (Qjf hx.w);exact fb4 h1.w (by rw[Int.zero_mul];omega)
def mid(x y:Pt):Pt:=⟨x.px*y.pw+y.px*x.pw,x.py*y.pw+y.py*x.pw,x.pz*y.pw+y.pz*x.pw,2*(x.pw*y.pw)⟩
theorem Le1(p:Pln)(x y:Pt):rmZ p (mid x y)=rmZ p x*y.pw+rmZ p y*x.pw:=by unfold rmZ mid;grind
theorem Inr.mid{r:List Pln}{x y:Pt}(hx:Inr r x)(hy:Inr r y):Inr r (mid x y):=⟨by unfold Ce.mid;exact Qjab (by decide) (Qjab hx.w hy.w),λp hp=>by
 rw[Le1];exact Int.add_nonneg (Qjh (hx.h p hp) (Qjf hy.w)) (Qjh (hy.h p hp) (Qjf hx.w))⟩
def Hd2(r:List Pln):Prop:=∃x:Pt,0<x.pw/\∀p∈r,0<rmZ p x
theorem ne3{r:List Pln}:∀(l:List Pln),(∀p∈l,p∈r)->(∃x,Inr r x)->(∀p∈l,∃v,Inr r v/\0<rmZ p v)->∃x,Inr r x/\∀p∈l,0<rmZ p x
 |[],_,h,_=>by obtain⟨x,h⟩:=h;exact⟨x,h,λp hp=>by cases hp⟩
 |a::l,hl,h,hv=>by
  obtain⟨x,h1,h2⟩:=ne3 l (λp hp=>hl p (Qje _ hp)) h (λp hp=>hv p (Qje _ hp))
  obtain⟨y,h3,h4⟩:=hv a Qjg;refine⟨mid x y,h1.mid h3,λp hp=>?_⟩
  rw[Le1]
  rcases Qja.1 hp with rfl|hp
  ·have:=Qjh (h1.h p (hl p Qjg)) (Qjf h3.w)
   have:=Qjab h4 h1.w
   omega
  ·have:=Qjab (h2 p hp) h3.w
   have:=Qjh (h3.h p (hl p (Qje _ hp))) (Qjf h1.w)
   omega
theorem Le2{r:List Pln}(hb:Bdd r)(h0:r≠[]):Hd2 r↔∀p∈r,∃v,Cn r v/\0<rmZ p v:=by
 constructor
 ·intro ⟨x,hw,hx⟩ p hp;by_cases h:∃v,Cn r v/\0<rmZ p v
  ·exact h
  ·have hx':Inr r x:=⟨hw,λq hq=>Qjf (hx q hq)⟩
   have:=nb3 hb (h:=o3 p) (λv hv=>by
    rw[R2]
    have:¬ 0<rmZ p v:=λh'=>h ⟨v,hv,h'⟩
    omega) hx'
   rw[R2] at this
   have:=hx p hp
   omega
 ·intro h;obtain⟨p,hp⟩:=List.exists_mem_of_ne_nil r h0;obtain⟨v,hv,_⟩:=h p hp;obtain⟨x,h1,h2⟩:=ne3 r (λ_ h=>h) ⟨v,hv.toInr⟩ λp hp=>by
   obtain⟨v,hv,h⟩:=h p hp;exact⟨v,hv.toInr,h⟩
  exact⟨x,h1.w,h2⟩
structure Eqv(x v:Pt):Prop where
 e1:x.px*v.pw=v.px*x.pw
 e2:x.py*v.pw=v.py*x.pw
 e3:x.pz*v.pw=v.pz*x.pw
theorem Eqv.rm{x v:Pt}(h:Eqv x v)(p:Pln):rmZ p x*v.pw=rmZ p v*x.pw:=by
 obtain⟨e1,e2,e3⟩:=h;unfold rmZ
 grind
theorem Eqv.inr{r:List Pln}{x v:Pt}(h:Eqv x v)(hw:0<x.pw)(hv:Inr r v):Inr r x:=⟨hw,λp hp=>by
 have:=h.rm p
 have h2:=Qjh (hv.h p hp) (Qjf hw);exact fb4 hv.w (by rw[Int.zero_mul];omega)⟩
end Go.Ev.Ce
namespace Go.Ev.Ce
open Go Go.Ev Go.Ev.L Go.Proofs
theorem ve9{p:Pln}{x:Pt}(hp:Bd p)(hx:Okx x):rm p x=rmZ p x:=by
 unfold rm rmZ;obtain⟨w1,w2,⟨a1,a2⟩,⟨a3,a4⟩,a5,a6⟩:=hx;have h0:=mb hp.b1 hp.b2 (show -600000000000<=x.pw by omega) w2
 have h1:=mb hp.x1 hp.x2 a1 a2;have h2:=mb hp.y1 hp.y2 a3 a4;have h3:=mb hp.z1 hp.z2 a5 a6;exact ha0 (by omega) (by omega)
theorem ne4{r:List Pln}(hb:Bds r){x:Pt}(hx:Okx x):inn r x=true↔Inr r x:=by
 unfold inn;rw[Qjaq];constructor
 ·intro h;refine⟨hx.w1,λp hp=>?_⟩
  have:=h p hp
  rw[ve9 (hb p hp) hx] at this;simpa using this
 ·intro h p hp;rw[ve9 (hb p hp) hx];simpa using h.h p hp
theorem if2{p q s:Pln}(h:(mpt p q s).2=true):mw p q s≠0/\∃k:Int,k≠0/\k*(mpt p q s).1.px=(mv p q s).x/\k*(mpt p q s).1.py=(mv p q s).y/\k*(mpt p q s).1.pz=(mv p q s).z/\k*(mpt p q s).1.pw=mw p q s:=by
 unfold mpt at h ⊢;by_cases h0:mw p q s=0
 ·rw[if_pos h0] at h;cases h
 refine⟨h0,?_⟩;have hg:=bd7 (v:=mv p q s) h0;have dv:∀{x:Int},(gc (mv p q s) (mw p q s))∣x->gc (mv p q s) (mw p q s)*Int.tdiv x (gc (mv p q s) (mw p q s))=x:=λh=>Int.mul_tdiv_cancel' h
 have d1:gc (mv p q s) (mw p q s)∣(mv p q s).x:=by
  rw[<- Qjaj];exact Qjo.2 (Qjal (Qjaf _ _) (Qjaf _ _))
 have d2:gc (mv p q s) (mw p q s)∣(mv p q s).y:=by
  rw[<- Qjaj];exact Qjo.2 (Qjal (Qjaf _ _) (Qjz _ _))
 have d3:gc (mv p q s) (mw p q s)∣(mv p q s).z:=by
  rw[<- Qjaj];exact Qjo.2 (Qjal (Qjz _ _) (Qjaf _ _))
 have d4:gc (mv p q s) (mw p q s)∣mw p q s:=by
  rw[<- Qjaj];exact Qjo.2 (Qjal (Qjz _ _) (Qjz _ _))
 rw[if_neg h0];by_cases h1:mw p q s<0
 ·rw[if_pos h1];have e:∀{x:Int},(gc (mv p q s) (mw p q s))∣x->-(gc (mv p q s) (mw p q s))*Int.tdiv (-x) (gc (mv p q s) (mw p q s))=x:=λ{x} h=>by
   rw[Int.neg_mul,dv ((Int.dvd_neg).2 h),Int.neg_neg]
  exact⟨-(gc (mv p q s) (mw p q s)),by omega,e d1,e d2,e d3,e d4⟩
 ·rw[if_neg h1];exact⟨gc (mv p q s) (mw p q s),by omega,dv d1,dv d2,dv d3,dv d4⟩
theorem Le3{p q s:Pln}(h:(mpt p q s).2=true):rmZ p (mpt p q s).1=0/\rmZ q (mpt p q s).1=0/\rmZ s (mpt p q s).1=0:=by
 obtain⟨_,k,hk,e1,e2,e3,e4⟩:=if2 h;generalize (mpt p q s).1=x at *
 have f:∀a:Pln,a.b*mw p q s-(a.n.x*(mv p q s).x+a.n.y*(mv p q s).y+a.n.z*(mv p q s).z)=0->rmZ a x=0:=λa ha=>by
  rw[<- e1,<- e2,<- e3,<- e4] at ha
  have:k*rmZ a x=0:=by rw[<- ha];unfold rmZ;grind
  exact (Qjar.1 this).resolve_left hk
 refine⟨f p ?_,f q ?_,f s ?_⟩<;>(simp only[mw,mv,dot,d9];grind)
theorem Ze9{p q s:Pln}(h:mw p q s≠0):(mpt p q s).2=true:=by
 unfold mpt;rw[if_neg h]
 split<;>rfl
theorem Le4{p q s:Pln}{x:Pt}(h1:rmZ p x=0)(h2:rmZ q x=0)(h3:rmZ s x=0):mw p q s*x.px=(mv p q s).x*x.pw/\mw p q s*x.py=(mv p q s).y*x.pw/\mw p q s*x.pz=(mv p q s).z*x.pw:=by
 have i1:(mv p q s).x*x.pw-mw p q s*x.px=(d9 q.n s.n).x*rmZ p x+(d9 s.n p.n).x*rmZ q x+(d9 p.n q.n).x*rmZ s x:=by simp only[mw,mv,dot,d9,rmZ];grind
 have i2:(mv p q s).y*x.pw-mw p q s*x.py=(d9 q.n s.n).y*rmZ p x+(d9 s.n p.n).y*rmZ q x+(d9 p.n q.n).y*rmZ s x:=by simp only[mw,mv,dot,d9,rmZ];grind
 have i3:(mv p q s).z*x.pw-mw p q s*x.pz=(d9 q.n s.n).z*rmZ p x+(d9 s.n p.n).z*rmZ q x+(d9 p.n q.n).z*rmZ s x:=by simp only[mw,mv,dot,d9,rmZ];grind
 rw[h1,h2,h3] at i1 i2 i3;simp only[Int.mul_zero,Int.add_zero] at i1 i2 i3;omega
theorem of9{p q s:Pln}{x v:Pt}(h:mw p q s≠0)(h1:rmZ p x=0)(h2:rmZ q x=0)(h3:rmZ s x=0)(k1:rmZ p v=0)(k2:rmZ q v=0)(k3:rmZ s v=0):Eqv x v:=by
 obtain⟨a1,a2,a3⟩:=Le4 h1 h2 h3;obtain⟨c1,c2,c3⟩:=Le4 k1 k2 k3;have f:∀{a c m:Int},mw p q s*a=m*x.pw->mw p q s*c=m*v.pw->a*v.pw=c*x.pw:=λ{a c m} ha hc=>by
  have:mw p q s*(a*v.pw-c*x.pw)=0:=by grind
  have:=(Qjar.1 this).resolve_left h
  omega
 exact⟨f a1 c1,f a2 c2,f a3 c3⟩
theorem we0{r:List Pln}{p q:Pln}{out:List Pt}{s:Pln}{x:Pt}(h:x∈out):x∈Ha4 r p q out s:=by
 unfold Ha4;split
 ·exact List.mem_append_left _ h
 ·exact h
theorem fd9{r:List Pln}{p q:Pln}{x:Pt}:∀{l:List Pln} {out:List Pt},x∈out->x∈mb5 r p q l out
 |[],_,h=>h
 |s::l,out,h=>fd9 (l:=l) (out:=Ha4 r p q out s) (we0 h)
theorem Bc4{r:List Pln}{p:Pln}{x:Pt}:∀{l:List Pln} {out:List Pt},x∈out->x∈Xa8 r p l out
 |[],_,h=>h
 |_::l,_,h=>Bc4 (l:=l) (fd9 h)
theorem Vd7{r:List Pln}{x:Pt}:∀{l:List Pln} {out:List Pt},x∈out->x∈zc3 r l out
 |[],_,h=>h
 |_::l,_,h=>Vd7 (l:=l) (Bc4 h)
theorem we1{r:List Pln}{p q:Pln}{out:List Pt}{s:Pln}(h1:(mpt p q s).2=true)(h2:inn r (mpt p q s).1=true):(mpt p q s).1∈Ha4 r p q out s:=by
 unfold Ha4;rw[h1,h2];cases h:bc5 out (mpt p q s).1 with
 |true=>simpa using (He4 _ _).1 h
 |false=>simp
theorem gd0{r:List Pln}{p q s:Pln}(h1:(mpt p q s).2=true)(h2:inn r (mpt p q s).1=true):∀{l:List Pln} {out:List Pt},s∈l->(mpt p q s).1∈mb5 r p q l out
 |[],_,h=>by cases h
 |t::l,out,h=>by
  show _∈mb5 r p q l (Ha4 r p q out t)
  rcases Qja.1 h with rfl|h
  ·exact fd9 (we1 h1 h2)
  ·exact gd0 h1 h2 h
structure Hit(r:List Pln)(Q:Pt->Prop)(p q s:Pln):Prop where
 h1:(mpt p q s).2=true
 h2:inn r (mpt p q s).1=true
 h3:Q (mpt p q s).1
theorem Vd8{r:List Pln}{Q:Pt->Prop}{p q s:Pln}(hq:Hit r Q p q s)(hs:Hit r Q p s q)(hne:q≠s):∀{l:List Pln} {out:List Pt},q∈l->s∈l->∃x∈Xa8 r p l out,Q x
 |[],_,h,_=>by cases h
 |t::l,out,hql,hsl=>by
  show ∃x∈Xa8 r p l (mb5 r p t l out),Q x
  rcases Qja.1 hql with rfl|h1
  ·have h2:=(Qja.1 hsl).resolve_left λh=>hne h.symm
   exact⟨_,Bc4 (gd0 hq.h1 hq.h2 h2),hq.h3⟩
  ·rcases Qja.1 hsl with rfl|h2
   ·exact⟨_,Bc4 (gd0 hs.h1 hs.h2 h1),hs.h3⟩
   ·exact Vd8 hq hs hne (l:=l) h1 h2
theorem Vd9 {r : List Pln} {Q : Pt → Prop} {p q s : Pln} (H : ∀ a c d, (a = p ∨ a = q ∨ a = s) → (c = p ∨ c = q ∨ c = s) → (d = p ∨ d = q ∨ d = s) → a ≠ c → c ≠ d → a ≠ d → Hit r Q a c d) (h1 : p ≠ q) (h2 : q ≠ s) (h3 : p ≠ s) :
  ∀{l:List Pln} {out:List Pt},p∈l->q∈l->s∈l->∃x∈zc3 r l out,Q x
 |[],_,h,_,_=>by cases h
 |t::l,out,hp,hq,hs=>by
  have fin:∀{a c d:Pln} {out:List Pt},(a=p\/a=q\/a=s)->(c=p\/c=q\/c=s)->(d=p\/d=q\/d=s)->a≠c->c≠d->a≠d->c∈l->d∈l->∃x∈zc3 r l (Xa8 r a l out),Q x:=λha hc hd n1 n2 n3 m1 m2=>by
   obtain⟨x,hx,hQ⟩:=Vd8 (H _ _ _ ha hc hd n1 n2 n3) (H _ _ _ ha hd hc n3 n2.symm n1) n2 (out:=_) m1 m2;exact⟨x,Vd7 hx,hQ⟩
  show ∃x∈zc3 r l (Xa8 r t l out),Q x
  rcases Qja.1 hp with rfl|hp'
  ·exact fin (.inl rfl) (.inr (.inl rfl)) (.inr (.inr rfl)) h1 h2 h3 ((Qja.1 hq).resolve_left (Ne.symm h1)) ((Qja.1 hs).resolve_left (Ne.symm h3))
  ·rcases Qja.1 hq with rfl|hq'
   ·exact fin (.inr (.inl rfl)) (.inl rfl) (.inr (.inr rfl)) (Ne.symm h1) h3 h2 hp' ((Qja.1 hs).resolve_left (Ne.symm h2))
   ·rcases Qja.1 hs with rfl|hs'
    ·exact fin (.inr (.inr rfl)) (.inl rfl) (.inr (.inl rfl)) (Ne.symm h3) h1 (Ne.symm h2) hp' hq'
    ·exact Vd9 H h1 h2 h3 hp' hq' hs'
theorem Bf0{p q s:Pln}(h:mw p q s≠0):p≠q/\q≠s/\p≠s:=by
 refine⟨λe=>h ?_,λe=>h ?_,λe=>h ?_⟩<;>(subst e;simp only[mw,dot,d9];grind)
theorem pf0{r:List Pln}(hb:Bds r):∀x∈cor r,Cn r x:=le9 λp hp q hq s hs h hi=>by
 obtain⟨w1,w2,w3,w4,w5⟩:=ee5 (hb p hp) (hb q hq) (hb s hs) h;obtain⟨e1,e2,e3⟩:=Le3 h;exact⟨(ne4 hb ⟨w1,w5,w2,w3,w4⟩).1 hi,p,q,s,hp,hq,hs,(if2 h).1,e1,e2,e3⟩
theorem Le5{r:List Pln}(hb:Bds r){v:Pt}(hv:Cn r v):∃x∈cor r,Eqv x v:=by
 obtain⟨p,q,s,hp,hq,hs,hw,e1,e2,e3⟩:=hv.c;obtain⟨n1,n2,n3⟩:=Bf0 hw;refine Vd9 (λa c d ha hc hd m1 m2 m3=>?_) n1 n2 n3 hp hq hs
 have hm:∀{a},(a=p\/a=q\/a=s)->a∈r/\rmZ a v=0:=λh=>by
  rcases h with rfl|rfl|rfl
  ·exact⟨hp,e1⟩
  ·exact⟨hq,e2⟩
  ·exact⟨hs,e3⟩
 have hw':mw a c d≠0:=by
  have k:mw a c d=mw p q s\/mw a c d=-mw p q s:=by
   rcases ha with rfl|rfl|rfl<;>rcases hc with rfl|rfl|rfl<;>rcases hd with rfl|rfl|rfl<;>first|exact absurd rfl m1|exact absurd rfl m2|exact absurd rfl m3|exact .inl rfl|(left;simp only[mw,dot,d9];grind;done)|(right;simp only[mw,dot,d9];grind;done)
  rcases k with k|k<;>omega
 have h:=Ze9 hw';obtain⟨w1,w2,w3,w4,w5⟩:=ee5 (hb a (hm ha).1) (hb c (hm hc).1) (hb d (hm hd).1) h;obtain⟨f1,f2,f3⟩:=Le3 h;have he:=of9 hw' f1 f2 f3 (hm ha).2 (hm hc).2 (hm hd).2;exact⟨h,(ne4 hb ⟨w1,w5,w2,w3,w4⟩).2 (he.inr w1 hv.toInr),he⟩
theorem Ic0(c:List Pln):Bdd (c++ws):=λd hd=>by
 have k:∀{n:V3} {m:Int},(⟨n,m⟩:Pln)∈ws->0<dot n d->∃p∈c++ws,0<dot p.n d:=λh h'=>⟨_,List.mem_append_right _ h,h'⟩
 by_cases h1:0<d.x
 ·exact k (n:=⟨1,0,0⟩) (m:=24) (by simp[ws]) (by unfold dot;simp;omega)
 by_cases h2:d.x<0
 ·exact k (n:=⟨-1,0,0⟩) (m:=24) (by simp[ws]) (by unfold dot;simp;omega)
 by_cases h3:0<d.y
 ·exact k (n:=⟨0,1,0⟩) (m:=24) (by simp[ws]) (by unfold dot;simp;omega)
 by_cases h4:d.y<0
 ·exact k (n:=⟨0,-1,0⟩) (m:=24) (by simp[ws]) (by unfold dot;simp;omega)
 by_cases h5:0<d.z
 ·exact k (n:=⟨0,0,1⟩) (m:=24) (by simp[ws]) (by unfold dot;simp;omega)
 by_cases h6:d.z<0
 ·exact k (n:=⟨0,0,-1⟩) (m:=24) (by simp[ws]) (by unfold dot;simp;omega)
 exact absurd (V3.ext' (by show d.x=0;omega) (by show d.y=0;omega) (by show d.z=0;omega)) hd
theorem ne5{r:List Pln}(hb:Bds r){p:Pln}(hp:Bd p):pos (cor r) p=true↔∃v,Cn r v/\0<rmZ p v:=by
 unfold pos;rw[Qjac];constructor
 ·rintro⟨x,hx,h⟩;rw[ve9 hp (Ac3 hb x hx)] at h;exact⟨x,pf0 hb x hx,by simpa using h⟩
 ·rintro⟨v,hv,h⟩;obtain⟨x,hx,he⟩:=Le5 hb hv;refine⟨x,hx,?_⟩;rw[ve9 hp (Ac3 hb x hx)];have h1:=he.rm p;have h2:=Qjab h (Ac3 hb x hx).w1
  have:0<rmZ p x:=Int.lt_of_mul_lt_mul_right (by rw[Int.zero_mul];omega:0*v.pw<rmZ p x*v.pw) (Qjf hv.w)
  simpa using this
theorem Lb2{r:List Pln}(hb:Bds r)(hd:Bdd r)(h0:r≠[]):Qc0 r=true↔Hd2 r:=by
 rw[Le2 hd h0];unfold Qc0;rw[Qjaq];exact⟨λh p hp=>(ne5 hb (hb p hp)).1 (h p hp),λh p hp=>(ne5 hb (hb p hp)).2 (h p hp)⟩
end Go.Ev.Ce
